/-
  Regions, ranges, loops: the evaluator is sound.
-/
import Derived.Test.YtbehbnmljjndiaaGreatDoorV4
import Derived.CallsIn
import Derived.OrdersIn
import Derived.RangeFuncCalls
import Derived.RangeFuncLeaves
import Derived.RangeFuncRecord
import Derived.Scope
import Derived.LoopNIn
set_option linter.unusedVariables false
set_option linter.unusedSimpArgs false
namespace Go.V
section
variable {P : Program} {env : Env} {w w' : World} {m m' : Emb} {os os' : List Ob}

theorem RVL_map {ρ : Operand → AV} {σ : Operand → Value} (h : ∀ x, RV w m os (ρ x) (σ x)) : ∀ (l : List Operand), RVL w m os (l.map ρ) (l.map σ)
  | [] => by rw [List.map_nil, List.map_nil, RVL]
  | x :: l => RVL_cons.2 ⟨_, _, rfl, h x, RVL_map h l⟩
theorem RVO_map {ρ : Operand → AV} {σ : Operand → Value} (h : ∀ x, RV w m os (ρ x) (σ x)) (x : Option Operand) : RVO w m os (x.map ρ) (x.map σ) := by
  cases x with
  | none => trivial
  | some x => exact h x

/-- The fence that asks nothing, in a round or not. -/
def FV (ro : Option Nat) : Fence := { Fence.wide with round := ro }
theorem FV.calls {ro : Option Nat} {n : Nat} {f : FuncId} {args : Array Value} {R : Ending → World → Prop} (h : Calls P f args w R) : CallsIn (FV ro) n P f args w R := by
  cases ro with
  | none => exact callsIn_wide.2 h
  | some l => exact CallsIn.inRound l (callsIn_wide.2 h)
theorem FV.dep {ro : Option Nat} {n : Nat} (h : (FV ro).depth.isSome = true) : 1 ≤ n := by simp [FV, Fence.wide] at h
theorem FV.room {ro : Option Nat} (n : Nat) : (FV ro).room n := fun d h => by cases h
theorem wpIn_exec {ro : Option Nat} {nn : Nat} {o : Oper} {a : Act} {K : Act → World → Prop} {Q : Exit → Act → World → Prop} (hd : ∀ c, o.op ≠ .defer c) (h : o.uponIn (FV ro) nn P a K Q ((execOp a.eval o).run P w)) : o.wpIn (FV ro) nn P a w K Q :=
  ⟨fun _ _ => trivial, by rw [Oper.semAt_eq _ _ _ hd]; exact h⟩

/-- An operation goes on. -/
def Step (P : Program) (env : Env) (w : World) (m : Emb) (os : List Ob) (o : Oper) (a : Act) (x : HM AV) : Prop :=
  ∀ (ro : Option Nat) (nn : Nat) (K : Act → World → Prop) (Q : Exit → Act → World → Prop) n b os' n', x.runAt os n = some (b, os', n') → Fresh os n n' →
    (∀ m' w' v, Next env w m os n w' m' os' n' → RV w' m' os' b v → K (a.put o.dst v) w') → o.wpIn (FV ro) nn P a w K Q
theorem Step.value {o : Oper} {a : Act} {x : HM AV} {s : Sem Value} (h : Does P env w m os x s) (he : execOp a.eval o = (do pure (.value (← s)))) (hd : ∀ c, o.op ≠ .defer c := by intro _ h; cases h) : Step P env w m os o a x := by
  intro ro nn K Q n b os' n' hr hfr hK
  obtain ⟨m', w', v, h1, h2, h3⟩ := h n b os' n' hr hfr
  refine wpIn_exec hd ?_
  rw [he]
  have : (do pure (.value (← s)) : Sem Go.Next).run P w = .ok (.value v) w' := by
    simp only [Sem.run_bind, h1, Result.andThen]
    rfl
  rw [this]
  exact hK m' w' v h2 h3
theorem Step.value' {o : Oper} {a : Act} {x : HM AV} {s : Sem Value} (h : Does P env w m os x s) (he : ∀ v w', s.run P w = .ok v w' → (execOp a.eval o).run P w = .ok (.value v) w') (hd : ∀ c, o.op ≠ .defer c := by intro _ h; cases h) : Step P env w m os o a x := by
  intro ro nn K Q n b os' n' hr hfr hK
  obtain ⟨m', w', v, h1, h2, h3⟩ := h n b os' n' hr hfr
  refine wpIn_exec hd ?_
  rw [he v w' h1]
  exact hK m' w' v h2 h3
theorem Step.unit {o : Oper} {a : Act} {x : HM AV} {s : Sem Unit} (h : DoesU P env w m os x s) (he : execOp a.eval o = (do s; pure .skip)) (hd : ∀ c, o.op ≠ .defer c := by intro _ h; cases h) : Step P env w m os o a x := by
  intro ro nn K Q n b os' n' hr hfr hK
  obtain ⟨m', w', h1, h2, rfl⟩ := h n b os' n' hr hfr
  refine wpIn_exec hd ?_
  rw [he]
  have : (do s; pure .skip : Sem Go.Next).run P w = .ok .skip w' := by
    simp only [Sem.run_bind, h1, Result.andThen]
    rfl
  rw [this]
  exact hK m' w' undef h2 (by simp only [RV])
theorem Step.fail {o : Oper} {a : Act} : Step P env w m os o a .fail := fun _ _ _ _ _ _ _ _ h => by simp [HM.runAt] at h

theorem loadE_does (ok : EnvOK P env) (r : ORel env w m os) {t : TypeId} {a : AV} {av : Value} (ha : RV w m os a av) : Does P env w m os (loadE env t a) (Instr.loadAt t av) :=
  Does.look r fun _ _ _ _ h => loadE_ok ok r ha h
theorem fieldAddrE_does (ok : EnvOK P env) (r : ORel env w m os) {t : TypeId} {x : AV} {xv : Value} {f : Nat} (hx : RV w m os x xv) : Does P env w m os (fieldAddrE env t x f) (Instr.fieldAt t xv f) :=
  Does.look r fun _ _ _ _ h => fieldAddrE_ok ok hx h
theorem extractE_does (r : ORel env w m os) {t : AV} {tv : Value} {i : Nat} (ht : RV w m os t tv) : Does P env w m os (extractE t i) (Instr.extract tv i) :=
  Does.look r fun _ _ _ _ h => by
    obtain ⟨h1, h2, vs, v, rfl, h3, h4⟩ := extractE_ok ht h
    exact ⟨h1, h2, v, by simp [Instr.extract, h3], h4⟩
theorem pickE_does (r : ORel env w m os) {c a b : AV} {cv av bv : Value} (hc : RV w m os c cv) (ha : RV w m os a av) (hb : RV w m os b bv) : Does P env w m os (pickE c a b) (do pure (if ← asBool cv then av else bv)) :=
  Does.look r fun _ _ _ _ h => by
    obtain ⟨h1, h2, t, rfl, h3⟩ := pickE_ok hc ha hb h
    exact ⟨h1, h2, _, by simp [asBool], h3⟩
theorem storeE_does (ok : EnvOK P env) (r : ORel env w m os) {nest : Bool} {t : TypeId} {a x : AV} {av xv : Value} (ha : RV w m os a av) (hx : RV w m os x xv) : DoesU P env w m os (storeE env nest t a x) (Instr.storeAt t av xv) := by
  intro n b os' n' hr hfr
  cases a with
  | ptr o i => obtain ⟨w', h1, h2, h3⟩ := storeVar_ok ok r ha hx hr; exact ⟨m, w', h1, h2, h3⟩
  | ep o j i ext => exact storeElem_ok ok r ha hx hr hfr
  | _ =>
    exfalso
    unfold storeE at hr
    split at hr
    · split at hr <;> simp [HM.runAt] at hr
    · simp [HM.runAt] at hr

theorem builtinE_does (ok : EnvOK P env) (r : ORel env w m os) {nest : Bool} {b : Builtin} {ats : Array TypeId} {ty : TypeId} {cs : Array Bool} {as : List AV} {vs : Array Value} (h : RVL w m os as vs.toList) :
    ∃ s, builtin b ats ty cs vs = (do pure (.value (← s))) ∧ Does P env w m os (builtinE env nest b ats.toList as) s ∨ ∀ n, (builtinE env nest b ats.toList as).runAt os n = none := by
  unfold builtinE
  split
  · -- len
    rename_i t ts x hats
    obtain ⟨v, t', h1, h2, h3⟩ := RVL_cons.1 h
    rw [RVL] at h3; subst h3
    have hv : vs = #[v] := by apply Array.ext'; rw [h1]
    have ha : ats = (t :: ts).toArray := by apply Array.ext'; rw [hats]
    subst hv ha
    exact ⟨_, .inl ⟨rfl, lenE_ok ok r h2⟩⟩
  · -- append
    rename_i t tx ts s x hats
    obtain ⟨sv, t', h1, h2, h3⟩ := RVL_cons.1 h
    obtain ⟨xv, t'', rfl, h4, h5⟩ := RVL_cons.1 h3
    rw [RVL] at h5; subst h5
    have hv : vs = #[sv, xv] := by apply Array.ext'; rw [h1]
    have ha : ats = (t :: tx :: ts).toArray := by apply Array.ext'; rw [hats]
    subst hv ha
    refine ⟨_, .inl ⟨rfl, ?_⟩⟩
    have harg : Builtin.append_ (t :: tx :: ts).toArray ty #[sv, xv] = Builtin.append_ #[t, tx] ty #[sv, xv] := rfl
    rw [harg]
    split
    · rename_i hk
      exact Does.ghost (srcE_ok ok r hk h4) fun m1 os1 xs r1 g1 hsrc => appendE_ok ok r1 (RV.go g1 r _ h2) hsrc
    · exact Does.fail
  · -- copy
    rename_i t ts d x hats
    obtain ⟨sv, t', h1, h2, h3⟩ := RVL_cons.1 h
    obtain ⟨xv, t'', rfl, h4, h5⟩ := RVL_cons.1 h3
    rw [RVL] at h5; subst h5
    have hv : vs = #[sv, xv] := by apply Array.ext'; rw [h1]
    subst hv
    cases ts with
    | nil =>
      have ha : ats = #[t] := by apply Array.ext'; rw [hats]
      subst ha
      refine ⟨_, .inl ⟨rfl, ?_⟩⟩
      have harg : Builtin.copy_ #[t] ty #[sv, xv] = Builtin.copy_ #[t, 0] ty #[sv, xv] := rfl
      rw [harg]
      exact copyE_ok ok r h2 h4
    | cons tx ts =>
      have ha : ats = (t :: tx :: ts).toArray := by apply Array.ext'; rw [hats]
      subst ha
      refine ⟨_, .inl ⟨rfl, ?_⟩⟩
      have harg : Builtin.copy_ (t :: tx :: ts).toArray ty #[sv, xv] = Builtin.copy_ #[t, tx] ty #[sv, xv] := rfl
      rw [harg]
      exact copyE_ok ok r h2 h4
  · exact ⟨_, .inl ⟨rfl, maxE_ok r h⟩⟩
  · exact ⟨_, .inl ⟨rfl, minE_ok r h⟩⟩
  · exact ⟨stuck "", .inr fun _ => rfl⟩

theorem run_call (ok : EnvOK P env) {g : FuncId} {fn : Func} (h1 : P.funcs[g]? = some fn) (h2 : fn.name ≠ "runtime.NumGoroutine") (h3 : fn.body.isNone = false) (args : Array Value) : (callFunc g args).run P w = .ok (.enter g args) w := by
  cases hb : fn.body with
  | none => rw [hb] at h3; simp at h3
  | some c => simp [callFunc, h1, h2, hb]

theorem opE_step (ok : EnvOK P env) {run : FuncId → List AV → List Ob → Option (AV × List Ob)} (hc : CallsV P env run) (hrun : ∀ g args objs r, run g args objs = some r → (env.fn g).isSome = true) (r : ORel env w m os)
    {f : FuncId} {o : Oper} {a : Act} {ρ : Operand → AV} (hρ : ∀ x, RV w m os (ρ x) (a.eval x)) : Step P env w m os o a (opE env f run o.op o.type ρ) := by
  obtain ⟨dst, op, type, pos, after, guard⟩ := o
  cases op with
  | move x => exact Step.value' (s := pure (a.eval x)) (Does.ret r rfl (hρ x)) fun v w' h => by simp only [Sem.run_pure, Result.ok.injEq] at h; obtain ⟨rfl, rfl⟩ := h; rfl
  | assign x => exact Step.value' (assignE_ok r (hρ x)) fun v w' h => by simp only [Sem.run_pure, Result.ok.injEq] at h; obtain ⟨rfl, rfl⟩ := h; rfl
  | pick c x y =>
    refine Step.value' (pickE_does r (hρ c) (hρ x) (hρ y)) fun v w' h => ?_
    simp only [execOp, Sem.run_bind] at h ⊢
    cases hb : (asBool (a.eval c)).run P w with
    | ok t w1 =>
      rw [hb] at h
      simp only [Result.andThen, Sem.run_pure, Result.ok.injEq] at h ⊢
      obtain ⟨rfl, rfl⟩ := h
      exact ⟨rfl, rfl⟩
    | halt h1 w1 => rw [hb] at h; simp [Result.andThen] at h
  | alloc t => exact Step.value (allocE_ok ok r) rfl
  | box t x => exact Step.value (boxE_ok r (hρ x)) rfl
  | build t parts =>
    have hd := buildE_ok (P := P) (pv := parts.map fun (i, x) => (i, a.eval x)) (parts := parts.toList.map fun p => (p.1, ρ p.2)) (t := t) ok r (by simp [List.map_map, Function.comp]) (by
      have := RVL_map hρ (parts.toList.map (·.2))
      simp only [List.map_map, Array.toList_map] at this ⊢
      exact this)
    exact Step.value' hd fun v w' h => by simp only [execOp, Sem.run_bind, h, Result.andThen]; rfl
  | buildSlice t len parts =>
    have hd := buildSliceE_ok (P := P) (nest := env.pol.nest f) (len := len) (pv := parts.map fun (i, x) => (i, a.eval x)) (parts := parts.toList.map fun p => (p.1, ρ p.2)) (t := t) ok r (by simp [List.map_map, Function.comp]) (by
      have := RVL_map hρ (parts.toList.map (·.2))
      simp only [List.map_map, Array.toList_map] at this ⊢
      exact this)
    exact Step.value' hd fun v w' h => by simp only [execOp, Sem.run_bind, h, Result.andThen]; rfl
  | load t x => exact Step.value (loadE_does ok r (hρ x)) rfl
  | store t x y => exact Step.unit (storeE_does ok r (hρ x) (hρ y)) rfl
  | nilCheck x =>
    have h := nilCheckE_ok (P := P) r (hρ x)
    intro ro nn K Q n b os' n' hr hfr hK
    obtain ⟨m', w', v, h1, h2, h3⟩ := h n b os' n' hr hfr
    have hv : w' = w ∧ v = a.eval x ∧ ((∃ p, a.eval x = .pointer (some p)) ∨ ∃ f g c, a.eval x = .func (.func f) g c) := by
      revert h1
      generalize a.eval x = xv
      intro h1
      unfold nilSem at h1
      split at h1
      · injection h1 with h1 h1'; exact ⟨h1'.symm, h1.symm, .inl ⟨_, rfl⟩⟩
      · injection h1 with h1 h1'; exact ⟨h1'.symm, h1.symm, .inr ⟨_, _, _, rfl⟩⟩
      · simp at h1
    obtain ⟨rfl, rfl, hv⟩ := hv
    have he : (execOp a.eval { dst, op := .nilCheck x, type, pos, after, guard }).run P w' = .ok (.value (a.eval x)) w' := by
      simp only [execOp]
      rcases hv with ⟨p, hp⟩ | ⟨f, g, c, hp⟩ <;> rw [hp] <;> rfl
    refine wpIn_exec (by intro _ h; cases h) ?_
    rw [he]
    exact hK m' w' _ h2 h3
  | binOp op t x y yt => exact Step.value (binE_ok ok r (hρ x) (hρ y)) rfl
  | unOp op t x => exact Step.value (unE_ok r (hρ x)) rfl
  | convert s d x => exact Step.value (convE_ok ok r (hρ x)) rfl
  | makeFunc fn first captured =>
    cases fn with
    | func g =>
      simp only [opE]
      split
      · rename_i hf
        have hf' : first = #[] := by simpa using hf
        subst hf'
        refine Step.value' (s := pure (.func (.func g) #[] (captured.map a.eval))) (Does.ret r rfl ?_) fun v w' h => ?_
        · simp only [RV]
          exact ⟨_, rfl, by rw [Array.toList_map]; exact RVL_map hρ _⟩
        · simp only [Sem.run_pure, Result.ok.injEq] at h; obtain ⟨rfl, rfl⟩ := h; simp [execOp, Instr.makeFunc]
      · exact Step.fail
    | _ => exact Step.fail
  | makeMap t rsv =>
    cases rsv with
    | none => exact Step.value (newMap_ok r) rfl
    | some x => exact Step.fail
  | makeSlice t l c => exact Step.value (makeSliceE_ok ok r (hρ l) (hρ c)) rfl
  | slice t x lo hi mx =>
    cases mx with
    | none => exact Step.value (sliceE_ok ok r (hρ x) (RVO_map hρ lo) (RVO_map hρ hi)) rfl
    | some mx => exact Step.value (slice0E_ok ok r (hρ x) (RVO_map hρ lo) (RVO_map hρ hi) (hρ mx)) rfl
  | fieldAddr t x i => exact Step.value (fieldAddrE_does ok r (hρ x)) rfl
  | field t x i => exact Step.value (fieldE_ok ok r (hρ x)) rfl
  | indexAddr t x i => exact Step.value (indexAddrE_ok ok r (hρ x) (hρ i)) rfl
  | index t x i => exact Step.value (indexE_ok ok r (hρ x) (hρ i)) rfl
  | lookup t x k co => exact Step.value (lookupE_ok ok r (hρ x) (hρ k)) rfl
  | mapUpdate t x k y => exact Step.unit (mapUpdateE_ok ok r (hρ x) (hρ k) (hρ y)) rfl
  | insert t x k y => exact Step.unit (mapUpdateE_ok ok r (hρ x) (hρ k) (hρ y)) rfl
  | mapEntry t x k => exact Step.value (mapEntryE_ok ok r (hρ x) (hρ k)) rfl
  | entryStore t x s y => exact Step.unit (entryStoreE_ok r (hρ x) (hρ s) (hρ y)) rfl
  | extract t i => exact Step.value (extractE_does r (hρ t)) rfl
  | call c =>
    obtain ⟨callee, args, argTypes⟩ := c
    cases callee with
    | builtin b =>
      obtain ⟨s, h | h⟩ := builtinE_does ok r (nest := env.pol.nest f) (b := b) (ats := argTypes) (ty := type) (cs := args.map fun | .const _ => true | _ => false) (vs := args.map a.eval) (by rw [Array.toList_map]; exact RVL_map hρ args.toList)
      · exact Step.value h.2 h.1
      · intro ro nn K Q n b' os' n' hr
        rw [show opE env f run _ _ ρ = builtinE env (env.pol.nest f) b argTypes.toList (args.toList.map ρ) from rfl, h n] at hr
        simp at hr
    | value x =>
      intro ro nn K Q n b os' n' hr hfr hK
      have hx := hρ x
      simp only [opE] at hr
      cases hρx : ρ x with
      | fn g caps =>
        rw [hρx] at hr hx
        simp only [RV] at hx
        obtain ⟨vs, hvx, hcaps⟩ := hx
        dsimp only at hr
        have hargs : RVL w m os (args.toList.map ρ ++ caps) (args.map a.eval ++ vs).toList := by
          rw [Array.toList_append, Array.toList_map]; exact RVL_append (RVL_map hρ _) hcaps
        have hexec : ∀ fn, P.funcs[g]? = some fn → fn.name ≠ "runtime.NumGoroutine" → fn.body.isNone = false →
            (execOp a.eval { dst, op := .call { callee := .value x, args, argTypes }, type, pos, after, guard }).run P w = .ok (.enter g (args.map a.eval ++ vs)) w := by
          intro fn q1 q2 q3
          simp only [execOp, resolve, hvx, Deferred.ofValue]
          show (callFunc g ((#[] ++ args.map a.eval) ++ vs)).run P w = _
          rw [Array.empty_append]
          exact run_call ok q1 q2 q3 _
        refine wpIn_exec (by intro _ h; cases h) ?_
        cases hcl : env.ext g with
        | none =>
          rw [hcl] at hr
          dsimp only at hr
          obtain ⟨hcall, hsome⟩ := callE_ok hc hrun r hargs hr hfr
          obtain ⟨fi, hfi⟩ := Option.isSome_iff_exists.1 hsome
          obtain ⟨fn, q1, q2, _, _, q3, _⟩ := ok.fn g fi hfi
          rw [hexec fn q1 q3 (by rw [q2]; rfl)]
          refine ⟨FV.dep, FV.calls ?_⟩
          refine hcall.mono ?_
          rintro e w' ⟨m', vv, rfl, nx, hv⟩
          exact hK m' w' vv nx hv
        | some x =>
          rw [hcl] at hr
          dsimp only at hr
          obtain ⟨hx, fn, q1, q2, q3⟩ := ok.ext g x hcl
          rw [hexec fn q1 q2 q3]
          refine ⟨FV.dep, FV.calls ?_⟩
          refine (hx w m os _ _ r hargs n b os' n' hr hfr).mono ?_
          rintro e w' ⟨m', vv, rfl, nx, hv⟩
          exact hK m' w' vv nx hv
      | _ => rw [hρx] at hr; simp [HM.runAt] at hr
    | invoke rcv name => exact Step.fail
  | _ => exact Step.fail
end
end Go.V
namespace Go.V
section
variable {P : Program} {env : Env} {w w' : World} {m m' : Emb} {os os' : List Ob}

theorem getT_setT (tm : List (Nat × AV)) (d : Nat) (v : AV) (t : Nat) : getT (setT tm d v) t = if t = d then v else getT tm t := by
  rw [setT, getT_cons0]
  by_cases h : t = d
  · rw [if_pos h.symm, if_pos h]
  · rw [if_neg fun h' => h h'.symm, if_neg h]

/-- The marks that ranges over functions have left: each names a block of its own, in which no call lies. -/
def Marks (B : Nat) (ro : Option Nat) (w : World) (m : Emb) (ds : List Deferred) : Prop :=
  B ≤ w.heap.size ∧ (∀ l0, ro = some l0 → ∃ r, w.heap[l0]? = some (.loop r) ∧ m.own l0 = .foreign) ∧ ∃ l : List Nat, l.Nodup ∧ ds = l.map (fun D => { target := .collected D, args := #[] }) ∧ ∀ D ∈ l, B ≤ D ∧ w.heap[D]? = some (.deferred (some [])) ∧ m.own D = .foreign
theorem Marks.kept {B : Nat} {ro : Option Nat} {ds : List Deferred} (h : Marks B ro w m ds) (k : Kept m w m' w') : Marks B ro w' m' ds := by
  obtain ⟨h0, hr, l, h1, h2, h3⟩ := h
  refine ⟨Nat.le_trans h0 k.size, fun l0 hl0 => ?_, l, h1, h2, fun D hD => ?_⟩
  · obtain ⟨r, h4, h5⟩ := hr l0 hl0
    obtain ⟨h6, h7⟩ := k.block l0 (lt_of_heap h4) fun o => by rw [h5]; simp
    exact ⟨r, h6.trans h4, h7.trans h5⟩
  obtain ⟨hb, h4, h5⟩ := h3 D hD
  obtain ⟨h6, h7⟩ := k.block D (lt_of_heap h4) fun o => by rw [h5]; simp
  exact ⟨hb, h6.trans h4, h7.trans h5⟩
theorem Marks.nil {B : Nat} (h : B ≤ w.heap.size) : Marks B none w m [] := ⟨h, fun _ h => by simp at h, [], List.nodup_nil, rfl, fun D h => by simp at h⟩

/-- A frame as it stands in the machine. -/
structure FR (env : Env) (w : World) (m : Emb) (fr : Fr) (N B : Nat) (ro : Option Nat) (a : Act) : Prop where
  rel : ORel env w m fr.objs
  tmps : RT w m fr.objs fr.tmps a.tmps
  size : N ≤ a.tmps.size
  defers : Marks B ro w m a.defers

theorem put_getD {a : Act} {d : Nat} {v : Value} {t : Nat} (h : d < a.tmps.size) : (a.put (some d) v).tmps.getD t undef = if t = d then v else a.tmps.getD t undef := by
  simp only [Act.put, Array.getD_eq_getD_getElem?, Array.getElem?_setIfInBounds]
  by_cases ht : t = d
  · subst ht; simp [h]
  · rw [if_neg ht, if_neg fun h' => ht h'.symm]
theorem RT.put {tm : List (Nat × AV)} {a : Act} {dst : Option Nat} {x : AV} {v : Value} (h : RT w m os tm a.tmps) (hd : ∀ d, dst = some d → d < a.tmps.size) (hx : RV w m os x v) : RT w m os (putT tm dst x) (a.put dst v).tmps := by
  intro t
  cases dst with
  | none => exact h t
  | some d =>
    rw [put_getD (hd d rfl)]
    show RV w m os (getT (setT tm d x) t) _
    rw [getT_setT]
    split
    · exact hx
    · exact h t
theorem put_size {a : Act} {dst : Option Nat} {v : Value} : (a.put dst v).tmps.size = a.tmps.size := by
  cases dst with
  | none => rfl
  | some d => exact Array.size_setIfInBounds
theorem put_defers {a : Act} {dst : Option Nat} {v : Value} : (a.put dst v).defers = a.defers := by cases dst <;> rfl

theorem evalT_ok (r : ORel env w m os) {tm : List (Nat × AV)} {a : Act} (h : RT w m os tm a.tmps) (x : Operand) : RV w m os (evalT env tm x) (a.eval x) := by
  cases x with
  | tmp t => exact h t
  | const v =>
    show RV w m os (ofConst v) v
    by_cases hc : ofConst v = .gone
    · rw [hc]; exact RV_gone
    · exact (ofConst_RV hc).1
  | global g =>
    show RV w m os (match env.glob g with | some e => .fp e 0 | none => .gone) _
    cases hg : env.glob g with
    | none => exact RV_gone
    | some e =>
      obtain ⟨h0, h1, cs, T, fr, h2, h3⟩ := r.glob g e hg
      exact RV_fp.2 ⟨h0, g, 0, cs, T, fr, rfl, fun o => by rw [h1]; simp, h2, cs.toList, [], by simp, h3⟩
  | func f =>
    show RV w m os (.fn f []) (.func (.func f) #[] #[])
    simp only [RV]
    exact ⟨#[], rfl, by rw [RVL]⟩

theorem setOb_len : ∀ (os : List Ob) (o : Nat) (b : Ob), os.length ≤ (setOb os o b).length
  | [], _, _ => Nat.zero_le _
  | _ :: _, 0, _ => by rw [setOb]; exact Nat.le_refl _
  | _ :: os, o + 1, b => by rw [setOb]; simp only [List.length_cons]; have := setOb_len os o b; omega
theorem runAt_len {α : Type} {x : HM α} {os os' : List Ob} {n n' : Nat} {a : α} (h : x.runAt os n = some (a, os', n')) : os.length ≤ os'.length := by
  induction x generalizing os n with
  | ret a => simp only [HM.runAt, Option.some.injEq, Prod.mk.injEq] at h; obtain ⟨_, rfl, _⟩ := h; exact Nat.le_refl _
  | fail => simp [HM.runAt] at h
  | get o k ih => exact ih _ h
  | set o b k ih => exact Nat.le_trans (setOb_len os o b) (ih h)
  | new b k ih => exact Nat.le_trans (setOb_len os n b) (ih _ h)
theorem fresh_len (os : List Ob) (n' : Nat) : Fresh os os.length n' := fun p h _ => obAt_ge os p h

theorem yielded_of {ops : Array Oper} {tm : List (Nat × AV)} {a : Act} (h : RT w m os tm a.tmps) {j : Nat} {d : Tmp} (hd : (ops[j]?).bind (·.dst) = some d) {want b : Bool} (hg : guardV want (getT tm d) = some b) : (yielded ops a.tmps j == some want) = b := by
  have hv := h d
  unfold yielded
  rw [hd, Option.bind_some]
  cases hgt : getT tm d with
  | bool t =>
    rw [hgt] at hv hg
    simp only [RV] at hv
    simp only [guardV, Option.some.injEq] at hg
    have : a.tmps[d]? = some (.bool t) := by
      rw [Array.getD_eq_getD_getElem?] at hv
      cases hx : a.tmps[d]? with
      | none => rw [hx] at hv; simp [undef] at hv
      | some x => rw [hx] at hv; simp only [Option.getD_some] at hv; rw [hv]
    rw [this]
    dsimp only
    rw [← hg]
    cases t <;> cases want <;> rfl
  | und =>
    rw [hgt] at hv hg
    simp only [RV] at hv
    simp only [guardV, Option.some.injEq] at hg
    subst hg
    rw [Array.getD_eq_getD_getElem?] at hv
    cases hx : a.tmps[d]? with
    | none => rfl
    | some x =>
      rw [hx] at hv
      simp only [Option.getD_some] at hv
      rw [hv]
      rfl
  | _ => rw [hgt] at hg; simp [guardV] at hg
theorem wanted_of {ops : Array Oper} {tm : List (Nat × AV)} {a : Act} (h : RT w m os tm a.tmps) {o : Oper} {b : Bool} (hw : wantedV (ops.toList.map (·.dst)) tm o.guard = some b) : Region.wanted o (yielded ops a.tmps) = b := by
  unfold Region.wanted
  cases hg : o.guard with
  | none => rw [hg] at hw; simp only [wantedV, Option.some.injEq] at hw; exact hw
  | some p =>
    obtain ⟨j, want⟩ := p
    rw [hg] at hw
    simp only [wantedV] at hw
    have hj : ((ops.toList.map (·.dst))[j]?).join = (ops[j]?).bind (·.dst) := by
      rw [List.getElem?_map, Array.getElem?_toList]
      cases ops[j]? <;> rfl
    rw [hj] at hw
    cases hd : (ops[j]?).bind (·.dst) with
    | none =>
      rw [hd] at hw
      simp only [Option.some.injEq] at hw
      subst hw
      show (yielded ops a.tmps j == some want) = false
      unfold yielded
      rw [hd]; rfl
    | some d =>
      rw [hd] at hw
      exact yielded_of h hd hw

section
variable {run : FuncId → List AV → List Ob → Option (AV × List Ob)} {ops : Array Oper} {N B : Nat} {ro : Option Nat} {nn : Nat} {f : FuncId}
theorem opsE_ok (ok : EnvOK P env) (hc : CallsV P env run) (hknown : ∀ g args objs r, run g args objs = some r → (env.fn g).isSome = true) {k : Nat} {Q : Exit → Act → World → Prop} :
    ∀ (rest : List Oper) (i : Nat) (fr fr' : Fr) (w : World) (m : Emb) (a : Act), ops.toList.drop i = rest → (∀ o ∈ rest, ∀ d, o.dst = some d → d < N) → k ≤ fr.objs.length → FR env w m fr N B ro a →
      opsE env f run (ops.toList.map (·.dst)) rest fr = some fr' →
      (∀ w' m' a', Went env k w m fr.objs w' m' fr'.objs → FR env w' m' fr' N B ro a' → Q .normal a' w') → wpOpsIn (FV ro) nn P ops Q ((List.range ops.size).drop i) a w
  | [], i, fr, fr', w, m, a, hd, _, hk, hfr, he, hQ => by
    simp only [opsE, Option.some.injEq] at he
    subst he
    have hlen : ops.size ≤ i := by
      rw [List.drop_eq_nil_iff, Array.length_toList] at hd; exact hd
    rw [List.drop_eq_nil_iff.2 (by simpa using hlen)]
    exact hQ w m a (.refl hfr.rel hk) hfr
  | o :: rest, i, fr, fr', w, m, a, hd, hds, hk, hfr, he, hQ => by
    have hlt : i < ops.size := by
      rcases Nat.lt_or_ge i ops.size with h | h
      · exact h
      · rw [List.drop_eq_nil_iff.2 (by simpa using h)] at hd; simp at hd
    have ho : ops[i]? = some o := by
      have : (ops.toList.drop i)[0]? = some o := by rw [hd]; rfl
      rw [List.getElem?_drop] at this
      simpa using this
    have hd' : ops.toList.drop (i + 1) = rest := by
      rw [← List.tail_drop, hd]; rfl
    have hr : (List.range ops.size).drop i = i :: (List.range ops.size).drop (i + 1) := by
      rw [← List.getElem_cons_drop (by simpa using hlt)]; simp
    rw [hr, wpOpsIn, ho]
    dsimp only
    have hdst : ∀ d, o.dst = some d → d < a.tmps.size := fun d h => Nat.lt_of_lt_of_le (hds o (by simp) d h) hfr.size
    rw [opsE] at he
    cases hw : wantedV (ops.toList.map (·.dst)) fr.tmps o.guard with
    | none => rw [hw] at he; simp at he
    | some b =>
      rw [hw] at he
      rw [wanted_of hfr.tmps hw]
      cases b with
      | false =>
        dsimp only at he
        rw [if_neg (by simp)]
        exact ⟨fun _ _ => trivial, opsE_ok ok hc hknown rest (i + 1) { fr with tmps := putT fr.tmps o.dst .und } fr' w m _ hd' (fun o ho => hds o (by simp [ho])) hk ⟨hfr.rel, RT.put (x := .und) hfr.tmps hdst (by simp only [RV]), by rw [put_size]; exact hfr.size, by rw [put_defers]; exact hfr.defers⟩ he hQ⟩
      | true =>
        dsimp only at he
        rw [if_pos rfl]
        cases hrun : (opE env f run o.op o.type (evalT env fr.tmps)).run fr.objs with
        | none => rw [hrun] at he; simp at he
        | some p =>
          obtain ⟨v, objs⟩ := p
          rw [hrun] at he
          dsimp only at he
          unfold HM.run at hrun
          cases hrat : (opE env f run o.op o.type (evalT env fr.tmps)).runAt fr.objs fr.objs.length with
          | none => rw [hrat] at hrun; simp at hrun
          | some q =>
            obtain ⟨v', os', n'⟩ := q
            rw [hrat] at hrun
            simp only [Option.some.injEq, Prod.mk.injEq] at hrun
            obtain ⟨rfl, rfl⟩ := hrun
            refine opE_step ok hc hknown hfr.rel (evalT_ok hfr.rel hfr.tmps) ro nn _ Q _ _ _ _ hrat (fresh_len _ _) fun m' w' vv nx hv => ?_
            have hlen := runAt_len hrat
            refine opsE_ok ok hc hknown rest (i + 1) { tmps := putT fr.tmps o.dst v', objs := os' } fr' w' m' _ hd' (fun o ho => hds o (by simp [ho])) (Nat.le_trans hk hlen) ⟨nx.rel, RT.put (hfr.tmps.go nx.goes hfr.rel) hdst hv, by rw [put_size]; exact hfr.size, by rw [put_defers]; exact hfr.defers.kept nx.goes.kept⟩ he fun w2 m2 a2 wt hf2 => ?_
            exact hQ w2 m2 a2 (Went.trans ⟨nx.rel, nx.goes.kept, fun o _ => nx.goes.obj o, Nat.le_trans hk hlen⟩ wt) hf2
end
end
end Go.V
namespace Go.V

/-! ### States that are put together -/
section
variable {C V : Type} {σ : Nat → C → V} {W : Nat → C → Prop}

/-- What the operations of `S` have left: of each cell what the last that turned it has left, in the order of the list. -/
def Asm (σ : Nat → C → V) (W : Nat → C → Prop) (S : Nat → Prop) (τ : C → V) : Prop :=
  ∀ c, ((∀ k, S k → ¬ W k c) ∧ τ c = σ 0 c) ∨ ∃ k, S k ∧ W k c ∧ (∀ i, S i → k < i → ¬ W i c) ∧ τ c = σ (k + 1) c

theorem same_from (hσ : ∀ k c, ¬ W k c → σ (k + 1) c = σ k c) {c : C} {i : Nat} : ∀ {j : Nat}, i ≤ j → (∀ k, i ≤ k → k < j → ¬ W k c) → σ j c = σ i c
  | 0, h, _ => by have : i = 0 := by omega
                  subst this; rfl
  | j + 1, h, hk => by
    by_cases hi : i = j + 1
    · subst hi; rfl
    · rw [hσ j c (hk j (by omega) (by omega)), same_from hσ (by omega) fun k h1 h2 => hk k h1 (by omega)]
theorem Asm.agree (hσ : ∀ k c, ¬ W k c → σ (k + 1) c = σ k c) {S : Nat → Prop} {τ : C → V} (h : Asm σ W S τ) {j : Nat} {c : C} (hj : ¬ S j) (h1 : ∀ i, i < j → W i c → S i) (h2 : ∀ i, j < i → S i → ¬ W i c) : τ c = σ j c := by
  rcases h c with ⟨h3, h4⟩ | ⟨k, h3, h4, h5, h6⟩
  · rw [h4, same_from hσ (Nat.zero_le j) fun k _ hk hw => h3 k (h1 k hk hw) hw]
  · have hkj : k < j := by
      rcases Nat.lt_or_ge k j with h | h
      · exact h
      · rcases Nat.eq_or_lt_of_le h with he | hlt
        · subst he; exact absurd h3 hj
        · exact absurd h4 (h2 k hlt h3)
    rw [h6, same_from hσ (show k + 1 ≤ j by omega) fun i hi hij hw => h5 i (h1 i hij hw) (by omega) hw]
theorem Asm.update {S : Nat → Prop} {τ τ' : C → V} (h : Asm σ W S τ) {j : Nat} (hin : ∀ c, W j c → τ' c = σ (j + 1) c) (hout : ∀ c, ¬ W j c → τ' c = τ c) (h2 : ∀ c, W j c → ∀ i, j < i → S i → ¬ W i c) :
    Asm σ W (fun i => S i ∨ i = j) τ' := by
  intro c
  by_cases hw : W j c
  · refine .inr ⟨j, .inr rfl, hw, fun i hi hij => ?_, hin c hw⟩
    rcases hi with hi | hi
    · exact h2 c hw i hij hi
    · omega
  · rw [hout c hw]
    rcases h c with ⟨h3, h4⟩ | ⟨k, h3, h4, h5, h6⟩
    · refine .inl ⟨fun k hk => ?_, h4⟩
      rcases hk with hk | hk
      · exact h3 k hk
      · subst hk; exact hw
    · refine .inr ⟨k, .inl h3, h4, fun i hi hki => ?_, h6⟩
      rcases hi with hi | hi
      · exact h5 i hi hki
      · subst hi; exact hw
theorem Asm.final (hσ : ∀ k c, ¬ W k c → σ (k + 1) c = σ k c) {S : Nat → Prop} {τ : C → V} (h : Asm σ W S τ) {N : Nat} (hS : ∀ i, i < N → S i) (hW : ∀ i c, W i c → i < N) (c : C) : τ c = σ N c := by
  rcases h c with ⟨h3, h4⟩ | ⟨k, h3, h4, h5, h6⟩
  · rw [h4, same_from hσ (Nat.zero_le N) fun k _ hk hw => h3 k (hS k hk) hw]
  · have := hW k c h4
    rw [h6, same_from hσ (show k + 1 ≤ N by omega) fun i hi hiN hw => h5 i (hS i hiN) (by omega) hw]
end

/-! ### A step looks at little -/
theorem runF_local {α : Type} {x : HM α} : ∀ {os os1 : List Ob} {n n1 : Nat} {a : α} {ft wr : List Nat}, x.runF os n = some (a, os1, n1, ft, wr) →
    x.runAt os n = some (a, os1, n1) ∧ (∀ os', (∀ p ∈ ft, obAt os' p = obAt os p) → ∃ os1', x.runAt os' n = some (a, os1', n1) ∧ ∀ p, (p ∈ wr → obAt os1' p = obAt os1 p) ∧ (p ∉ wr → obAt os1' p = obAt os' p)) ∧
    (∀ p, p ∉ wr → obAt os1 p = obAt os p) ∧ (∀ p, p ∈ wr → p ∈ ft) ∧ ∀ p, n ≤ p → p < n1 → p ∈ ft := by
  induction x with
  | ret b =>
    intro os os1 n n1 a ft wr h
    simp only [HM.runF, Option.some.injEq, Prod.mk.injEq] at h
    obtain ⟨rfl, rfl, rfl, rfl, rfl⟩ := h
    exact ⟨rfl, fun os' _ => ⟨os', rfl, fun p => ⟨fun h => by simp at h, fun _ => rfl⟩⟩, fun _ _ => rfl, fun p h => by simp at h, fun p h1 h2 => by omega⟩
  | fail => intro os os1 n n1 a ft wr h; simp [HM.runF] at h
  | get o k ih =>
    intro os os1 n n1 a ft wr h
    simp only [HM.runF] at h
    split at h
    case h_2 => simp at h
    rename_i a' os'' n' f' w' hk
    simp only [Option.some.injEq, Prod.mk.injEq] at h
    obtain ⟨rfl, rfl, rfl, rfl, rfl⟩ := h
    obtain ⟨h1, h2, h3, h4, h5⟩ := ih _ hk
    refine ⟨h1, fun os' ha => ?_, h3, fun p hp => List.mem_cons_of_mem _ (h4 p hp), fun p q1 q2 => List.mem_cons_of_mem _ (h5 p q1 q2)⟩
    obtain ⟨os1', q1, q2⟩ := h2 os' fun p hp => ha p (List.mem_cons_of_mem _ hp)
    refine ⟨os1', ?_, q2⟩
    simp only [HM.runAt]
    rw [ha o (by simp)]
    exact q1
  | set o b k ih =>
    intro os os1 n n1 a ft wr h
    simp only [HM.runF] at h
    split at h
    case h_2 => simp at h
    rename_i a' os'' n' f' w' hk
    simp only [Option.some.injEq, Prod.mk.injEq] at h
    obtain ⟨rfl, rfl, rfl, rfl, rfl⟩ := h
    obtain ⟨h1, h2, h3, h4, h5⟩ := ih hk
    refine ⟨h1, fun os' ha => ?_, fun p hp => ?_, fun p hp => ?_, fun p q1 q2 => List.mem_cons_of_mem _ (h5 p q1 q2)⟩
    · obtain ⟨os1', q1, q2⟩ := h2 (setOb os' o b) fun p hp => by
        rw [obAt_setOb, obAt_setOb]
        split
        · rfl
        · exact ha p (List.mem_cons_of_mem _ hp)
      refine ⟨os1', q1, fun p => ⟨fun hp => ?_, fun hp => ?_⟩⟩
      · by_cases hw : p ∈ w'
        · exact (q2 p).1 hw
        · rcases List.mem_cons.1 hp with rfl | hp
          · rw [(q2 p).2 hw, h3 p hw, obAt_setOb, obAt_setOb, if_pos rfl, if_pos rfl]
          · exact absurd hp hw
      · have h6 : p ≠ o ∧ p ∉ w' := by simpa using hp
        rw [(q2 p).2 h6.2, obAt_setOb, if_neg h6.1]
    · have h6 : p ≠ o ∧ p ∉ w' := by simpa using hp
      rw [h3 p h6.2, obAt_setOb, if_neg h6.1]
    · rcases List.mem_cons.1 hp with rfl | hp
      · simp
      · exact List.mem_cons_of_mem _ (h4 p hp)
  | new b k ih =>
    intro os os1 n n1 a ft wr h
    simp only [HM.runF] at h
    split at h
    case h_2 => simp at h
    rename_i a' os'' n' f' w' hk
    simp only [Option.some.injEq, Prod.mk.injEq] at h
    obtain ⟨rfl, rfl, rfl, rfl, rfl⟩ := h
    obtain ⟨h1, h2, h3, h4, h5⟩ := ih n hk
    refine ⟨h1, fun os' ha => ?_, fun p hp => ?_, fun p hp => ?_, fun p q1 q2 => ?_⟩
    · obtain ⟨os1', q1, q2⟩ := h2 (setOb os' n b) fun p hp => by
        rw [obAt_setOb, obAt_setOb]
        split
        · rfl
        · exact ha p (List.mem_cons_of_mem _ hp)
      refine ⟨os1', q1, fun p => ⟨fun hp => ?_, fun hp => ?_⟩⟩
      · by_cases hw : p ∈ w'
        · exact (q2 p).1 hw
        · rcases List.mem_cons.1 hp with rfl | hp
          · rw [(q2 p).2 hw, h3 p hw, obAt_setOb, obAt_setOb, if_pos rfl, if_pos rfl]
          · exact absurd hp hw
      · have h6 : p ≠ n ∧ p ∉ w' := by simpa using hp
        rw [(q2 p).2 h6.2, obAt_setOb, if_neg h6.1]
    · have h6 : p ≠ n ∧ p ∉ w' := by simpa using hp
      rw [h3 p h6.2, obAt_setOb, if_neg h6.1]
    · rcases List.mem_cons.1 hp with rfl | hp
      · simp
      · exact List.mem_cons_of_mem _ (h4 p hp)
    · by_cases hpn : p = n
      · subst hpn; simp
      · exact List.mem_cons_of_mem _ (h5 p (by omega) q2)

/-! ### What must come before -/
def beforeAt (ops : List Oper) (j : Nat) : Nat := (beforeL ops []).getD j 0
theorem beforeL_prefix : ∀ (ops : List Oper) (acc : List Nat), ∃ r, beforeL ops acc = acc ++ r ∧ r.length = ops.length
  | [], acc => ⟨[], by simp [beforeL], rfl⟩
  | o :: ops, acc => by
    obtain ⟨r, h1, h2⟩ := beforeL_prefix ops (acc ++ [beforeOf acc o])
    exact ⟨beforeOf acc o :: r, by rw [beforeL, h1]; simp, by simp [h2]⟩
theorem beforeL_at : ∀ (ops : List Oper) (acc : List Nat) (j : Nat) (o : Oper), ops[j]? = some o → ∃ acc', (beforeL ops acc).getD (acc.length + j) 0 = beforeOf acc' o ∧ acc'.length = acc.length + j ∧ ∀ i, i < acc.length + j → acc'.getD i 0 = (beforeL ops acc).getD i 0
  | [], _, _, _, h => by simp at h
  | o :: ops, acc, 0, o', h => by
    simp only [List.getElem?_cons_zero, Option.some.injEq] at h
    subst h
    obtain ⟨r, h1, h2⟩ := beforeL_prefix ops (acc ++ [beforeOf acc o])
    refine ⟨acc, ?_, rfl, fun i hi => ?_⟩
    · rw [beforeL, h1, List.getD_eq_getElem?_getD, List.append_assoc, List.getElem?_append_right (by omega)]
      simp
    · rw [beforeL, h1, List.getD_eq_getElem?_getD, List.getD_eq_getElem?_getD, List.append_assoc, List.getElem?_append_left (by omega)]
  | o :: ops, acc, j + 1, o', h => by
    obtain ⟨acc', h1, h3, h2⟩ := beforeL_at ops (acc ++ [beforeOf acc o]) j o' (by simpa using h)
    have e : (acc ++ [beforeOf acc o]).length + j = acc.length + (j + 1) := by simp; omega
    rw [e] at h1 h2 h3
    exact ⟨acc', by rw [beforeL]; exact h1, h3, fun i hi => by rw [beforeL]; exact h2 i hi⟩
theorem foldl_testBit (acc : List Nat) (i : Nat) : ∀ (es : List Edge) (s : Nat), (es.foldl (fun s e => if Region.binds .any e then s ||| (2 ^ e.on) ||| acc.getD e.on 0 else s) s).testBit i = true →
    s.testBit i = true ∨ ∃ e ∈ es, Region.binds .any e = true ∧ (e.on = i ∨ (acc.getD e.on 0).testBit i = true)
  | [], s, h => .inl h
  | e :: es, s, h => by
    rw [List.foldl_cons] at h
    rcases foldl_testBit acc i es _ h with h1 | ⟨e', h1, h2, h3⟩
    · split at h1
      · rename_i hb
        rw [Nat.testBit_or, Nat.testBit_or, Bool.or_eq_true, Bool.or_eq_true] at h1
        rcases h1 with (h1 | h1) | h1
        · exact .inl h1
        · refine .inr ⟨e, by simp, hb, .inl ?_⟩
          rw [Nat.testBit_two_pow] at h1
          simpa using h1
        · exact .inr ⟨e, by simp, hb, .inr h1⟩
      · exact .inl h1
    · exact .inr ⟨e', by simp [h1], h2, h3⟩
theorem beforeAt_spec {ops : List Oper} {j i : Nat} {o : Oper} (ho : ops[j]? = some o) (h : (beforeAt ops j).testBit i = true) : ∃ e ∈ o.after.toList, Region.binds .any e = true ∧ (e.on = i ∨ (e.on < j ∧ (beforeAt ops e.on).testBit i = true)) := by
  unfold beforeAt at h
  obtain ⟨acc', h1, h0, h2⟩ := beforeL_at ops [] j o ho
  simp only [List.length_nil, Nat.zero_add] at h0 h1 h2
  rw [h1] at h
  unfold beforeOf at h
  rcases foldl_testBit acc' i _ 0 h with h3 | ⟨e, h3, h4, h5⟩
  · simp at h3
  · refine ⟨e, h3, h4, ?_⟩
    rcases h5 with h5 | h5
    · exact .inl h5
    · by_cases hlt : e.on < j
      · rw [h2 e.on hlt] at h5
        exact .inr ⟨hlt, h5⟩
      · rw [List.getD_eq_getElem?_getD, List.getElem?_eq_none (by omega)] at h5
        simp at h5
theorem mem_unordFrom : ∀ (bs : List Nat) (j0 i j : Nat), j0 ≤ j → j - j0 < bs.length → i < j → (bs.getD (j - j0) 0).testBit i = false → (i, j) ∈ unordFrom j0 bs
  | [], _, _, _, _, h, _, _ => by simp at h
  | b :: bs, j0, i, j, h1, h2, h3, h4 => by
    rw [unordFrom, List.mem_append]
    by_cases hj : j = j0
    · subst hj
      left
      rw [Nat.sub_self, List.getD_cons_zero] at h4
      unfold unordAt
      rw [List.mem_map]
      exact ⟨i, List.mem_filter.2 ⟨List.mem_range.2 h3, by simp [h4]⟩, rfl⟩
    · right
      have e : j - j0 = (j - (j0 + 1)) + 1 := by omega
      rw [e, List.length_cons] at h2
      rw [e, List.getD_cons_succ] at h4
      exact mem_unordFrom bs (j0 + 1) i j (by omega) (by omega) h3 h4
theorem mem_unord {ops : List Oper} {i j : Nat} (hj : j < ops.length) (hi : i < j) (h : (beforeAt ops j).testBit i = false) : (i, j) ∈ unord ops := by
  obtain ⟨r, h1, h2⟩ := beforeL_prefix ops []
  refine mem_unordFrom _ 0 i j (Nat.zero_le _) ?_ hi ?_
  · rw [h1, List.nil_append, h2]; omega
  · rw [Nat.sub_zero]; exact h
theorem indep_spec : ∀ {un : List (Nat × Nat)} {feet : List (List Nat × List Nat)}, indep un feet = true → ∀ i j, (i, j) ∈ un → ∀ f w g x, feet[i]? = some (f, w) → feet[j]? = some (g, x) → (∀ c ∈ w, c ∉ g) ∧ ∀ c ∈ f, c ∉ x
  | [], _, _, _, _, h, _, _, _, _, _, _ => by simp at h
  | (i0, j0) :: r, feet, h, i, j, hm, f, w, g, x, h1, h2 => by
    rw [indep, Bool.and_eq_true] at h
    rcases List.mem_cons.1 hm with he | hm
    · injection he with e1 e2
      subst e1 e2
      have h3 := h.1
      rw [h1, h2] at h3
      dsimp only at h3
      rw [Bool.and_eq_true] at h3
      exact ⟨disj_spec h3.1, disj_spec h3.2⟩
    · exact indep_spec h.2 i j hm f w g x h1 h2
theorem apart_of {ops : Array Oper} (h : apartOps ops = true) {i j : Nat} (hm : (i, j) ∈ unord ops.toList) {x y : Oper} (hx : ops[i]? = some x) (hy : ops[j]? = some y) : x.apart ops y = true := by
  unfold apartOps at h
  rw [List.all_eq_true] at h
  have := h (i, j) hm
  simp only [hx, hy] at this
  exact this

section
variable {P : Program} {env : Env}
theorem opE_congr {f : FuncId} {run : FuncId → List AV → List Ob → Option (AV × List Ob)} {op : Op} {t : TypeId} {ρ σ : Operand → AV} (h : ∀ x ∈ op.operands, ρ x = σ x) : opE env f run op t ρ = opE env f run op t σ := by
  have mp : ∀ (l : List Operand), (∀ x ∈ l, ρ x = σ x) → l.map ρ = l.map σ := fun l hl => List.map_congr_left hl
  have mo : ∀ (l : Option Operand), (∀ x ∈ l.toArray, ρ x = σ x) → l.map ρ = l.map σ := fun l hl => by
    cases l with
    | none => rfl
    | some x => simp only [Option.map_some, hl x (by simp)]
  have mpp : ∀ (l : List (Nat × Operand)), (∀ x ∈ l.map (·.2), ρ x = σ x) → (l.map fun p => (p.1, ρ p.2)) = l.map fun p => (p.1, σ p.2) := fun l hl => List.map_congr_left fun p hp => by rw [hl p.2 (List.mem_map_of_mem hp)]
  cases op with
  | build t parts => simp only [opE]; rw [mpp _ fun x hx => h x (by simpa [Op.operands] using hx)]
  | buildSlice t n parts => simp only [opE]; rw [mpp _ fun x hx => h x (by simpa [Op.operands] using hx)]
  | makeFunc fn first captured =>
    cases fn with
    | func g => simp only [opE]; rw [mp _ fun x hx => h x (by simp only [Op.operands, Array.mem_append]; exact .inr (by simpa using hx))]
    | _ => rfl
  | makeMap t r => cases r <;> rfl
  | slice t x lo hi mx =>
    have h0 : ρ x = σ x := h x (by simp [Op.operands])
    have h1 := mo lo fun y hy => h y (by simp only [Op.operands, Array.mem_append]; exact .inl (.inl (.inr hy)))
    have h2 := mo hi fun y hy => h y (by simp only [Op.operands, Array.mem_append]; exact .inl (.inr hy))
    cases mx with
    | none => simp only [opE, h0, h1, h2]
    | some mx =>
      have h3 : ρ mx = σ mx := h mx (by simp [Op.operands])
      simp only [opE, h0, h1, h2, h3]
  | call c =>
    obtain ⟨callee, args, argTypes⟩ := c
    have ha : args.toList.map ρ = args.toList.map σ := mp _ fun x hx => h x (by simp only [Op.operands, Call.operands, Array.mem_append]; exact .inr (by simpa using hx))
    cases callee with
    | builtin b => simp only [opE, ha]
    | value x =>
      have hx : ρ x = σ x := h x (by simp [Op.operands, Call.operands])
      simp only [opE, ha, hx]
    | invoke r n => rfl
  | alloc t => rfl
  | move x => simp only [opE, h x (by simp [Op.operands])]
  | assign x => simp only [opE, h x (by simp [Op.operands])]
  | box t x => simp only [opE, h x (by simp [Op.operands])]
  | load t x => simp only [opE, h x (by simp [Op.operands])]
  | nilCheck x => simp only [opE, h x (by simp [Op.operands])]
  | unOp o t x => simp only [opE, h x (by simp [Op.operands])]
  | convert s d x => simp only [opE, h x (by simp [Op.operands])]
  | fieldAddr t x i => simp only [opE, h x (by simp [Op.operands])]
  | field t x i => simp only [opE, h x (by simp [Op.operands])]
  | extract x i => simp only [opE, h x (by simp [Op.operands])]
  | pick c a b => simp only [opE, h c (by simp [Op.operands]), h a (by simp [Op.operands]), h b (by simp [Op.operands])]
  | store t a v => simp only [opE, h a (by simp [Op.operands]), h v (by simp [Op.operands])]
  | binOp o t a v t2 => simp only [opE, h a (by simp [Op.operands]), h v (by simp [Op.operands])]
  | makeSlice t a v => simp only [opE, h a (by simp [Op.operands]), h v (by simp [Op.operands])]
  | indexAddr t a v => simp only [opE, h a (by simp [Op.operands]), h v (by simp [Op.operands])]
  | index t a v => simp only [opE, h a (by simp [Op.operands]), h v (by simp [Op.operands])]
  | lookup t a v co => simp only [opE, h a (by simp [Op.operands]), h v (by simp [Op.operands])]
  | mapEntry t a v => simp only [opE, h a (by simp [Op.operands]), h v (by simp [Op.operands])]
  | mapUpdate t a k v => simp only [opE, h a (by simp [Op.operands]), h k (by simp [Op.operands]), h v (by simp [Op.operands])]
  | entryStore t a k v => simp only [opE, h a (by simp [Op.operands]), h k (by simp [Op.operands]), h v (by simp [Op.operands])]
  | insert t a k v => simp only [opE, h a (by simp [Op.operands]), h k (by simp [Op.operands]), h v (by simp [Op.operands])]
  | _ => rfl

/-- One operation in the order of the list. -/
def StepAt (env : Env) (f : FuncId) (run : FuncId → List AV → List Ob → Option (AV × List Ob)) (dl : List (Option Tmp)) (F : Fr) (o : Oper) (F' : Fr) (ft wr : List Nat) : Prop :=
  (wantedV dl F.tmps o.guard = some true ∧ ∃ v n', (opE env f run o.op o.type (evalT env F.tmps)).runF F.objs F.objs.length = some (v, F'.objs, n', ft, wr) ∧ F'.tmps = putT F.tmps o.dst v) ∨
    (wantedV dl F.tmps o.guard = some false ∧ F'.objs = F.objs ∧ F'.tmps = putT F.tmps o.dst .und ∧ ft = [] ∧ wr = [])
theorem opsD_trace {f : FuncId} {run : FuncId → List AV → List Ob → Option (AV × List Ob)} {dl : List (Option Tmp)} : ∀ {L : List Oper} {fr fr' : Fr} {feet : List (List Nat × List Nat)}, opsD env f run dl L fr = some (fr', feet) →
    ∃ F : Nat → Fr, F 0 = fr ∧ F L.length = fr' ∧ ∀ i o, L[i]? = some o → ∃ ft wr, feet[i]? = some (ft, wr) ∧ StepAt env f run dl (F i) o (F (i + 1)) ft wr
  | [], fr, fr', feet, h => by
    simp only [opsD, Option.some.injEq, Prod.mk.injEq] at h
    obtain ⟨rfl, rfl⟩ := h
    exact ⟨fun _ => fr, rfl, rfl, fun i o h => by simp at h⟩
  | o :: L, fr, fr', feet, h => by
    rw [opsD] at h
    have build : ∀ {F1 : Fr} {l : List (List Nat × List Nat)} {ft wr : List Nat}, opsD env f run dl L F1 = some (fr', l) → StepAt env f run dl fr o F1 ft wr → feet = (ft, wr) :: l →
        ∃ F : Nat → Fr, F 0 = fr ∧ F (o :: L).length = fr' ∧ ∀ i o', (o :: L)[i]? = some o' → ∃ ft wr, feet[i]? = some (ft, wr) ∧ StepAt env f run dl (F i) o' (F (i + 1)) ft wr := by
      intro F1 l ft wr h1 h2 h3
      obtain ⟨F, q1, q2, q3⟩ := opsD_trace h1
      refine ⟨fun i => match i with | 0 => fr | i + 1 => F i, rfl, q2, fun i o' hi => ?_⟩
      subst h3
      cases i with
      | zero =>
        simp only [List.getElem?_cons_zero, Option.some.injEq] at hi
        subst hi
        exact ⟨ft, wr, rfl, by rw [← q1] at h2; exact h2⟩
      | succ i => exact q3 i o' (by simpa using hi)
    cases hw : wantedV dl fr.tmps o.guard with
    | none => rw [hw] at h; simp at h
    | some b =>
      rw [hw] at h
      cases b with
      | true =>
        dsimp only at h
        cases hr : (opE env f run o.op o.type (evalT env fr.tmps)).runF fr.objs fr.objs.length with
        | none => rw [hr] at h; simp at h
        | some p =>
          obtain ⟨v, objs, n', ft, wr⟩ := p
          rw [hr] at h
          dsimp only at h
          cases hd : opsD env f run dl L { tmps := putT fr.tmps o.dst v, objs } with
          | none => rw [hd] at h; simp at h
          | some q =>
            obtain ⟨fr2, l⟩ := q
            rw [hd] at h
            simp only [Option.some.injEq, Prod.mk.injEq] at h
            obtain ⟨rfl, rfl⟩ := h
            exact build hd (.inl ⟨hw, v, n', hr, rfl⟩) rfl
      | false =>
        dsimp only at h
        cases hd : opsD env f run dl L { fr with tmps := putT fr.tmps o.dst .und } with
        | none => rw [hd] at h; simp at h
        | some q =>
          obtain ⟨fr2, l⟩ := q
          rw [hd] at h
          simp only [Option.some.injEq, Prod.mk.injEq] at h
          obtain ⟨rfl, rfl⟩ := h
          exact build hd (.inr ⟨hw, rfl, rfl, rfl, rfl⟩) rfl
end
end Go.V
namespace Go.V
section
variable {P : Program} {env : Env} {w w' : World} {m m' : Emb} {os os' : List Ob}

theorem Goes.same (h : ∀ o, obAt os' o = obAt os o) : Goes w m os w m os' := ⟨.refl _ _, fun o => by rw [h o]; exact .refl _ _ _⟩
theorem ORel.same (r : ORel env w m os) (h : ∀ o, obAt os' o = obAt os o) : ORel env w m os' := by
  have g : Goes w m os w m os' := Goes.same h
  refine ⟨fun o => by rw [h o]; exact (r.obs o).go g r rfl fun b h => ⟨rfl, h⟩, fun b o hb => by rw [h o]; exact r.mine b o hb, r.frozen, fun x e he => ?_⟩
  obtain ⟨h0, h1, cs, T, fr, h2, h3⟩ := r.glob x e he
  exact ⟨h0, h1, cs, T, fr, h2, h3.go g r⟩

theorem evalT_congr {tm tm' : List (Nat × AV)} {x : Operand} (h : ∀ t, x = .tmp t → getT tm t = getT tm' t) : evalT env tm x = evalT env tm' x := by
  cases x with
  | tmp t => exact h t rfl
  | _ => rfl
theorem wantedV_congr {ops : Array Oper} {tm tm' : List (Nat × AV)} {o : Oper} (h : ∀ t ∈ o.looksAt ops, getT tm t = getT tm' t) : wantedV (ops.toList.map (·.dst)) tm o.guard = wantedV (ops.toList.map (·.dst)) tm' o.guard := by
  cases hg : o.guard with
  | none => rfl
  | some p =>
    obtain ⟨j, want⟩ := p
    have hj : ((ops.toList.map (·.dst))[j]?).join = (ops[j]?).bind (·.dst) := by
      rw [List.getElem?_map, Array.getElem?_toList]
      cases ops[j]? <;> rfl
    simp only [wantedV, hj]
    cases hd : (ops[j]?).bind (·.dst) with
    | none => rfl
    | some d =>
      have : d ∈ o.looksAt ops := by simp [Oper.looksAt, hg, hd]
      simp only [h d this]

theorem ready_all {ops : Array Oper} (he : edgesOK ops = true) {listed : Array Bool} (hs : listed.size = ops.size) (h : Region.ready .any ops listed = []) : ∀ i, i < ops.size → listed.getD i false = true := by
  have hedge : ∀ i o, ops[i]? = some o → ∀ e ∈ o.after, Region.binds .any e = true → e.on < i := by
    intro i o hi e hee hb
    unfold edgesOK at he
    rw [List.all_eq_true] at he
    have h1 := he (o, i) (by rw [List.mem_zipIdx_iff_getElem?]; simpa using hi)
    rw [Array.all_eq_true_iff_forall_mem] at h1
    have h2 := h1 e hee
    rw [hb] at h2
    simpa using h2
  intro i
  induction i using Nat.strongRecOn with
  | ind i ih =>
    intro hi
    cases hl : listed.getD i false with
    | true => rfl
    | false =>
      exfalso
      have : i ∈ Region.ready .any ops listed := by
        rw [mem_ready]
        refine ⟨?_, ops[i], by simp [hi], fun e hee hb => ?_⟩
        · rw [Array.getD_eq_getD_getElem?] at hl ⊢
          rw [Array.getElem?_eq_getElem (by omega)] at hl ⊢
          simpa using hl
        · have := hedge i ops[i] (by simp [hi]) e hee hb
          exact ih e.on this (by omega)
      rw [h] at this; simp at this

/-- How many are still to come. -/
def missing (listed : Array Bool) : Nat := (listed.toList.filter fun b => !b).length
theorem missing_set {listed : Array Bool} {i : Nat} (hi : i < listed.size) (h : listed.getD i true = false) : missing (listed.setIfInBounds i true) + 1 = missing listed := by
  unfold missing
  rw [Array.toList_setIfInBounds]
  have h' : listed.toList[i]? = some false := by
    rw [Array.getElem?_toList, Array.getElem?_eq_getElem hi]
    rw [Array.getD_eq_getD_getElem?, Array.getElem?_eq_getElem hi] at h
    simpa using h
  generalize listed.toList = l at h'
  clear h hi
  induction l generalizing i with
  | nil => simp at h'
  | cons b l ih =>
    cases i with
    | zero =>
      simp only [List.getElem?_cons_zero, Option.some.injEq] at h'
      subst h'
      simp
    | succ i =>
      have := ih (i := i) (by simpa using h')
      rw [List.set_cons_succ]
      cases b <;> simp [List.filter_cons] <;> omega
theorem missing_zero {listed : Array Bool} (h : missing listed = 0) : ∀ i, i < listed.size → listed.getD i false = true := by
  intro i hi
  unfold missing at h
  rw [List.length_eq_zero_iff, List.filter_eq_nil_iff] at h
  have hm : listed[i] ∈ listed.toList := by simp
  have := h _ hm
  rw [Array.getD_eq_getD_getElem?, Array.getElem?_eq_getElem hi]
  simpa using this
theorem missing_new (n : Nat) : missing (Array.replicate n false) = n := by simp [missing]

section
variable {run : FuncId → List AV → List Ob → Option (AV × List Ob)} {ops : Array Oper} {N B : Nat} {ro : Option Nat} {nn : Nat} {f : FuncId}

/-- A region whose order is open. -/
theorem opsD_ok (ok : EnvOK P env) (hc : CallsV P env run) (hknown : ∀ g args objs r, run g args objs = some r → (env.fn g).isSome = true) {k : Nat} {Q : Exit → Act → World → Prop} {fr fr' : Fr} {feet : List (List Nat × List Nat)}
    {w0 : World} {m0 : Emb} {a0 : Act} (hds : dstOK N ops = true) (hap : apartOps ops = true) (hed : edgesOK ops = true) (hk : k ≤ fr.objs.length) (hf0 : FR env w0 m0 fr N B ro a0)
    (hD : opsD env f run (ops.toList.map (·.dst)) ops.toList fr = some (fr', feet)) (hin : indep (unord ops.toList) feet = true)
    (hQ : ∀ w' m' a', Went env k w0 m0 fr.objs w' m' fr'.objs → FR env w' m' fr' N B ro a' → Q .normal a' w') :
    wpAnyIn (FV ro) nn P .any ops Q ops.size (Array.replicate ops.size false) a0 w0 := by
  obtain ⟨F, hF0, hFN, hFs⟩ := opsD_trace hD
  rw [Array.length_toList] at hFN
  have hstep : ∀ i o, ops[i]? = some o → ∃ ft wr, feet[i]? = some (ft, wr) ∧ StepAt env f run (ops.toList.map (·.dst)) (F i) o (F (i + 1)) ft wr := fun i o h => hFs i o (by rw [Array.getElem?_toList]; exact h)
  -- what is turned
  let WO : Nat → Nat → Prop := fun i c => i < ops.size ∧ ∃ ft wr, feet[i]? = some (ft, wr) ∧ c ∈ wr
  let WT : Nat → Nat → Prop := fun i c => ∃ o, ops[i]? = some o ∧ o.dst = some c
  -- from here on the frames stand still behind the end
  let G : Nat → Fr := fun i => if i ≤ ops.size then F i else F ops.size
  have hG : ∀ i, i ≤ ops.size → G i = F i := fun i h => if_pos h
  have hσO : ∀ i c, ¬ WO i c → obAt (G (i + 1)).objs c = obAt (G i).objs c := by
    intro i c hw
    by_cases hi : i < ops.size
    · rw [hG _ (by omega), hG _ (by omega)]
      obtain ⟨ft, wr, h1, h2⟩ := hstep i ops[i] (by simp [hi])
      rcases h2 with ⟨_, v, n', h3, _⟩ | ⟨_, h3, _⟩
      · obtain ⟨_, _, h4, _⟩ := runF_local h3
        exact h4 c fun hc => hw ⟨hi, ft, wr, h1, hc⟩
      · rw [h3]
    · have e1 : G (i + 1) = F ops.size := if_neg (by omega)
      have e2 : G i = F ops.size := by
        by_cases he : i = ops.size
        · rw [hG i (by omega), he]
        · exact if_neg (by omega)
      rw [e1, e2]
  have hσT : ∀ i c, ¬ WT i c → getT (G (i + 1)).tmps c = getT (G i).tmps c := by
    intro i c hw
    by_cases hi : i < ops.size
    · rw [hG _ (by omega), hG _ (by omega)]
      have hoi : ops[i]? = some ops[i] := by simp [hi]
      obtain ⟨ft, wr, h1, h2⟩ := hstep i ops[i] hoi
      have hput : ∀ v, getT (putT (F i).tmps ops[i].dst v) c = getT (F i).tmps c := by
        intro v
        cases hd : ops[i].dst with
        | none => rfl
        | some d =>
          show getT (setT _ d v) c = _
          rw [getT_setT, if_neg]
          rintro rfl
          exact hw ⟨_, hoi, hd⟩
      rcases h2 with ⟨_, v, n', _, h3⟩ | ⟨_, _, h3, _⟩ <;> rw [h3, hput]
    · have e1 : G (i + 1) = F ops.size := if_neg (by omega)
      have e2 : G i = F ops.size := by
        by_cases he : i = ops.size
        · rw [hG i (by omega), he]
        · exact if_neg (by omega)
      rw [e1, e2]
  -- the invariant
  have main : ∀ (fuel : Nat) (listed : Array Bool) (w : World) (m : Emb) (a : Act) (tS : List (Nat × AV)) (oS : List Ob), missing listed = fuel → listed.size = ops.size →
      (∀ j, listed.getD j false = true → ∀ i, (beforeAt ops.toList j).testBit i = true → listed.getD i false = true) →
      Asm (fun i c => obAt (G i).objs c) WO (fun i => listed.getD i false = true) (obAt oS) → Asm (fun i c => getT (G i).tmps c) WT (fun i => listed.getD i false = true) (getT tS) →
      Went env k w0 m0 fr.objs w m oS → RT w m oS tS a.tmps → N ≤ a.tmps.size → Marks B ro w m a.defers → wpAnyIn (FV ro) nn P .any ops Q fuel listed a w := by
    -- the end
    have done : ∀ (listed : Array Bool) (w : World) (m : Emb) (a : Act) (tS : List (Nat × AV)) (oS : List Ob), (∀ i, i < ops.size → listed.getD i false = true) →
        Asm (fun i c => obAt (G i).objs c) WO (fun i => listed.getD i false = true) (obAt oS) → Asm (fun i c => getT (G i).tmps c) WT (fun i => listed.getD i false = true) (getT tS) →
        Went env k w0 m0 fr.objs w m oS → RT w m oS tS a.tmps → N ≤ a.tmps.size → Marks B ro w m a.defers → Q .normal a w := by
      intro listed w m a tS oS hall hO hT hwt hrt hsz hdf
      have h1 : ∀ c, obAt oS c = obAt fr'.objs c := fun c => by
        have := Asm.final hσO hO hall (fun i c h => h.1) c
        rw [this, hG _ (Nat.le_refl _), hFN]
      have h2 : ∀ c, getT tS c = getT fr'.tmps c := fun c => by
        have := Asm.final hσT hT hall (fun i c h => by obtain ⟨o, h, _⟩ := h; exact (Array.getElem?_eq_some_iff.1 h).1) c
        rw [this, hG _ (Nat.le_refl _), hFN]
      have g : Goes w m oS w m fr'.objs := Goes.same fun c => (h1 c).symm
      have hlen : fr.objs.length ≤ fr'.objs.length := by
        have : ∀ i, i ≤ ops.size → fr.objs.length ≤ (F i).objs.length := by
          intro i
          induction i with
          | zero => intro _; rw [hF0]; exact Nat.le_refl _
          | succ i ih =>
            intro hi
            obtain ⟨ft, wr, _, h2⟩ := hstep i ops[i] (by simp)
            rcases h2 with ⟨_, v, n', h3, _⟩ | ⟨_, h3, _⟩
            · exact Nat.le_trans (ih (by omega)) (runAt_len (runF_local h3).1)
            · rw [h3]; exact ih (by omega)
        rw [← hFN]; exact this _ (Nat.le_refl _)
      refine hQ w m a ⟨hwt.rel.same fun c => (h1 c).symm, hwt.kept, fun o ho => ?_, Nat.le_trans hk hlen⟩ ⟨hwt.rel.same fun c => (h1 c).symm, fun t => ?_, hsz, hdf⟩
      · rw [← h1 o]; exact hwt.obj o ho
      · rw [← h2 t]; exact RV.go g hwt.rel _ (hrt t)
    intro fuel
    induction fuel with
    | zero =>
      intro listed w m a tS oS hmis hsz hcl hO hT hwt hrt hs hdf
      have hall := missing_zero hmis
      rw [hsz] at hall
      refine ⟨?_, done listed w m a tS oS hall hO hT hwt hrt hs hdf⟩
      rw [List.eq_nil_iff_forall_not_mem]
      intro j hj
      obtain ⟨h1, o, h2, _⟩ := mem_ready.1 hj
      have hlt := (Array.getElem?_eq_some_iff.1 h2).1
      have := hall j hlt
      rw [Array.getD_eq_getD_getElem?, Array.getElem?_eq_getElem (by omega)] at h1 this
      simp at h1 this
      rw [h1] at this; simp at this
    | succ fuel ih =>
      intro listed w m a tS oS hmis hsz hcl hO hT hwt hrt hs hdf
      refine ⟨fun hr => done listed w m a tS oS (ready_all hed hsz hr) hO hT hwt hrt hs hdf, fun j hj => ?_⟩
      obtain ⟨hj1, o, hjo, hj2⟩ := mem_ready.1 hj
      have hlt := (Array.getElem?_eq_some_iff.1 hjo).1
      have hjn : ¬ listed.getD j false = true := by
        rw [Array.getD_eq_getD_getElem?, Array.getElem?_eq_getElem (by omega)] at hj1 ⊢
        simpa using hj1
      -- what must come before has come
      have hbef : ∀ i, (beforeAt ops.toList j).testBit i = true → listed.getD i false = true := by
        intro i hi
        obtain ⟨e, he1, he2, he3⟩ := beforeAt_spec (by rw [Array.getElem?_toList]; exact hjo) hi
        have hon := hj2 e (by simpa using he1) he2
        rcases he3 with rfl | ⟨_, he3⟩
        · exact hon
        · exact hcl e.on hon i he3
      obtain ⟨ft, wr, hft, hsj⟩ := hstep j o hjo
      have hGj : G j = F j := hG j (by omega)
      have hGj1 : G (j + 1) = F (j + 1) := hG (j + 1) (by omega)
      -- objects
      have hO1 : ∀ c ∈ ft, ∀ i, i < j → WO i c → listed.getD i false = true := by
        rintro c hc i hij ⟨hi, f', w', hf', hw'⟩
        cases hb : (beforeAt ops.toList j).testBit i with
        | true => exact hbef i hb
        | false => exact absurd hc ((indep_spec hin i j (mem_unord (by simpa using hlt) hij hb) f' w' ft wr hf' hft).1 c hw')
      have hO2 : ∀ c ∈ ft, ∀ i, j < i → listed.getD i false = true → ¬ WO i c := by
        rintro c hc i hij hli ⟨hi, f', w', hf', hw'⟩
        cases hb : (beforeAt ops.toList i).testBit j with
        | true => exact hjn (hcl i hli j hb)
        | false => exact (indep_spec hin j i (mem_unord (by simpa using hi) hij hb) ft wr f' w' hft hf').2 c hc hw'
      have hagO : ∀ c ∈ ft, obAt oS c = obAt (F j).objs c := fun c hc => by
        have := hO.agree hσO hjn (hO1 c hc) (hO2 c hc)
        rw [this, hGj]
      -- slots
      have hTap : ∀ i x, ops[i]? = some x → i < j → (beforeAt ops.toList j).testBit i = false → x.apart ops o = true := fun i x hx hij hb => apart_of hap (mem_unord (by simpa using hlt) hij hb) hx hjo
      have hTap2 : ∀ i x, ops[i]? = some x → j < i → (beforeAt ops.toList i).testBit j = false → o.apart ops x = true := fun i x hx hij hb => apart_of hap (mem_unord (by simpa using (Array.getElem?_eq_some_iff.1 hx).1) hij hb) hjo hx
      have hT1 : ∀ c, (c ∈ o.looksAt ops ∨ o.dst = some c) → ∀ i, i < j → WT i c → listed.getD i false = true := by
        rintro c hc i hij ⟨x, hx, hxd⟩
        cases hb : (beforeAt ops.toList j).testBit i with
        | true => exact hbef i hb
        | false =>
          obtain ⟨q1, q2, _⟩ := Oper.apart_spec (hTap i x hx hij hb)
          rcases hc with hc | hc
          · exact absurd hc (q1 c hxd)
          · exact absurd hc (q2 c hxd)
      have hT2 : ∀ c, (c ∈ o.looksAt ops ∨ o.dst = some c) → ∀ i, j < i → listed.getD i false = true → ¬ WT i c := by
        rintro c hc i hij hli ⟨x, hx, hxd⟩
        cases hb : (beforeAt ops.toList i).testBit j with
        | true => exact hjn (hcl i hli j hb)
        | false =>
          obtain ⟨_, q2, q3⟩ := Oper.apart_spec (hTap2 i x hx hij hb)
          rcases hc with hc | hc
          · exact q3 c hxd hc
          · exact q2 c hc hxd
      have hagT : ∀ c ∈ o.looksAt ops, getT tS c = getT (F j).tmps c := fun c hc => by
        have := hT.agree hσT hjn (hT1 c (.inl hc)) (hT2 c (.inl hc))
        rw [this, hGj]
      have hwanted : wantedV (ops.toList.map (·.dst)) tS o.guard = wantedV (ops.toList.map (·.dst)) (F j).tmps o.guard := wantedV_congr hagT
      have hdst : ∀ d, o.dst = some d → d < a.tmps.size := by
        intro d hd
        unfold dstOK at hds
        rw [Array.all_eq_true_iff_forall_mem] at hds
        have := hds o (Array.mem_of_getElem? hjo)
        rw [hd] at this
        exact Nat.lt_of_lt_of_le (by simpa using this) hs
      -- the next state
      have hset : ∀ i, (listed.setIfInBounds j true).getD i false = true ↔ (listed.getD i false = true ∨ i = j) := by
        intro i
        rw [Array.getD_eq_getD_getElem?, Array.getD_eq_getD_getElem?, Array.getElem?_setIfInBounds]
        by_cases hij : j = i
        · subst hij
          have : j < listed.size := by omega
          simp [this]
        · rw [if_neg hij]
          constructor
          · exact .inl
          · rintro (h | h)
            · exact h
            · exact absurd h.symm hij
      have next : ∀ (w' : World) (m' : Emb) (v : AV) (vv : Value) (oS' : List Ob), Marks B ro w' m' a.defers → Went env k w0 m0 fr.objs w' m' oS' → RT w' m' oS' tS a.tmps → RV w' m' oS' v vv → (F (j + 1)).tmps = putT (F j).tmps o.dst v →
          (∀ c, (c ∈ wr → obAt oS' c = obAt (F (j + 1)).objs c) ∧ (c ∉ wr → obAt oS' c = obAt oS c)) → (∀ c ∈ wr, c ∈ ft) → wpAnyIn (FV ro) nn P .any ops Q fuel (listed.setIfInBounds j true) (a.put o.dst vv) w' := by
        intro w' m' v vv oS' hdf' hwt' hrt' hv htm hob hwf
        refine ih _ w' m' _ (putT tS o.dst v) oS' ?_ (by rw [Array.size_setIfInBounds]; exact hsz) ?_ ?_ ?_ hwt' (RT.put hrt' hdst hv) (by rw [put_size]; exact hs) (by rw [put_defers]; exact hdf')
        · have := missing_set (listed := listed) (i := j) (by omega) hj1
          omega
        · intro i hi p hp
          rw [hset] at hi ⊢
          rcases hi with hi | rfl
          · exact .inl (hcl i hi p hp)
          · exact .inl (hbef p hp)
        · have hWj : ∀ c, WO j c ↔ c ∈ wr := by
            intro c
            constructor
            · rintro ⟨_, f', w', h1, h2⟩
              rw [hft] at h1
              simp only [Option.some.injEq, Prod.mk.injEq] at h1
              obtain ⟨_, rfl⟩ := h1
              exact h2
            · exact fun h => ⟨hlt, ft, wr, hft, h⟩
          have := hO.update (j := j) (τ' := obAt oS') (fun c hc => by rw [hGj1]; exact (hob c).1 ((hWj c).1 hc)) (fun c hc => (hob c).2 fun h => hc ((hWj c).2 h)) (fun c hc => hO2 c (hwf c ((hWj c).1 hc)))
          intro c
          rcases this c with ⟨q1, q2⟩ | ⟨i, q1, q2, q3, q4⟩
          · exact .inl ⟨fun i hi => q1 i ((hset i).1 hi), q2⟩
          · exact .inr ⟨i, (hset i).2 q1, q2, fun p hp => q3 p ((hset p).1 hp), q4⟩
        · have hWj : ∀ c, WT j c ↔ o.dst = some c := by
            intro c
            constructor
            · rintro ⟨x, h1, h2⟩; rw [hjo] at h1; injection h1 with h1; subst h1; exact h2
            · exact fun h => ⟨o, hjo, h⟩
          have hput : ∀ (tm : List (Nat × AV)) c, getT (putT tm o.dst v) c = if o.dst = some c then v else getT tm c := by
            intro tm c
            cases hd : o.dst with
            | none => rw [if_neg (by simp)]; rfl
            | some d =>
              show getT (setT tm d v) c = _
              rw [getT_setT]
              by_cases hcd : c = d
              · subst hcd; rw [if_pos rfl, if_pos rfl]
              · rw [if_neg hcd, if_neg (by simp only [Option.some.injEq]; exact fun h => hcd h.symm)]
          have := hT.update (j := j) (τ' := getT (putT tS o.dst v)) (fun c hc => by
              have hc := (hWj c).1 hc
              rw [hGj1, htm, hput, hput, if_pos hc, if_pos hc]) (fun c hc => by rw [hput, if_neg fun h => hc ((hWj c).2 h)]) (fun c hc => hT2 c (.inr ((hWj c).1 hc)))
          intro c
          rcases this c with ⟨q1, q2⟩ | ⟨i, q1, q2, q3, q4⟩
          · exact .inl ⟨fun i hi => q1 i ((hset i).1 hi), q2⟩
          · exact .inr ⟨i, (hset i).2 q1, q2, fun p hp => q3 p ((hset p).1 hp), q4⟩
      unfold wpOpIn
      rw [hjo]
      dsimp only
      rcases hsj with ⟨hw, v, n', hrunF, htm⟩ | ⟨hw, hobj, htm, rfl, rfl⟩
      · rw [wanted_of hrt (hwanted.trans hw), if_pos rfl]
        obtain ⟨_, hloc, _, hsub, hnew⟩ := runF_local hrunF
        obtain ⟨oS', hrun', hob⟩ := hloc oS hagO
        have hop : opE env f run o.op o.type (evalT env (F j).tmps) = opE env f run o.op o.type (evalT env tS) := opE_congr fun x hx => evalT_congr fun t ht => (hagT t (by
          subst ht
          exact List.mem_append_left _ (List.mem_filterMap.2 ⟨.tmp t, by simpa using hx, rfl⟩))).symm
        rw [hop] at hrun'
        have hfr' : Fresh oS (F j).objs.length n' := fun p h1 h2 => by
          rw [hagO p (hnew p h1 h2)]; exact obAt_ge _ _ h1
        refine opE_step ok hc hknown hwt.rel (evalT_ok hwt.rel hrt) ro nn _ Q _ _ _ _ hrun' hfr' fun m' w' vv nx hv => ?_
        have hlen : k ≤ oS'.length := Nat.le_trans hwt.len (runAt_len hrun')
        exact next w' m' v vv oS' (hdf.kept nx.goes.kept) (hwt.trans ⟨nx.rel, nx.goes.kept, fun p _ => nx.goes.obj p, hlen⟩) (hrt.go nx.goes hwt.rel) hv htm hob hsub
      · rw [wanted_of hrt (hwanted.trans hw), if_neg (by simp)]
        exact ⟨fun _ _ => trivial, next w m .und undef oS hdf hwt hrt (by simp only [RV]) htm (fun c => ⟨fun h => by simp at h, fun _ => rfl⟩) (fun c h => by simp at h)⟩
  refine main ops.size _ w0 m0 a0 fr.tmps fr.objs (missing_new _) (by simp) (fun j hj => ?_) (fun c => ?_) (fun c => ?_) (.refl hf0.rel hk) hf0.tmps hf0.size hf0.defers
  · rw [Array.getD_eq_getD_getElem?, Array.getElem?_replicate] at hj
    split at hj <;> simp at hj
  · refine .inl ⟨fun i hi => ?_, by show obAt fr.objs c = obAt (G 0).objs c; rw [hG 0 (Nat.zero_le _), hF0]⟩
    have hi : (Array.replicate ops.size false).getD i false = true := hi
    rw [Array.getD_eq_getD_getElem?, Array.getElem?_replicate] at hi
    split at hi <;> simp at hi
  · refine .inl ⟨fun i hi => ?_, by show getT fr.tmps c = getT (G 0).tmps c; rw [hG 0 (Nat.zero_le _), hF0]⟩
    have hi : (Array.replicate ops.size false).getD i false = true := hi
    rw [Array.getD_eq_getD_getElem?, Array.getElem?_replicate] at hi
    split at hi <;> simp at hi
end
end
end Go.V
namespace Go.V
section
variable {P : Program} {env : Env} {w w' : World} {m m' : Emb} {os os' : List Ob}

/-- Cells and maps lie as they lay: what else the machine keeps may have turned. -/
structure LikeW (w w' : World) : Prop where
  size : w'.heap.size = w.heap.size
  os : w'.os = w.os
  tape : w'.tape = w.tape
  output : w'.output = w.output
  cells : ∀ (b : Nat) cs T fr, w.heap[b]? = some (.cells cs T fr) → w'.heap[b]? = some (.cells cs T fr)
  map : ∀ (b : Nat) es clock, w.heap[b]? = some (.map es clock) → w'.heap[b]? = some (.map es clock)
theorem LikeW.refl (w : World) : LikeW w w := ⟨rfl, rfl, rfl, rfl, fun _ _ _ _ h => h, fun _ _ _ h => h⟩
theorem LikeW.trans {w1 w2 : World} (h : LikeW w w1) (k : LikeW w1 w2) : LikeW w w2 :=
  ⟨k.size.trans h.size, k.os.trans h.os, k.tape.trans h.tape, k.output.trans h.output, fun _ _ _ _ h1 => k.cells _ _ _ _ (h.cells _ _ _ _ h1), fun _ _ _ h1 => k.map _ _ _ (h.map _ _ _ h1)⟩
theorem LikeW.put {l : Nat} {x y : Obj} (h : w.heap[l]? = some x) (hc : ∀ cs T fr, x ≠ .cells cs T fr) (hm : ∀ es clock, x ≠ .map es clock) : LikeW w (w.putObj l y) := {
  size := by simp
  os := rfl
  tape := rfl
  output := rfl
  cells b cs T fr hb := by
    rw [World.putObj_heap_other (by rintro rfl; rw [h] at hb; injection hb with hb; exact hc _ _ _ hb)]; exact hb
  map b es clock hb := by
    rw [World.putObj_heap_other (by rintro rfl; rw [h] at hb; injection hb with hb; exact hm _ _ hb)]; exact hb }
theorem cellsN_some {b n : Nat} : cellsN w b = some n ↔ ∃ cs T fr, w.heap[b]? = some (.cells cs T fr) ∧ cs.size = n := by
  unfold cellsN
  constructor
  · intro h
    split at h
    · rename_i cs T fr hb
      simp only [Option.some.injEq] at h
      exact ⟨cs, T, fr, hb, h⟩
    · simp at h
  · rintro ⟨cs, T, fr, h1, h2⟩
    rw [h1]; simp [h2]
theorem LikeW.cellsN (g : LikeW w w') {b n : Nat} (h : cellsN w b = some n) : V.cellsN w' b = some n := by
  obtain ⟨cs, T, fr, h1, h2⟩ := cellsN_some.1 h
  exact cellsN_some.2 ⟨cs, T, fr, g.cells _ _ _ _ h1, h2⟩
theorem Slc.likeW {bk : Option Nat} {size off len ext : Nat} {v : Value} (g : LikeW w w') (h : Slc w bk size off len ext v) : Slc w' bk size off len ext v := by
  rcases h with ⟨b, p, cap, n, h1, h2, h0, h3, h4⟩ | h
  · exact .inl ⟨b, p, cap, n, h1, h2, h0, g.cellsN h3, h4⟩
  · exact .inr h
theorem RArr.likeW (g : LikeW w w') {o off len ext : Nat} {v : Value} (h : RArr w m os o off len ext v) : RArr w' m os o off len ext v := by
  refine ⟨h.1, ?_⟩
  have h := h.2
  revert h
  cases obAt os o <;> intro h <;> first
    | trivial
    | exact h.elim
    | exact ⟨h.1, fun he hl => (h.2 he hl).likeW g⟩
theorem RStamp.likeW (g : LikeW w w') {o j : Nat} {v : Value} (h : RStamp w m os o j v) : RStamp w' m os o j v := by
  refine ⟨h.1, ?_⟩
  have h := h.2
  revert h
  cases obAt os o <;> intro h <;> first
    | trivial
    | exact h.elim
    | (obtain ⟨b, es, clock, me, g1, g2, g4, g5⟩ := h
       exact ⟨b, es, clock, me, g1, g.map _ _ _ g2, g4, g5⟩)
mutual
theorem RV.likeW (g : LikeW w w') : ∀ (a : AV) {v : Value}, RV w m os a v → RV w' m os a v
  | .int _ _, _, h => h
  | .bool _, _, h => h
  | .str _, _, h => h
  | .agg cs, _, h => by
    simp only [RV] at h ⊢
    obtain ⟨vs, h1, h2, h3⟩ := h
    exact ⟨vs, h1, h2, RVL.likeW g cs h3⟩
  | .sl es, _, h => by
    simp only [RV] at h ⊢
    obtain ⟨h0, a, cap, h1, hle, h2⟩ := h
    refine ⟨h0, a, cap, h1, hle, ?_⟩
    rcases h2 with h2 | ⟨b, off, cs, T, fr, size, h2, h3, h4, h5⟩
    · exact .inl h2
    · exact .inr ⟨b, off, cs, T, fr, size, h2, h3, g.cells _ _ _ _ h4, RVE.likeW g size es h5⟩
  | .lsl es, _, h => by
    simp only [RV] at h ⊢
    obtain ⟨h0, a, cap, h1, hle, h2⟩ := h
    refine ⟨h0, a, cap, h1, hle, ?_⟩
    rcases h2 with h2 | ⟨b, off, cs, T, fr, size, h2, h3, h4, h5⟩
    · exact .inl h2
    · exact .inr ⟨b, off, cs, T, fr, size, h2, h3, g.cells _ _ _ _ h4, RVE.likeW g size es h5⟩
  | .gone, _, _ => by simp only [RV]
  | .nils, _, h => by simpa only [RV] using h
  | .arr .., _, h => by simp only [RV] at h ⊢; exact h.likeW g
  | .ptr .., _, h => by simpa only [RV] using h
  | .ep .., _, h => by simpa only [RV] using h
  | .fp e i, _, h => by
    obtain ⟨h0, b, off, cs, T, fr, h1, h2, h3, vs, rest, h4, h5⟩ := RV_fp.1 h
    exact RV_fp.2 ⟨h0, b, off, cs, T, fr, h1, h2, g.cells _ _ _ _ h3, vs, rest, h4, RVC.likeW' g e h5⟩
  | .nilp, _, h => by simpa only [RV] using h
  | .mp _, _, h => by simpa only [RV] using h
  | .nilm, _, h => by simpa only [RV] using h
  | .fn f cs, _, h => by
    simp only [RV] at h ⊢
    obtain ⟨vs, h1, h3⟩ := h
    exact ⟨vs, h1, RVL.likeW g cs h3⟩
  | .nilf, _, h => by simpa only [RV] using h
  | .tup cs, _, h => by
    simp only [RV] at h ⊢
    obtain ⟨vs, h1, h3⟩ := h
    exact ⟨vs, h1, RVL.likeW g cs h3⟩
  | .stamp .., _, h => by simp only [RV] at h ⊢; exact h.likeW g
  | .und, _, h => by simpa only [RV] using h
  | .any, _, h => by simpa only [RV] using h
termination_by a => (SizeOf.sizeOf a, 0)
decreasing_by all_goals (apply Prod.Lex.left; simp; try omega)
theorem RVL.likeW (g : LikeW w w') : ∀ (cs : List AV) {vs : List Value}, RVL w m os cs vs → RVL w' m os cs vs
  | [], _, h => by simpa only [RVL] using h
  | c :: cs, _, h => by
    simp only [RVL] at h ⊢
    obtain ⟨v, t, h1, h2, h3⟩ := h
    exact ⟨v, t, h1, RV.likeW g c h2, RVL.likeW g cs h3⟩
termination_by cs => (SizeOf.sizeOf cs, 0)
decreasing_by all_goals (apply Prod.Lex.left; simp; try omega)
theorem RVC.likeW' (g : LikeW w w') : ∀ (e : AV) {vs : List Value}, RVC w m os e vs → RVC w' m os e vs
  | .agg ds, _, h => ⟨h.1, RVL.likeW g ds h.2⟩
  | .int _ _, _, ⟨h, v, h1, h2⟩ => ⟨h, v, h1, RV.likeW g _ h2⟩
  | .bool _, _, ⟨h, v, h1, h2⟩ => ⟨h, v, h1, RV.likeW g _ h2⟩
  | .str _, _, ⟨h, v, h1, h2⟩ => ⟨h, v, h1, RV.likeW g _ h2⟩
  | .sl es, _, ⟨h, v, h1, h2⟩ => ⟨h, v, h1, RV.likeW g (.sl es) h2⟩
  | .lsl es, _, ⟨h, v, h1, h2⟩ => ⟨h, v, h1, RV.likeW g (.lsl es) h2⟩
  | .gone, _, ⟨h, _⟩ => by simp [AV.plain] at h
  | .nils, _, ⟨h, v, h1, h2⟩ => ⟨h, v, h1, RV.likeW g _ h2⟩
  | .arr .., _, ⟨h, v, h1, h2⟩ => ⟨h, v, h1, RV.likeW g _ h2⟩
  | .ptr .., _, ⟨h, v, h1, h2⟩ => ⟨h, v, h1, RV.likeW g _ h2⟩
  | .ep .., _, ⟨h, v, h1, h2⟩ => ⟨h, v, h1, RV.likeW g _ h2⟩
  | .fp e i, _, ⟨h, v, h1, h2⟩ => ⟨h, v, h1, RV.likeW g (.fp e i) h2⟩
  | .nilp, _, ⟨h, v, h1, h2⟩ => ⟨h, v, h1, RV.likeW g _ h2⟩
  | .mp _, _, ⟨h, v, h1, h2⟩ => ⟨h, v, h1, RV.likeW g _ h2⟩
  | .nilm, _, ⟨h, v, h1, h2⟩ => ⟨h, v, h1, RV.likeW g _ h2⟩
  | .fn f cs, _, ⟨h, v, h1, h2⟩ => ⟨h, v, h1, RV.likeW g (.fn f cs) h2⟩
  | .nilf, _, ⟨h, v, h1, h2⟩ => ⟨h, v, h1, RV.likeW g _ h2⟩
  | .tup cs, _, ⟨h, _⟩ => by simp [AV.plain] at h
  | .stamp .., _, ⟨h, v, h1, h2⟩ => ⟨h, v, h1, RV.likeW g _ h2⟩
  | .und, _, ⟨h, _⟩ => by simp [AV.plain] at h
  | .any, _, ⟨h, v, h1, h2⟩ => ⟨h, v, h1, RV.likeW g _ h2⟩
termination_by e => (SizeOf.sizeOf e, 1)
decreasing_by all_goals first | (apply Prod.Lex.left; simp; done) | (apply Prod.Lex.right; decide)
theorem RVE.likeW (g : LikeW w w') : ∀ (size : Nat) (es : List AV) {vs : List Value}, RVE w m os size es vs → RVE w' m os size es vs
  | _, [], _, _ => by rw [RVE]; trivial
  | size, e :: es, l, h => by
    obtain ⟨vs, rest, h1, h2, h3, h4⟩ := RVE_cons.1 h
    exact RVE_cons.2 ⟨vs, rest, h1, h2, RVC.likeW' g e h3, RVE.likeW g size es h4⟩
termination_by _ es => (SizeOf.sizeOf es, 0)
decreasing_by all_goals (apply Prod.Lex.left; simp; try omega)
end
theorem ROM.likeW (g : LikeW w w') : ∀ {ents : List (AV × AV)} {es : List MapEntry}, ROM w m os ents es → ROM w' m os ents es
  | [], _, h => h
  | (_, _) :: _, _, ⟨me, rest, h1, h2, h3, h4, h5⟩ => ⟨me, rest, h1, h2, RV.likeW g _ h3, RV.likeW g _ h4, ROM.likeW g h5⟩
theorem RO.likeW (g : LikeW w w') {o : Nat} {ob : Ob} (h : RO w m os o ob) : RO w' m os o ob := by
  cases ob with
  | var e size lk =>
    obtain ⟨b, cs, T, fr, h1, h2, h3, h4, h5, h6⟩ := h
    exact ⟨b, cs, T, fr, h1, g.cells _ _ _ _ h2, h3, h4, RVC.likeW' g _ h5, h6⟩
  | row es size lk =>
    rcases h with ⟨h1, h2⟩ | ⟨b, cs, T, fr, h1, h2, h3, h4, h6⟩
    · exact .inl ⟨h1, h2⟩
    · exact .inr ⟨b, cs, T, fr, h1, g.cells _ _ _ _ h2, h3, RVE.likeW g _ _ h4, h6⟩
  | map ents lk =>
    obtain ⟨b, es, clock, h1, h2, h3, h4, h5, h6⟩ := h
    exact ⟨b, es, clock, h1, g.map _ _ _ h2, ROM.likeW g h3, h4, h5, h6⟩
  | dead => trivial
  | free => trivial
theorem ORel.likeW (g : LikeW w w') (r : ORel env w m os) : ORel env w' m os := {
  obs o := (r.obs o).likeW g
  mine b o h := by obtain ⟨h1, h2⟩ := r.mine b o h; exact ⟨by rw [g.size]; exact h1, h2⟩
  frozen b h := by rw [g.size]; exact r.frozen b h
  glob x e h := by
    obtain ⟨h0, h1, cs, T, fr, h2, h3⟩ := r.glob x e h
    exact ⟨h0, h1, cs, T, fr, g.cells _ _ _ _ h2, RVC.likeW' g _ h3⟩ }
theorem RT.likeW (g : LikeW w w') {tm : List (Nat × AV)} {tmps : Array Value} (h : RT w m os tm tmps) : RT w' m os tm tmps := fun t => RV.likeW g _ (h t)
/-- Blocks from some number on may turn too. -/
theorem Kept.likeW {w0 : World} {m0 : Emb} (k : Kept m0 w0 m w) (g : LikeW w w') (hb : ∀ b, b < w0.heap.size → (∀ o, m0.own b ≠ .mine o) → w'.heap[b]? = w.heap[b]?) : Kept m0 w0 m w' := {
  size := by rw [g.size]; exact k.size
  os := g.os.trans k.os
  tape := g.tape.trans k.tape
  output := g.output.trans k.output
  block b h1 h2 := ⟨(hb b h1 h2).trans (k.block b h1 h2).1, (k.block b h1 h2).2⟩
  cells b n h := g.cellsN (k.cells b n h) }
theorem ObGo.likeW {w0 : World} {k k' : Option Nat} {b b' : Ob} (g : LikeW w w') (h : ObGo w0 k w k' b b') : ObGo w0 k w' k' b b' := by
  cases b <;> cases b' <;> simp only [ObGo] at h ⊢ <;> try trivial
  obtain ⟨h1, h3⟩ := h
  refine ⟨h1, fun b es clock j me hb h4 h5 => ?_⟩
  obtain ⟨es', c', me', h6, h7, h8⟩ := h3 b es clock j me hb h4 h5
  exact ⟨es', c', me', g.map _ _ _ h6, h7, h8⟩
theorem Went.likeW {k : Nat} {w0 : World} {m0 : Emb} {os0 : List Ob} (h : Went env k w0 m0 os0 w m os) (g : LikeW w w') (hb : ∀ b, b < w0.heap.size → (∀ o, m0.own b ≠ .mine o) → w'.heap[b]? = w.heap[b]?) : Went env k w0 m0 os0 w' m os :=
  ⟨h.rel.likeW g, h.kept.likeW g hb, fun o ho => (h.obj o ho).likeW g, h.len⟩
/-- The marks are taken at a function's end. -/
theorem leaves_marks {F : Fence} {n B : Nat} {fn : Func} {tmps : Array Value} {R : Ending → World → Prop} {ro : Option Nat} {ds : List Deferred} (h : Marks B ro w m ds)
    (hR : ∀ w1, LikeW w w1 → (∀ b, b < B → w1.heap[b]? = w.heap[b]?) → ∃ v, (results fn tmps).run P w1 = .ok v w1 ∧ R (.returned v) w1) : LeavesInM F n P fn tmps R ds .returning w := by
  obtain ⟨h0, hr0, l, h1, rfl, h3⟩ := h
  clear h0 hr0
  induction l generalizing w with
  | nil => exact hR w (.refl w) fun _ _ => rfl
  | cons D l ih =>
    obtain ⟨hb, hD, ho⟩ := h3 D (by simp)
    have hn := List.nodup_cons.1 h1
    rw [List.map_cons, LeavesInM]
    have g : LikeW w (w.putObj D (.deferred none)) := .put hD (by simp) (by simp)
    refine ⟨by simp, .inl ⟨D, w.putObj D (.deferred none), rfl, run_takeDeferred hD, ih (fun w1 k hk => ?_) hn.2 fun D' hD' => ?_⟩⟩
    · refine hR w1 (g.trans k) fun b hlt => (hk b hlt).trans (World.putObj_heap_other (by omega))
    · obtain ⟨q1, q2, q3⟩ := h3 D' (by simp [hD'])
      exact ⟨q1, (World.putObj_heap_other (by rintro rfl; exact hn.1 hD')).trans q2, q3⟩
end
end Go.V
namespace Go.V

section
variable {P : Program} {w : World}
theorem ops_step {F : Fence} {n : Nat} {ops : Array Oper} {Q : Exit → Act → World → Prop} {i : Nat} {rest : List Nat} {a : Act} {o : Oper} {v : Value} {w' : World} (hF : ∀ f, F.fn f) (ho : ops[i]? = some o) (hg : o.guard = none) (hd : ∀ c, o.op ≠ .defer c)
    (he : (execOp a.eval o).run P w = .ok (.value v) w') (h : wpOpsIn F n P ops Q rest (a.put o.dst v) w') : wpOpsIn F n P ops Q (i :: rest) a w := by
  rw [wpOpsIn, ho]
  dsimp only
  rw [show Region.wanted o (yielded ops a.tmps) = true by simp [Region.wanted, hg], if_pos rfl]
  refine ⟨fun f _ => hF f, ?_⟩
  rw [Oper.semAt_eq _ _ _ hd, he]
  exact h
theorem ops_put {n : Nat} {ops : Array Oper} {Q : Exit → Act → World → Prop} {i d : Nat} {rest : List Nat} {a : Act} {o : Oper} {v : Value} {w' : World} (ho : ops[i]? = some o) (hdst : o.dst = some d) (hg : o.guard = none) (hd : ∀ c, o.op ≠ .defer c)
    (he : (execOp a.eval o).run P w = .ok (.value v) w') (h : wpOpsIn Fence.wide n P ops Q rest (a.put (some d) v) w') : wpOpsIn Fence.wide n P ops Q (i :: rest) a w :=
  ops_step (fun _ => trivial) ho hg hd he (by rw [hdst]; exact h)
theorem eval_tmp {a : Act} {t : Nat} : a.eval (.tmp t) = a.tmps.getD t undef := rfl
theorem put_get {a : Act} {d t : Nat} {v : Value} (h : d < a.tmps.size) : (a.put (some d) v).tmps.getD t undef = if t = d then v else a.tmps.getD t undef := put_getD h

theorem get_ne {a : Act} {d t : Nat} {v : Value} (h : d < a.tmps.size) (hn : t ≠ d) : (a.put (some d) v).tmps.getD t undef = a.tmps.getD t undef := by rw [put_get h, if_neg hn]
theorem get_eq {a : Act} {d : Nat} {v : Value} (h : d < a.tmps.size) : (a.put (some d) v).tmps.getD d undef = v := by rw [put_get h, if_pos rfl]
theorem results_none {fn : Func} {tmps : Array Value} (h : fn.results = #[]) : (results fn tmps).run P w = .ok (.tuple #[]) w := by
  unfold results
  simp [h]
/-- How the activation stands when `i` elements are to come. -/
structure BackAt (y c : Value) (i : Nat) (a : Act) : Prop where
  size : a.tmps.size = 19
  defers : a.defers = []
  yield : a.tmps.getD 0 undef = y
  slice : a.tmps.getD 1 undef = c
  idx : a.tmps.getD 3 undef = .int .i64 ((i : Int) - 1)
theorem wrap_i64 {n : Int} (h : -9223372036854775808 ≤ n) (h2 : n < 9223372036854775808) : IntKind.i64.wrap n = n := by
  show (if (true && decide (n % 18446744073709551616 ≥ 9223372036854775808)) = true then n % 18446744073709551616 - 18446744073709551616 else n % 18446744073709551616) = n
  by_cases hn : 0 ≤ n
  · have : n % 18446744073709551616 = n := Int.emod_eq_of_lt hn (by omega)
    simp [this]; omega
  · have : n % 18446744073709551616 = n + 18446744073709551616 := by omega
    simp [this]; omega
theorem run_len_slice {a : Act} {t e ti : TypeId} {x : Operand} {p : Option Addr} {n cap : Nat} {d : Option Nat} {pos : String} {l : List Edge} (h : a.eval x = .slice p n cap) (hu : P.underlying t = some (.slice e)) :
    (execOp a.eval { dst := d, op := .call { callee := .builtin .len, args := #[x], argTypes := #[t] }, type := ti, pos, after := l.toArray, guard := none }).run P w = .ok (.value (.int .i64 n)) w := by
  have h2 : (Builtin.len_ #[t] ti #[.slice p n cap]).run P w = .ok (.int .i64 n) w := by simp [Builtin.len_, run_underlying hu]; rfl
  have e : execOp a.eval { dst := d, op := .call { callee := .builtin .len, args := #[x], argTypes := #[t] }, type := ti, pos, after := l.toArray, guard := none } = (do pure (.value (← Builtin.len_ #[t] ti (#[x].map a.eval)))) := rfl
  rw [show #[x].map a.eval = #[a.eval x] by simp] at e
  rw [e, h]
  simp only [Sem.run_bind, h2, Result.andThen]
  rfl
theorem run_val {a : Act} {o : Oper} {s : Sem Value} {v : Value} {w' : World} (h : s.run P w = .ok v w') (e : execOp a.eval o = (do pure (.value (← s)))) : (execOp a.eval o).run P w = .ok (.value v) w' := by
  rw [e]
  simp only [Sem.run_bind, h, Result.andThen]
  rfl
theorem run_bin {a : Act} {d : Option Tmp} {op : BinOp} {t tt ty : TypeId} {x y : Operand} {vx vy v : Value} {pos : String} {l : Array Edge} (hx : a.eval x = vx) (hy : a.eval y = vy) (h : (do eqGuard op t x y vx vy; binOp op t vx vy : Sem Value).run P w = .ok v w) :
    (execOp a.eval { dst := d, op := .binOp op t x y tt, type := ty, pos, after := l, guard := none }).run P w = .ok (.value v) w := by
  subst hx hy
  exact run_val h rfl
theorem run_move' {a : Act} {d : Option Tmp} {ty : TypeId} {x : Operand} {v : Value} {pos : String} {l : Array Edge} (hx : a.eval x = v) :
    (execOp a.eval { dst := d, op := .move x, type := ty, pos, after := l, guard := none }).run P w = .ok (.value v) w := by
  subst hx; rfl
theorem run_assign' {a : Act} {d : Option Tmp} {ty : TypeId} {x : Operand} {v : Value} {pos : String} {l : Array Edge} (hx : a.eval x = v) :
    (execOp a.eval { dst := d, op := .assign x, type := ty, pos, after := l, guard := none }).run P w = .ok (.value v) w := by
  subst hx; rfl
theorem run_load' {a : Act} {d : Option Tmp} {t ty : TypeId} {x : Operand} {p v : Value} {pos : String} {l : Array Edge} (hx : a.eval x = p) (h : (Instr.loadAt t p).run P w = .ok v w) :
    (execOp a.eval { dst := d, op := .load t x, type := ty, pos, after := l, guard := none }).run P w = .ok (.value v) w := by
  subst hx
  exact run_val h rfl
theorem run_index' {a : Act} {d : Option Tmp} {t ty : TypeId} {x y : Operand} {vx vy v : Value} {pos : String} {l : Array Edge} (hx : a.eval x = vx) (hy : a.eval y = vy) (h : (Instr.indexAt t vx vy).run P w = .ok v w) :
    (execOp a.eval { dst := d, op := .indexAddr t x y, type := ty, pos, after := l, guard := none }).run P w = .ok (.value v) w := by
  subst hx hy
  exact run_val h rfl
theorem run_not' {a : Act} {d : Option Tmp} {t ty : TypeId} {x : Operand} {b : Bool} {pos : String} {l : Array Edge} (hx : a.eval x = .bool b) :
    (execOp a.eval { dst := d, op := .unOp .not t x, type := ty, pos, after := l, guard := none }).run P w = .ok (.value (.bool !b)) w := by
  have : execOp a.eval { dst := d, op := .unOp .not t x, type := ty, pos, after := l, guard := none } = (do pure (.value (← Op.unary .not (a.eval x)))) := rfl
  rw [this, hx]
  rfl
theorem run_sub {ti : TypeId} {x y : Int} {xo yo : Operand} : ((do eqGuard .sub ti xo yo (.int .i64 x) (.int .i64 y); binOp .sub ti (.int .i64 x) (.int .i64 y) : Sem Value)).run P w = .ok (.int .i64 (IntKind.i64.wrap (x - y))) w := by
  rfl
theorem run_geq {ti : TypeId} {x y : Int} {xo yo : Operand} : ((do eqGuard .geq ti xo yo (.int .i64 x) (.int .i64 y); binOp .geq ti (.int .i64 x) (.int .i64 y) : Sem Value)).run P w = .ok (.bool (x ≥ y)) w := by
  rfl
/-- **What slices.Backward hands back calls yield from the last element to the first.** `I i`: i are to come. -/
theorem back_in {gf : Nat} {fn : Func} {ts te tf ti tb : TypeId} (hf : P.funcs[gf]? = some fn) (hb : fn.body = some (backBody ts te tf ti tb)) (hn : fn.ntmps = 19) (hu : P.underlying ts = some (.slice te)) (hres : fn.results = #[])
    {l : Nat} {c : Value} {I : Nat → World → Prop} {Stop : World → Prop} {N : Nat}
    (hlen : ∃ p cap, (Instr.loadAt ts c).run P w = .ok (.slice p N cap) w)
    (hN : N ≤ 4611686018427387904)
    (hI : ∀ i W, I (i + 1) W → ∃ sv pv x, (Instr.loadAt ts c).run P W = .ok sv W ∧ (Instr.indexAt ts sv (.int .i64 i)).run P W = .ok pv W ∧ (Instr.loadAt te pv).run P W = .ok x W ∧
      YieldAt Fence.wide 0 P l #[.int .i64 i, x] W fun e W' => (e = .returned (.bool true) ∧ I i W') ∨ (e = .returned (.bool false) ∧ Stop W'))
    (h0 : I N w) : CallsIn Fence.wide 0 P gf #[.func (.yield l) #[] #[], c] w fun e W' => (∃ v, e = .returned v) ∧ (I 0 W' ∨ Stop W') := by
  refine callsIn_of_wp hf hb trivial ?_
  have hT : ∀ f, Fence.wide.fn f := fun _ => trivial
  rw [hn]
  -- the rounds
  have rounds : ∀ i W a, i ≤ N → I i W → BackAt (.func (.yield l) #[] #[]) c i a → Code.roundsIn Fence.wide 0 P (backRound ts te tf ti tb) (Exit.inBlock 0 (bodyPost P fn fun e W' => (∃ v, e = .returned v) ∧ (I 0 W' ∨ Stop W'))) (i + 1) a W := by
    intro i
    induction i with
    | zero =>
      intro W a hi h ⟨hs, hd, hy, hc, hx⟩
      rw [roundsIn_succ]
      refine wpIn_seq (wpIn_seq (wpIn_region ?_))
      show wpOpsIn _ _ _ _ _ [0, 1] _ _
      refine ops_put rfl rfl rfl (by intro _ h; cases h) (run_move' (v := .int .i64 ((0 : Int) - 1)) (by rw [eval_tmp]; exact hx)) ?_
      refine ops_put rfl rfl rfl (by intro _ h; cases h) (run_bin (by rw [eval_tmp, get_eq (by rw [hs]; decide)]) rfl run_geq) ?_
      refine wpIn_cond_false (by rw [eval_tmp, get_eq (by rw [put_size, hs]; decide)]; rfl) (wpIn_exit ?_)
      refine ⟨by simp only [put_defers, hd], .tuple #[], ?_, ⟨_, rfl⟩, .inl h⟩
      exact results_none hres
    | succ i ih =>
      intro W a hi h ⟨hs, hd, hy, hc, hx⟩
      have hx : a.tmps.getD 3 undef = .int .i64 i := by rw [hx, show ((i + 1 : Nat) : Int) - 1 = i by omega]
      obtain ⟨sv, pv, x, k1, k2, k3, fn', tm', as', bo', k4, k5⟩ := hI i W h
      rw [roundsIn_succ]
      refine wpIn_seq (wpIn_seq (wpIn_region ?_))
      show wpOpsIn _ _ _ _ _ [0, 1] _ _
      refine ops_put rfl rfl rfl (by intro _ h; cases h) (run_move' (v := .int .i64 i) (by rw [eval_tmp]; exact hx)) ?_
      refine ops_put rfl rfl rfl (by intro _ h; cases h) (run_bin (vx := .int .i64 i) (by rw [eval_tmp, get_eq (by rw [hs]; decide)]) rfl run_geq) ?_
      refine wpIn_cond_true (by rw [eval_tmp, get_eq (by rw [put_size, hs]; decide)]; simp) (wpIn_skip ?_)
      refine wpIn_seq (wpIn_block (wpIn_seq (wpIn_region ?_)))
      generalize hb1 : (a.put (some 7) (.int .i64 i)).put (some 8) (.bool (decide ((i : Int) ≥ 0))) = b
      have hs1 : b.tmps.size = 19 := by rw [← hb1]; simp only [put_size, hs]
      have hd1 : b.defers = [] := by rw [← hb1]; simp only [put_defers, hd]
      have hy1 : b.tmps.getD 0 undef = .func (.yield l) #[] #[] := by
        rw [← hb1]; repeat rw [get_ne (by simp only [put_size, hs]; decide) (by decide)]
        exact hy
      have hc1 : b.tmps.getD 1 undef = c := by
        rw [← hb1]; repeat rw [get_ne (by simp only [put_size, hs]; decide) (by decide)]
        exact hc
      have hx1 : b.tmps.getD 3 undef = .int .i64 i := by
        rw [← hb1]; repeat rw [get_ne (by simp only [put_size, hs]; decide) (by decide)]
        exact hx
      clear hb1
      show wpOpsIn _ _ _ _ _ [0, 1, 2, 3, 4, 5, 6, 7] _ _
      have q0 : b.eval (.tmp 0) = .func (.yield l) #[] #[] := by rw [eval_tmp]; exact hy1
      refine ops_put rfl rfl rfl (by intro _ h; cases h) (run_move' q0) ?_
      have q1 : (b.put (some 11) (.func (.yield l) #[] #[])).eval (.tmp 3) = .int .i64 i := by
        rw [eval_tmp, get_ne (by rw [hs1]; decide) (by decide)]; exact hx1
      refine ops_put rfl rfl rfl (by intro _ h; cases h) (run_move' q1) ?_
      have q2 : ((b.put (some 11) (.func (.yield l) #[] #[])).put (some 12) (.int .i64 i)).eval (.tmp 1) = c := by
        rw [eval_tmp]; repeat rw [get_ne (by simp only [put_size, hs1]; decide) (by decide)]
        exact hc1
      refine ops_put rfl rfl rfl (by intro _ h; cases h) (run_load' q2 k1) ?_
      have q3 : (((b.put (some 11) (.func (.yield l) #[] #[])).put (some 12) (.int .i64 i)).put (some 13) sv).eval (.tmp 3) = .int .i64 i := by
        rw [eval_tmp]; repeat rw [get_ne (by simp only [put_size, hs1]; decide) (by decide)]
        exact hx1
      refine ops_put rfl rfl rfl (by intro _ h; cases h) (run_move' q3) ?_
      refine ops_put rfl rfl rfl (by intro _ h; cases h) (run_index' (vx := sv) (vy := .int .i64 i) (v := pv) (by rw [eval_tmp, get_ne (by simp only [put_size, hs1]; decide) (by decide), get_eq (by simp only [put_size, hs1]; decide)]) (by rw [eval_tmp, get_eq (by simp only [put_size, hs1]; decide)]) k2) ?_
      refine ops_put rfl rfl rfl (by intro _ h; cases h) (run_load' (p := pv) (v := x) (by rw [eval_tmp, get_eq (by simp only [put_size, hs1]; decide)]) k3) ?_
      -- yield
      generalize hb2 : (((((b.put (some 11) (.func (.yield l) #[] #[])).put (some 12) (.int .i64 i)).put (some 13) sv).put (some 14) (.int .i64 i)).put (some 15) pv).put (some 16) x = b2
      have hs2 : b2.tmps.size = 19 := by rw [← hb2]; simp only [put_size, hs1]
      have hd2 : b2.defers = [] := by rw [← hb2]; simp only [put_defers, hd1]
      have hy2 : b2.tmps.getD 0 undef = .func (.yield l) #[] #[] := by
        rw [← hb2]; repeat rw [get_ne (by simp only [put_size, hs1]; decide) (by decide)]
        exact hy1
      have hc2 : b2.tmps.getD 1 undef = c := by
        rw [← hb2]; repeat rw [get_ne (by simp only [put_size, hs1]; decide) (by decide)]
        exact hc1
      have hx2 : b2.tmps.getD 3 undef = .int .i64 i := by
        rw [← hb2]; repeat rw [get_ne (by simp only [put_size, hs1]; decide) (by decide)]
        exact hx1
      have e11 : b2.eval (.tmp 11) = .func (.yield l) #[] #[] := by
        rw [eval_tmp, ← hb2]; repeat rw [get_ne (by simp only [put_size, hs1]; decide) (by decide)]
        rw [get_eq (by simp only [put_size, hs1]; decide)]
      have e12 : b2.eval (.tmp 12) = .int .i64 i := by
        rw [eval_tmp, ← hb2]; repeat rw [get_ne (by simp only [put_size, hs1]; decide) (by decide)]
        rw [get_eq (by simp only [put_size, hs1]; decide)]
      have e16 : b2.eval (.tmp 16) = x := by
        rw [eval_tmp, ← hb2, get_eq (by simp only [put_size, hs1]; decide)]
      clear hb2
      have hcall : (execOp b2.eval (bOp 17 (.call { callee := .value (.tmp 11), args := #[.tmp 12, .tmp 16], argTypes := #[ti, te] }) tb "iter.go:29" (bDat [0, 1, 5]))).run P W = .ok (.round l fn' tm' as' bo') W := by
        rw [← k4]
        simp only [bOp, execOp, resolve, e11, Deferred.ofValue]
        simp [e12, e16]
        simp [invoke]
      rw [wpOpsIn, show (back3 ts te tf ti tb)[6]? = some (bOp 17 (.call { callee := .value (.tmp 11), args := #[.tmp 12, .tmp 16], argTypes := #[ti, te] }) tb "iter.go:29" (bDat [0, 1, 5])) from rfl]
      dsimp only
      rw [show Region.wanted (bOp 17 (.call { callee := .value (.tmp 11), args := #[.tmp 12, .tmp 16], argTypes := #[ti, te] }) tb "iter.go:29" (bDat [0, 1, 5])) (yielded (back3 ts te tf ti tb) b2.tmps) = true from rfl, if_pos rfl]
      refine ⟨fun f _ => trivial, ?_⟩
      rw [Oper.semAt_eq _ _ _ (by intro _ h; cases h), hcall]
      refine ⟨fun h => by simp [Fence.wide] at h, k5.mono ?_⟩
      intro e W' h3
      obtain ⟨t, rfl, ht1, ht2⟩ : ∃ t : Bool, e = .returned (.bool t) ∧ (t = true → I i W') ∧ (t = false → Stop W') := by
        rcases h3 with ⟨rfl, h3⟩ | ⟨rfl, h3⟩
        · exact ⟨true, rfl, fun _ => h3, fun h => (by cases h)⟩
        · exact ⟨false, rfl, fun h => (by cases h), fun _ => h3⟩
      show wpOpsIn _ _ _ _ _ [7] (b2.put (some 17) (.bool t)) W'
      refine ops_put rfl rfl rfl (by intro _ h; cases h) (run_not' (b := t) (by rw [eval_tmp]; exact get_eq (by rw [hs2]; decide))) ?_
      have q18 : ((b2.put (some 17) (.bool t)).put (some 18) (.bool !t)).eval (.tmp 18) = .bool !t := by rw [eval_tmp, get_eq (by simp only [put_size, hs2]; decide)]
      cases t with
      | false =>
        refine wpIn_cond_true q18 (wpIn_ret ?_)
        exact ⟨by simp only [put_defers, hd2], .tuple #[], results_none hres, ⟨_, rfl⟩, .inr (ht2 rfl)⟩
      | true =>
        refine wpIn_cond_false q18 (wpIn_skip ?_)
        refine wpIn_region ?_
        show wpOpsIn _ _ _ _ _ [0, 1, 2] _ _
        have q3 : ((b2.put (some 17) (.bool true)).put (some 18) (.bool !true)).eval (.tmp 3) = .int .i64 i := by
          rw [eval_tmp]; repeat rw [get_ne (by simp only [put_size, hs2]; decide) (by decide)]
          exact hx2
        refine ops_put rfl rfl rfl (by intro _ h; cases h) (run_move' q3) ?_
        refine ops_put rfl rfl rfl (by intro _ h; cases h) (run_bin (vx := .int .i64 i) (by rw [eval_tmp, get_eq (by simp only [put_size, hs2]; decide)]) rfl run_sub) ?_
        rw [wrap_i64 (by omega) (by omega)]
        refine ops_put rfl rfl rfl (by intro _ h; cases h) (run_assign' (v := .int .i64 ((i : Int) - 1)) (by rw [eval_tmp, get_eq (by simp only [put_size, hs2]; decide)])) ?_
        refine ih W' _ (by omega) (ht1 rfl) ⟨?_, ?_, ?_, ?_, ?_⟩
        · simp only [put_size, hs2]
        · simp only [put_defers, hd2]
        · repeat rw [get_ne (by simp only [put_size, hs2]; decide) (by decide)]
          exact hy2
        · repeat rw [get_ne (by simp only [put_size, hs2]; decide) (by decide)]
          exact hc2
        · rw [get_eq (by simp only [put_size, hs2]; decide)]
  obtain ⟨p, cap, hld⟩ := hlen
  have ht : (#[.func (.yield l) #[] #[], c] ++ Array.replicate (19 - (#[Value.func (.yield l) #[] #[], c]).size) undef : Array Value).size = 19 := by simp
  have ht0 : (#[.func (.yield l) #[] #[], c] ++ Array.replicate (19 - (#[Value.func (.yield l) #[] #[], c]).size) undef : Array Value).getD 0 undef = .func (.yield l) #[] #[] := by simp [Array.getD_eq_getD_getElem?]
  have ht1 : (#[.func (.yield l) #[] #[], c] ++ Array.replicate (19 - (#[Value.func (.yield l) #[] #[], c]).size) undef : Array Value).getD 1 undef = c := by simp [Array.getD_eq_getD_getElem?]
  generalize (#[.func (.yield l) #[] #[], c] ++ Array.replicate (19 - (#[Value.func (.yield l) #[] #[], c]).size) undef : Array Value) = tm at ht ht0 ht1 ⊢
  refine wpIn_seq (wpIn_region ?_)
  show wpOpsIn _ _ _ _ _ [0, 1, 2, 3] _ _
  refine ops_put rfl rfl rfl (by intro _ h; cases h) (run_load' (by rw [eval_tmp]; exact ht1) hld) ?_
  refine ops_put rfl rfl rfl (by intro _ h; cases h) (run_len_slice (p := p) (n := N) (cap := cap) (by rw [eval_tmp, get_eq (by rw [ht]; decide)]) hu) ?_
  refine ops_put rfl rfl rfl (by intro _ h; cases h) (run_bin (vx := .int .i64 N) (by rw [eval_tmp, get_eq (by rw [put_size, ht]; decide)]) rfl run_sub) ?_
  rw [wrap_i64 (by omega) (by omega)]
  refine ops_put rfl rfl rfl (by intro _ h; cases h) (run_assign' (v := .int .i64 ((N : Int) - 1)) (by rw [eval_tmp, get_eq (by simp only [put_size, ht]; decide)])) ?_
  refine wpIn_block (wpIn_loop_rounds (N + 1) (rounds N w _ (Nat.le_refl _) h0 ?_))
  refine ⟨?_, ?_, ?_, ?_, ?_⟩
  · simp only [put_size, ht]
  · simp only [put_defers]
  · repeat rw [get_ne (by simp only [put_size, ht]; decide) (by decide)]
    exact ht0
  · repeat rw [get_ne (by simp only [put_size, ht]; decide) (by decide)]
    exact ht1
  · rw [get_eq (by simp only [put_size, ht]; decide)]
end
end Go.V
namespace Go.V
section
variable {P : Program} {env : Env} {w w' : World} {m m' : Emb} {os os' : List Ob}

def exitOf : Out → Exit
  | .normal => .normal
  | .exit id => .exit id
  | .ret => .ret

theorem normO_ok {k : Nat} {lv : Option (List Nat)} {fr fr' : Fr} {N B : Nat} {ro : Option Nat} {a : Act} (h : FR env w m fr N B ro a) (hk : k ≤ fr.objs.length) (hn : normO k lv fr = some fr') : ∃ m', Went env k w m fr.objs w m' fr'.objs ∧ FR env w m' fr' N B ro a := by
  cases lv with
  | none =>
    simp only [normO, Option.some.injEq] at hn
    subst hn
    exact ⟨m, .refl h.rel hk, h⟩
  | some l =>
    obtain ⟨m', h1, h2⟩ := norm_ok h.rel h.tmps hn
    exact ⟨m', h1, h1.rel, h2, h.size, h.defers.kept h1.kept⟩

/-- What code does, of some depth. -/
def EvOK (P : Program) (env : Env) (n : Nat) : Prop :=
  ∀ f k lv c fr o fr', ev env f k lv n c fr = some (o, fr') → ∀ N, fine N c = true → ∀ (ro : Option Nat) (B : Nat) (w : World) (m : Emb) (a : Act) (Q : Exit → Act → World → Prop), FR env w m fr N B ro a → k ≤ fr.objs.length →
    (∀ w' m' a', Went env k w m fr.objs w' m' fr'.objs → FR env w' m' fr' N B ro a' → Q (exitOf o) a' w') → c.wpIn (FV ro) 0 P Q a w ∧ ∀ b, c = .loop b → Code.roundsIn (FV ro) 0 P b Q n a w
def KnownOK (env : Env) (n : Nat) : Prop := ∀ g args objs r, callN env n g args objs = some r → (env.fn g).isSome = true

theorem Went.goes {k : Nat} (h : Went env k w m os w' m' os') (hk : os.length ≤ k) : Goes w m os w' m' os' :=
  ⟨h.kept, fun o => by
    by_cases ho : o < k
    · exact h.obj o ho
    · rw [obAt_ge _ _ (by omega)]; simp only [ObGo]⟩
theorem Went.weaken {k k' : Nat} (h : Went env k w m os w' m' os') (hk : k' ≤ k) : Went env k' w m os w' m' os' :=
  ⟨h.rel, h.kept, fun o ho => h.obj o (by omega), Nat.le_trans hk h.len⟩
def Emb.grow (m : Emb) (w : World) : Emb := { own := fun b => if b < w.heap.size then m.own b else .foreign, blk := m.blk }
/-- New blocks that are nobody's. -/
theorem grow_went {k : Nat} (r : ORel env w m os) (hk : k ≤ os.length) (hs : w.heap.size ≤ w'.heap.size) (hb : ∀ b, b < w.heap.size → w'.heap[b]? = w.heap[b]?) (h1 : w'.os = w.os) (h2 : w'.tape = w.tape) (h3 : w'.output = w.output) :
    Went env k w m os w' (m.grow w) os := by
  have kept : Kept m w (m.grow w) w' := ⟨hs, h1, h2, h3, fun b hlt _ => ⟨hb b hlt, by simp [Emb.grow, hlt]⟩, fun b n h => by
    obtain ⟨cs, T, fr, h4, h5⟩ := cellsN_some.1 h
    exact cellsN_some.2 ⟨cs, T, fr, (hb b (lt_of_heap h4)).trans h4, h5⟩⟩
  have goes : Goes w m os w' (m.grow w) os := ⟨kept, fun o => by
    show ObGo w (m.blk o) w' (m.blk o) (obAt os o) (obAt os o)
    cases obAt os o <;> simp only [ObGo] <;> try trivial
    · exact ⟨trivial, Nat.le_refl _, fun _ => trivial⟩
    · exact ⟨trivial, fun b es clock j me _ h4 h5 => ⟨es, clock, me, (hb b (lt_of_heap h4)).trans h4, h5, rfl⟩⟩⟩
  have own : ∀ b x, (m.grow w).own b = x → x ≠ .foreign → b < w.heap.size ∧ m.own b = x := by
    intro b x h hx
    simp only [Emb.grow] at h
    split at h
    · rename_i hlt; exact ⟨hlt, h⟩
    · exact absurd h.symm hx
  refine ⟨⟨fun o => ?_, fun b o h => ?_, fun b h => ?_, fun x e h => ?_⟩, kept, fun o _ => goes.obj o, hk⟩
  · exact (r.obs o).go goes r rfl fun b h => ⟨hb b (r.mine b o h).1, by simp [Emb.grow, (r.mine b o h).1, h]⟩
  · obtain ⟨_, h5⟩ := own b _ h (by simp)
    obtain ⟨h6, h7, h8⟩ := r.mine b o h5
    exact ⟨Nat.lt_of_lt_of_le h6 hs, h7, h8⟩
  · exact Nat.lt_of_lt_of_le (own b _ h (by simp)).1 hs
  · obtain ⟨h4, h5, cs, T, fr, h6, h7⟩ := r.glob x e h
    exact ⟨h4, by simp [Emb.grow, lt_of_heap h6, h5], cs, T, fr, (hb _ (lt_of_heap h6)).trans h6, h7.go goes r⟩

theorem alloc_old {o : Obj} {b : Nat} (h : b < w.heap.size) : (w.alloc o).heap[b]? = w.heap[b]? := by
  have : ∃ x, (w.alloc o).heap = w.heap.push x := ⟨_, rfl⟩
  obtain ⟨x, hx⟩ := this
  rw [hx, Array.getElem?_push_lt h]
  simp [h]
theorem enter_went {B k : Nat} {ro : Option Nat} {ds : List Deferred} (r : ORel env w m os) (hk : k ≤ os.length) (hm : Marks B ro w m ds) (fn : FuncId) (tmps : Array Value) (ps : Array Tmp) (assign body : Code) :
    ∃ l mark W1 D, (Instr.enterLoop fn tmps ps assign body ro).run P w = .ok (l, mark) W1 ∧ w.heap.size ≤ l ∧ W1.heap[l]? = some (.loop { state := .ready, pending := none, fn, tmps, params := ps, assign, body, defers := D }) ∧
      Went env k w m os W1 (m.grow w) os ∧ (m.grow w).own l = .foreign ∧ Marks B ro W1 (m.grow w) (mark ++ ds) := by
  obtain ⟨h0, hr, ml, h1, h2, h3⟩ := hm
  cases ro with
  | none =>
    refine ⟨w.heap.size + 1, _, _, w.heap.size, run_enterLoop_outer _ _ _ _ _, by omega, ?_, ?_, ?_, ?_⟩
    · have := World.alloc_heap_new (w.alloc (.deferred (some []))) (.loop { state := .ready, pending := none, fn, tmps, params := ps, assign, body, defers := w.heap.size })
      rwa [World.size_alloc] at this
    · refine grow_went r hk (by simp; omega) (fun b hb => ?_) rfl rfl rfl
      rw [alloc_old (by simp; omega), alloc_old hb]
    · simp [Emb.grow]; omega
    · refine ⟨by simp; omega, fun l0 h => by simp at h, w.heap.size :: ml, List.nodup_cons.2 ⟨fun h => ?_, h1⟩, by rw [h2]; rfl, fun D hD => ?_⟩
      · have := lt_of_heap (h3 _ h).2.1; omega
      · rcases List.mem_cons.1 hD with rfl | hD
        · exact ⟨h0, by rw [alloc_old (by simp)]; exact World.alloc_heap_new w _, by simp [Emb.grow]⟩
        · obtain ⟨q1, q2, q3⟩ := h3 D hD
          exact ⟨q1, by rw [alloc_old (by have := lt_of_heap q2; simp; omega), alloc_old (lt_of_heap q2)]; exact q2, by simp [Emb.grow, lt_of_heap q2, q3]⟩
  | some l0 =>
    obtain ⟨r0, hr1, hr2⟩ := hr l0 rfl
    refine ⟨w.heap.size, [], w.alloc (.loop { state := .ready, pending := none, fn, tmps, params := ps, assign, body, defers := r0.defers }), r0.defers, ?_, Nat.le_refl _, World.alloc_heap_new w _, ?_, ?_, ?_⟩
    · unfold Instr.enterLoop
      simp only [Sem.run_bind, run_getLoop hr1, run_newObj_alloc, Result.andThen, Sem.run_pure]
    · exact grow_went r hk (by simp) (fun b hb => alloc_old hb) rfl rfl rfl
    · simp [Emb.grow]
    · refine ⟨by simp; omega, fun l1 h => ?_, ml, h1, h2, fun D hD => ?_⟩
      · injection h with h; subst h
        exact ⟨r0, by rw [alloc_old (lt_of_heap hr1)]; exact hr1, by simp [Emb.grow, lt_of_heap hr1, hr2]⟩
      · obtain ⟨q1, q2, q3⟩ := h3 D hD
        exact ⟨q1, by rw [alloc_old (lt_of_heap q2)]; exact q2, by simp [Emb.grow, lt_of_heap q2, q3]⟩
theorem FV.callsIn {ro : Option Nat} {n n' : Nat} {f : FuncId} {args : Array Value} {R : Ending → World → Prop} (h : CallsIn Fence.wide n' P f args w R) : CallsIn (FV ro) n P f args w R := FV.calls (callsIn_wide.1 h)
theorem Marks.put {B : Nat} {ro : Option Nat} {ds : List Deferred} {l : Nat} {r r' : Loop} (h : Marks B ro w m ds) (hl : w.heap[l]? = some (.loop r)) : Marks B ro (w.putObj l (.loop r')) m ds := by
  obtain ⟨h0, hr, ml, h1, h2, h3⟩ := h
  refine ⟨by simpa using h0, fun l0 h => ?_, ml, h1, h2, fun D hD => ?_⟩
  · obtain ⟨r0, h4, h5⟩ := hr l0 h
    by_cases hll : l0 = l
    · subst hll; exact ⟨r', World.putObj_heap_same (lt_of_heap hl), h5⟩
    · exact ⟨r0, (World.putObj_heap_other hll).trans h4, h5⟩
  · obtain ⟨q1, q2, q3⟩ := h3 D hD
    exact ⟨q1, (World.putObj_heap_other (by rintro rfl; rw [hl] at q2; simp at q2)).trans q2, q3⟩
def codeOf : Out → Option Code
  | .normal => none
  | .exit id => some (.exit id)
  | .ret => some .ret

/-- **A range over slices.Backward.** -/
theorem range_ok (ok : EnvOK P env) {n : Nat} (ihE : EvOK P env n) {f : FuncId} {k : Nat} {g : Operand} {ps : Array Tmp} {assign body : Code} {fr : Fr} {te : TypeId} {ob len : Nat} {out : Out} {os' : List Ob}
    (hb : backOf env fr.objs (evalT env fr.tmps g) = some (te, ob, len)) (hr : roundsE env (fun c fr' => ev env f fr.objs.length none n c fr') te ob ps.toList assign body fr.tmps len fr.objs = some (out, os'))
    {N B : Nat} {ro : Option Nat} (hfi : fine N (.rangeFunc g ps assign body) = true) {a : Act} {Q : Exit → Act → World → Prop} (hfr : FR env w m fr N B ro a) (hk : k ≤ fr.objs.length)
    (hQ : ∀ w' m' a', Went env k w m fr.objs w' m' os' → FR env w' m' { tmps := fr.tmps, objs := os' } N B ro a' → Q (exitOf out) a' w') : (Code.rangeFunc g ps assign body).wpIn (FV ro) 0 P Q a w := by
  refine wpIn_rangeFunc fun fn hfn => ?_
  obtain ⟨l, mark, W1, D, he, hl0, hL, hW, hown, hM⟩ := enter_went hfr.rel (Nat.le_refl _) hfr.defers fn a.tmps ps assign body
  -- what is ranged over
  have hev := evalT_ok hfr.rel hfr.tmps g
  obtain ⟨gf, e, s, lk, hge, hback, hob, hlen⟩ : ∃ gf e s lk, evalT env fr.tmps g = .fn gf [.ptr ob 0] ∧ env.back gf = some te ∧ obAt fr.objs ob = .var e s lk ∧ ((∃ es, e = .sl es ∧ len = es.length ∧ len ≤ 4611686018427387904) ∨ (e = .nils ∧ len = 0)) := by
    unfold backOf at hb
    split at hb
    · rename_i gf o hge
      split at hb
      · rename_i te' es s lk h1 h2
        split at hb
        · rename_i hle
          simp only [Option.some.injEq, Prod.mk.injEq] at hb
          obtain ⟨rfl, rfl, rfl⟩ := hb
          exact ⟨gf, _, s, lk, hge, h1, h2, .inl ⟨es, rfl, rfl, hle⟩⟩
        · simp at hb
      · rename_i te' s lk h1 h2
        simp only [Option.some.injEq, Prod.mk.injEq] at hb
        obtain ⟨rfl, rfl, rfl⟩ := hb
        exact ⟨gf, _, s, lk, hge, h1, h2, .inr ⟨rfl, rfl⟩⟩
      · simp at hb
    · simp at hb
  rw [hge] at hev
  simp only [RV] at hev
  obtain ⟨vs, hg, hvs⟩ := hev
  obtain ⟨pv, rest, hvs1, hpv, hrest⟩ := RVL_cons.1 hvs
  rw [RVL] at hrest
  subst hrest
  obtain rfl : vs = #[pv] := by apply Array.ext'; rw [hvs1]
  obtain ⟨fnb, ts, tf, ti, tb, q1, q2, q3, q4, q5, tsi, q6, q7⟩ := ok.back gf te hback
  obtain ⟨_, _, _, _, hu, _⟩ := ok.ty ts tsi q6
  rw [q7] at hu
  have hu : P.underlying ts = some (.slice te) := hu
  have hload : ∀ W m1 os1 x s1 lk1, ORel env W m1 os1 → RV W m1 os1 (.ptr ob 0) pv → obAt os1 ob = .var x s1 lk1 → ((∃ es, x = .sl es) ∨ x = .nils) → ∃ v, (Instr.loadAt ts pv).run P W = .ok v W ∧ RV W m1 os1 x v := by
    intro W m1 os1 x s1 lk1 r1 hp hx hxs
    have hrun : (loadE env ts (.ptr ob 0)).runAt os1 0 = some (x, os1, 0) := by
      obtain ⟨d, sz, by_, z⟩ := tsi
      subst q7
      have hag : isAggT env ts = some (false, sz) := by unfold isAggT; rw [q6]
      rcases hxs with ⟨es, rfl⟩ | rfl <;> simp [loadE, HM.runAt, hx, partAV, hag, AV.cells, HM.lift]
    obtain ⟨_, _, v, h1, h2⟩ := loadE_ok (P := P) ok r1 hp hrun
    exact ⟨v, h1, h2⟩
  refine ⟨l, mark, W1, { target := .fn (.func gf) #[pv], args := #[.func (.yield l) #[] #[]] }, W1, gf, #[.func (.yield l) #[] #[], pv], W1, he, ?_, fun _ _ => trivial, ?_, FV.dep, ?_⟩
  · simp only [resolve, hg]
    simp [go_sem]
  · have := run_call (w := W1) ok q1 (by simpa using q2) (by rw [q3]; rfl) #[.func (.yield l) #[] #[], pv]
    simpa [invoke] using this
  · obtain ⟨rec, hrec⟩ : ∃ rec : LoopState → Option Code → Loop, rec = fun st pe => { state := st, pending := pe, fn, tmps := a.tmps, params := ps, assign, body, defers := D } := ⟨_, rfl⟩
    have hpv1 := RV.go (hW.goes (Nat.le_refl _)) hfr.rel _ hpv
    have hlt0 : ∀ b, b < w.heap.size → b ≠ l := fun b hb => by omega
    refine FV.callsIn ((back_in q1 q3 q4 hu q5 (l := l) (c := pv) (N := len)
      (I := fun i W => ∃ m' os1, Went env fr.objs.length w m fr.objs W m' os1 ∧ roundsE env (fun c fr' => ev env f fr.objs.length none n c fr') te ob ps.toList assign body fr.tmps i os1 = some (out, os') ∧ W.heap[l]? = some (.loop (rec .ready none)) ∧ m'.own l = .foreign ∧ Marks B ro W m' (mark ++ a.defers))
      (Stop := fun W => ∃ m' c, codeOf out = some c ∧ Went env fr.objs.length w m fr.objs W m' os' ∧ W.heap[l]? = some (.loop (rec .done (some c))) ∧ m'.own l = .foreign ∧ Marks B ro W m' (mark ++ a.defers))
      ?hlen ?hN ?hI ?h0).mono ?post)
    case hlen =>
      rcases hlen with ⟨es, rfl, hl1, hl2⟩ | ⟨rfl, hl1⟩
      · obtain ⟨v, h1, h2⟩ := hload W1 _ _ _ _ _ hW.rel hpv1 hob (.inl ⟨_, rfl⟩)
        obtain ⟨_, p, cap, rfl, _⟩ := RV_sl.1 h2
        exact ⟨p, cap, by rw [hl1]; exact h1⟩
      · obtain ⟨v, h1, h2⟩ := hload W1 _ _ _ _ _ hW.rel hpv1 hob (.inr rfl)
        obtain ⟨p, rfl⟩ := RV_nils.1 h2
        exact ⟨p, 0, by rw [hl1]; exact h1⟩
    case hN => rcases hlen with ⟨es, _, _, h⟩ | ⟨_, h⟩ <;> omega
    case h0 => exact ⟨_, _, hW, hr, by rw [hrec]; exact hL, hown, hM⟩
    case post =>
      rintro e2 W2 ⟨⟨v, rfl⟩, (⟨m', os1, hw, hr0, hl, ho, hm⟩ | ⟨m', c, hc, hw, hl, ho, hm⟩)⟩
      · refine ⟨none, _, by have := run_endLoop (P := P) hl (by rw [hrec]; simp); rw [hrec] at this; exact this, ?_⟩
        simp only [roundsE, Option.some.injEq, Prod.mk.injEq] at hr0
        obtain ⟨rfl, rfl⟩ := hr0
        have gl : LikeW W2 (W2.putObj l (.loop { rec .ready none with state := .exhausted })) := .put hl (by simp) (by simp)
        rw [hrec] at gl
        have hw2 := hw.likeW gl fun b hlt _ => World.putObj_heap_other (hlt0 b hlt)
        exact hQ _ m' _ (hw2.weaken hk) ⟨hw2.rel, hfr.tmps.go (hw2.goes (Nat.le_refl _)) hfr.rel, hfr.size, hm.put hl⟩
      · refine ⟨some c, _, by have := run_endLoop (P := P) hl (by rw [hrec]; simp); rw [hrec] at this; exact this, ?_⟩
        have gl : LikeW W2 (W2.putObj l (.loop { rec .done (some c) with state := .exhausted })) := .put hl (by simp) (by simp)
        rw [hrec] at gl
        have hw2 := hw.likeW gl fun b hlt _ => World.putObj_heap_other (hlt0 b hlt)
        have hq := hQ _ m' { a with defers := mark ++ a.defers } (hw2.weaken hk) ⟨hw2.rel, hfr.tmps.go (hw2.goes (Nat.le_refl _)) hfr.rel, hfr.size, hm.put hl⟩
        cases out with
        | normal => simp [codeOf] at hc
        | exit id => simp only [codeOf, Option.some.injEq] at hc; subst hc; exact wpIn_exit hq
        | ret => simp only [codeOf, Option.some.injEq] at hc; subst hc; exact wpIn_ret hq
    case hI =>
      rintro i W ⟨m', os1, hw, hri, hl, ho, hm⟩
      simp only [fine, Bool.and_eq_true] at hfi
      rw [roundsE] at hri
      split at hri
      case h_2 => simp at hri
      rename_i es1 s1 lk1 hob1
      split at hri
      case h_2 => simp at hri
      rename_i x hx
      split at hri
      case h_2 => simp at hri
      rename_i v p q hv hps
      split at hri
      case h_2 => simp at hri
      rename_i fr1 ha
      have hps2 : ps = #[p, q] := by apply Array.ext'; exact hps
      have hpN : p < N ∧ q < N := by
        have h := hfi.2
        rw [hps2] at h
        simpa using h
      have hpvW := RV.go (hw.goes (Nat.le_refl _)) hfr.rel _ hpv
      obtain ⟨sv, k1, k2⟩ := hload W _ _ _ _ _ hw.rel hpvW hob1 (.inl ⟨_, rfl⟩)
      obtain ⟨hcl, p0, cap, rfl, _, h3⟩ := RV_sl.1 k2
      have hlt := (List.getElem?_eq_some_iff.1 hx).1
      unfold elemAt at hv
      cases hte : env.ty te with
      | none => rw [hte] at hv; simp at hv
      | some ei =>
        rw [hte] at hv
        dsimp only at hv
        split at hv
        case isFalse => simp at hv
        rename_i hsz
        obtain ⟨inf, g1, g2⟩ := run_size ok hte
        rcases h3 with rfl | ⟨b, off, cs, T, frz, size, rfl, h4, h5, h6⟩
        · simp at hx
        have hfp : RV W m' os1 (.fp x 0) (.pointer (some ((⟨b, off, none⟩ : Addr).add (i * inf.size)))) := by
          rw [g2]; exact RV_fp_elem (still := fun b => m'.own b = .frozen) (fun b h o => by rw [h]; simp) hcl hx hsz h4 h5 h6
        obtain ⟨_, _, xv, k3, k4⟩ := loadE_ok (P := P) ok hw.rel (t := te) (n := 0) (n' := 0) (os' := os1) (x := v) hfp (by simp [loadE, hv, HM.lift, HM.runAt])
        refine ⟨_, _, xv, k1, run_indexAt_slice hu g1 hlt, k3, ?_⟩
        have hy := run_yield (P := P) (args := #[.int .i64 i, xv]) hl (by rw [hrec, hps2]; rfl)
        rw [hrec] at hy
        refine ⟨fn, _, assign, body, hy, roundIn_of_wpIn trivial ?_⟩
        have htm : (ps.zip #[Value.int .i64 i, xv]).foldl (fun tmps (t, a) => tmps.setIfInBounds t a) a.tmps = ((({ tmps := a.tmps, defers := [] } : Act).put (some p) (.int .i64 i)).put (some q) xv).tmps := by
          rw [hps2]; simp [Act.put]
        have hT0 : RT W m' os1 fr.tmps a.tmps := hfr.tmps.go (hw.goes (Nat.le_refl _)) hfr.rel
        have hT1 : RT W m' os1 (setT (setT fr.tmps p (.int .i64 i)) q v) ((({ tmps := a.tmps, defers := [] } : Act).put (some p) (.int .i64 i)).put (some q) xv).tmps :=
          RT.put (dst := some q) (RT.put (dst := some p) (a := { tmps := a.tmps, defers := [] }) hT0 (fun d hd => by injection hd with hd; subst hd; exact Nat.lt_of_lt_of_le hpN.1 hfr.size) (by simp only [RV]))
            (fun d hd => by injection hd with hd; subst hd; rw [put_size]; exact Nat.lt_of_lt_of_le hpN.2 hfr.size) k4
        have hK := hw.len
        show assign.wpIn (FV (some l)) 0 P _ { tmps := (ps.zip #[Value.int .i64 i, xv]).foldl (fun tmps (t, a) => tmps.setIfInBounds t a) a.tmps, defers := [] } W
        rw [htm]
        refine (ihE f fr.objs.length none assign _ _ _ ha N hfi.1.1 (some l) 0 W m' _ _ ⟨hw.rel, hT1, by rw [put_size, put_size]; exact hfr.size, ⟨Nat.zero_le _, fun l0 h => (by injection h with h; subst h; exact ⟨_, hl, ho⟩), [], List.nodup_nil, rfl, fun D h => (by simp at h)⟩⟩ hK fun w1 m1 a1 h1 h2 => ?_).1
        obtain ⟨e1, e2⟩ := h1.kept.block l (lt_of_heap hl) fun o => by rw [ho]; simp
        have hl1 : w1.heap[l]? = some (.loop (rec .ready none)) := e1.trans hl
        have ho1 : m1.own l = .foreign := e2.trans ho
        refine ⟨_, run_beginRound hl1 (by rw [hrec]), ?_⟩
        have gl1 : LikeW w1 (w1.putObj l (.loop { rec .ready none with state := .busy })) := .put hl1 (by simp) (by simp)
        have hl2 : (w1.putObj l (.loop { rec .ready none with state := .busy })).heap[l]? = some (.loop { rec .ready none with state := .busy }) := World.putObj_heap_same (lt_of_heap hl1)
        have hnl : ∀ b, b < w.heap.size → (∀ o, m.own b ≠ .mine o) → (w1.putObj l (.loop { rec .ready none with state := .busy })).heap[b]? = w1.heap[b]? := fun b hb _ => World.putObj_heap_other (hlt0 b hb)
        have hw2 := (hw.trans h1).likeW gl1 hnl
        have hm2 : Marks B ro (w1.putObj l (.loop { rec .ready none with state := .busy })) m1 (mark ++ a.defers) := (hm.kept h1.kept).put hl1
        split at hri
        · -- on to the next round
          rename_i fr2 hbd
          refine (ihE f fr.objs.length none body _ _ _ hbd N hfi.1.2 (some l) 0 _ m1 _ _ ⟨h2.rel.likeW gl1, h2.tmps.likeW gl1, h2.size, h2.defers.put hl1⟩ h1.len fun w3 m3 a3 h5 h6 => ?_).1
          obtain ⟨e3, e4⟩ := h5.kept.block l (lt_of_heap hl2) fun o => by rw [ho1]; simp
          have hl3 := e3.trans hl2
          have ho3 : m3.own l = .foreign := e4.trans ho1
          have gl3 : LikeW w3 (w3.putObj l (.loop (rec .ready none))) := .put hl3 (by simp) (by simp)
          refine ⟨.bool true, w3.putObj l (.loop (rec .ready none)), by have := run_endRound (P := P) none hl3; rw [hrec] at this ⊢; exact this, .inl ⟨rfl, m3, fr2.objs, (hw2.trans h5).likeW gl3 (fun b hb _ => World.putObj_heap_other (hlt0 b hb)), hri, World.putObj_heap_same (lt_of_heap hl3), ho3, (hm2.kept h5.kept).put hl3⟩⟩
        · rename_i out2 fr2 hno hbd
          simp only [Option.some.injEq, Prod.mk.injEq] at hri
          obtain ⟨rfl, rfl⟩ := hri
          refine (ihE f fr.objs.length none body _ _ _ hbd N hfi.1.2 (some l) 0 _ m1 _ _ ⟨h2.rel.likeW gl1, h2.tmps.likeW gl1, h2.size, h2.defers.put hl1⟩ h1.len fun w3 m3 a3 h5 h6 => ?_).1
          obtain ⟨e3, e4⟩ := h5.kept.block l (lt_of_heap hl2) fun o => by rw [ho1]; simp
          have hl3 := e3.trans hl2
          have ho3 : m3.own l = .foreign := e4.trans ho1
          have stop : ∀ c, codeOf out2 = some c → ∃ v w', (Instr.endRound l (some c)).run P w3 = .ok v w' ∧ ((Ending.returned v = .returned (.bool true) ∧ False) ∨ (Ending.returned v = .returned (.bool false) ∧ ∃ m' c, codeOf out2 = some c ∧ Went env fr.objs.length w m fr.objs w' m' fr2.objs ∧ w'.heap[l]? = some (.loop (rec .done (some c))) ∧ m'.own l = .foreign ∧ Marks B ro w' m' (mark ++ a.defers))) := by
            intro c hc
            have gl3 : LikeW w3 (w3.putObj l (.loop (rec .done (some c)))) := .put hl3 (by simp) (by simp)
            exact ⟨.bool false, w3.putObj l (.loop (rec .done (some c))), by have := run_endRound (P := P) (some c) hl3; rw [hrec] at this ⊢; exact this, .inr ⟨rfl, m3, c, hc, (hw2.trans h5).likeW gl3 (fun b hb _ => World.putObj_heap_other (hlt0 b hb)), World.putObj_heap_same (lt_of_heap hl3), ho3, (hm2.kept h5.kept).put hl3⟩⟩
          cases out2 with
          | normal => exact (hno rfl).elim
          | exit id =>
            obtain ⟨v2, w4, h7, h8⟩ := stop _ rfl
            exact ⟨v2, w4, h7, h8.imp (fun h => h.2.elim) fun h => h⟩
          | ret =>
            obtain ⟨v2, w4, h7, h8⟩ := stop _ rfl
            exact ⟨v2, w4, h7, h8.imp (fun h => h.2.elim) fun h => h⟩
        · simp at hri
end
end Go.V
namespace Go.V
section
variable {P : Program} {env : Env} {w w' : World} {m m' : Emb} {os os' : List Ob}

theorem giveC_ok {own : Bool} {k : Nat} {v : AV} {x : Value} (r : ORel env w m os) (hv : RV w m os v x) : Ghost env w (giveC own k v) m os fun m' os' a => RV w m' os' a x ∧ a.plain = v.plain := by
  unfold giveC
  split
  · split
    · exact .ret r ⟨hv, rfl⟩
    · exact freeze_ok r hv
  · cases own with
    | true => exact .ret r ⟨hv, rfl⟩
    | false =>
      obtain ⟨a, rfl⟩ := RV_nils.1 hv
      exact .ret r ⟨RV_sl.2 ⟨by rw [AV.clsL], a, 0, rfl, Nat.le_refl _, .inl rfl⟩, rfl⟩
  · exact .ret r ⟨hv, rfl⟩
theorem giveCs_ok {own : Bool} {k : Nat} : ∀ {cs : List AV} {xs : List Value} {m : Emb} {os : List Ob}, ORel env w m os → RVL w m os cs xs →
    Ghost env w (giveCs own k cs) m os fun m' os' as => RVL w m' os' as xs ∧ as.all AV.plain = cs.all AV.plain
  | [], xs, _, _, r, hv => .ret r ⟨hv, rfl⟩
  | c :: cs, xs, m, os, r, hv => by
    obtain ⟨v, t, h1, h2, h3⟩ := RVL_cons.1 hv
    refine (giveC_ok r h2).bind fun m1 os1 a r1 g1 ⟨h4, h5⟩ => ?_
    refine (giveCs_ok r1 (h3.go g1 r)).bind fun m2 os2 as r2 g2 ⟨h6, h7⟩ => ?_
    exact .ret r2 ⟨RVL_cons.2 ⟨v, t, h1, RV.go g2 r1 _ h4, h6⟩, by simp [h5, h7]⟩
theorem giveE_ok {own : Bool} {k : Nat} {e : AV} {x : Value} (r : ORel env w m os) (hv : RV w m os e x) : Ghost env w (giveE own k e) m os fun m' os' a => RV w m' os' a x := by
  cases e with
  | agg cs =>
    obtain ⟨vs, h1, h2, h3⟩ := RV_agg.1 hv
    refine (giveCs_ok r h3).bind fun m1 os1 a r1 g1 ⟨h4, h5⟩ => .ret r1 ?_
    exact RV_agg.2 ⟨vs, h1, h5.trans h2, h4⟩
  | _ => exact (giveC_ok (own := own) (k := k) r hv).mono fun _ _ _ _ _ h => h.1

def resSem (tmps : Array Value) : ResultVar → Sem Value
  | .tmp t => pure (tmps.getD t undef)
  | .cell a t => do loadVar t (← asAddr (tmps.getD a undef))
theorem resultsE_ok (ok : EnvOK P env) {own : Bool} {k : Nat} {tm : List (Nat × AV)} {tmps : Array Value} : ∀ (rs : List ResultVar) {m : Emb} {os : List Ob}, ORel env w m os → RT w m os tm tmps →
    Ghost env w (resultsE env own k tm rs) m os fun m' os' vs => ∃ vals : List Value, (rs.mapM (resSem tmps)).run P w = .ok vals w ∧ RVL w m' os' vs vals
  | [], m, os, r, ht => .ret r ⟨[], rfl, by rw [RVL]⟩
  | .tmp t :: rs, m, os, r, ht => by
    rw [resultsE]
    refine (giveE_ok r (ht t)).bind fun m1 os1 a r1 g1 h1 => ?_
    refine (resultsE_ok ok rs r1 (ht.go g1 r)).bind fun m2 os2 as r2 g2 ⟨vals, h2, h3⟩ => ?_
    refine .ret r2 ⟨tmps.getD t undef :: vals, ?_, RVL_cons.2 ⟨_, _, rfl, RV.go g2 r1 _ h1, h3⟩⟩
    simp only [List.mapM_cons, resSem, Sem.run_bind, Sem.run_pure, Result.andThen_ok, h2]
  | .cell a t :: rs, m, os, r, ht => by
    rw [resultsE]
    intro n b os' n' hr hfr
    obtain ⟨u, os1, n1, k1, k2⟩ := runAt_bind.1 hr
    obtain ⟨rfl, rfl, v, h1, h2⟩ := loadE_ok (P := P) ok r (ht a) k1
    have hg : Ghost env w ((giveE own k u).bind fun v => (resultsE env own k tm rs).bind fun vs => .ret (v :: vs)) m os1 fun m' os' vs => ∃ vals : List Value, ((ResultVar.cell a t :: rs).mapM (resSem tmps)).run P w = .ok vals w ∧ RVL w m' os' vs vals := by
      refine (giveE_ok r h2).bind fun m1 os1 a' r1 g1 h3 => ?_
      refine (resultsE_ok ok rs r1 (ht.go g1 r)).bind fun m2 os2 as r2 g2 ⟨vals, h4, h5⟩ => ?_
      refine .ret r2 ⟨v :: vals, ?_, RVL_cons.2 ⟨_, _, rfl, RV.go g2 r1 _ h3, h5⟩⟩
      have hld : (resSem tmps (.cell a t)).run P w = .ok v w := by
        have h1' := h1
        simp only [Instr.loadAt, Sem.run_bind] at h1'
        simp only [resSem, Sem.run_bind]
        cases hp : tmps.getD a undef with
        | pointer p =>
          cases p with
          | none => rw [hp] at h1'; simp [Instr.sureAddr, Result.andThen] at h1'
          | some p => rw [hp] at h1'; simpa [Instr.sureAddr, asAddr, Result.andThen] using h1'
        | _ => rw [hp] at h1'; simp [Instr.sureAddr, Result.andThen] at h1'
      simp only [List.mapM_cons, Sem.run_bind, Sem.run_pure, Result.andThen_ok, hld, h4]
    exact hg n1 b os' n' k2 hfr

theorem getT_params : ∀ (args : List AV) (i t : Nat), getT (paramsT i args) t = if i ≤ t then (args[t - i]?).getD .gone else .gone
  | [], i, t => by rw [paramsT]; show AV.gone = _; simp
  | v :: r, i, t => by
    rw [paramsT, getT_cons0]
    by_cases h : i = t
    · subst h; simp
    · rw [if_neg h, getT_params r (i + 1) t]
      by_cases h2 : i ≤ t
      · rw [if_pos (by omega), if_pos h2, show t - i = (t - (i + 1)) + 1 by omega, List.getElem?_cons_succ]
      · rw [if_neg (by omega), if_neg h2]
theorem params_RT {args : List AV} {argv : Array Value} {n : Nat} (h : RVL w m os args argv.toList) : RT w m os (paramsT 0 args) (argv ++ Array.replicate n undef) := by
  intro t
  rw [getT_params, if_pos (Nat.zero_le _), Nat.sub_zero]
  cases ha : args[t]? with
  | none => exact RV_gone
  | some a =>
    obtain ⟨x, h1, h2⟩ := RVL_get h ha
    rw [Array.getElem?_toList] at h1
    have hlt := (Array.getElem?_eq_some_iff.1 h1).1
    rw [Array.getD_eq_getD_getElem?, Array.getElem?_append_left hlt, h1]
    exact h2

theorem ev_ok (ok : EnvOK P env) : ∀ n, EvOK P env n ∧ CallsV P env (fun g as os => callN env n g as os) ∧ KnownOK env n
  | 0 => ⟨fun f k lv c fr o fr' h => by simp [ev] at h, fun f args objs v objs' h => by simp [callN] at h, fun g args objs r h => by simp [callN] at h⟩
  | n + 1 => by
    obtain ⟨ihE, ihC, ihK⟩ := ev_ok ok n
    have noLoop : ∀ {ro : Option Nat} {c : Code} {Q : Exit → Act → World → Prop} {a : Act} {w : World}, (∀ b, c ≠ .loop b) → c.wpIn (FV ro) 0 P Q a w → c.wpIn (FV ro) 0 P Q a w ∧ ∀ b, c = .loop b → Code.roundsIn (FV ro) 0 P b Q (n + 1) a w :=
      fun h1 h2 => ⟨h2, fun b hb => absurd hb (h1 b)⟩
    refine ⟨?_, ?_, ?_⟩
    · intro f k lv c fr o fr' h N hfi ro B w m a Q hfr hk hQ
      cases c with
      | skip =>
        simp only [ev, Option.some.injEq, Prod.mk.injEq] at h
        obtain ⟨rfl, rfl⟩ := h
        exact noLoop (by simp) (wpIn_skip (hQ w m a (.refl hfr.rel hk) hfr))
      | label l =>
        simp only [ev, Option.some.injEq, Prod.mk.injEq] at h
        obtain ⟨rfl, rfl⟩ := h
        exact noLoop (by simp) (wpIn_label (hQ w m a (.refl hfr.rel hk) hfr))
      | exit id =>
        simp only [ev, Option.some.injEq, Prod.mk.injEq] at h
        obtain ⟨rfl, rfl⟩ := h
        exact noLoop (by simp) (wpIn_exit (hQ w m a (.refl hfr.rel hk) hfr))
      | ret =>
        simp only [ev, Option.some.injEq, Prod.mk.injEq] at h
        obtain ⟨rfl, rfl⟩ := h
        exact noLoop (by simp) (wpIn_ret (hQ w m a (.refl hfr.rel hk) hfr))
      | region id ops draw =>
        refine noLoop (by simp) ?_
        simp only [fine, Bool.and_eq_true] at hfi
        have hds : ∀ o ∈ ops.toList, ∀ d, o.dst = some d → d < N := by
          intro o ho d hd
          have := hfi.1
          unfold dstOK at this
          rw [Array.all_eq_true_iff_forall_mem] at this
          have := this o (by simpa using ho)
          rw [hd] at this
          simpa using this
        cases draw with
        | false =>
          simp only [ev, Bool.false_eq_true, if_false] at h
          cases he : opsE env f (fun g as os => callN env n g as os) (ops.toList.map (·.dst)) ops.toList fr with
          | none => rw [he] at h; simp at h
          | some fr1 =>
            rw [he] at h
            simp only [Option.some.injEq, Prod.mk.injEq] at h
            obtain ⟨rfl, rfl⟩ := h
            exact wpIn_region (opsE_ok ok ihC ihK ops.toList 0 fr fr1 w m a rfl hds hk hfr he hQ)
        | true =>
          simp only [ev, if_true] at h
          cases he : opsD env f (fun g as os => callN env n g as os) (ops.toList.map (·.dst)) ops.toList fr with
          | none => rw [he] at h; simp at h
          | some p =>
            obtain ⟨fr1, feet⟩ := p
            rw [he] at h
            dsimp only at h
            split at h
            case isFalse => simp at h
            rename_i hin
            simp only [Option.some.injEq, Prod.mk.injEq] at h
            obtain ⟨rfl, rfl⟩ := h
            have hfi2 : apartOps ops = true ∧ edgesOK ops = true := by simpa using hfi.2
            have nx : Next env w m fr.objs 0 w.drew m fr.objs 0 := Next.drew hfr.rel
            have w0 : Went env k w m fr.objs w.drew m fr.objs := ⟨nx.rel, nx.goes.kept, fun o _ => nx.goes.obj o, hk⟩
            exact wpIn_region_any ok.mixed (opsD_ok ok ihC ihK hfi.1 hfi2.1 hfi2.2 hk ⟨nx.rel, hfr.tmps.go nx.goes hfr.rel, hfr.size, hfr.defers.kept nx.goes.kept⟩ he hin fun w' m' a' h1 h2 => hQ w' m' a' (w0.trans h1) h2)
      | seq x y =>
        refine noLoop (by simp) ?_
        simp only [fine, Bool.and_eq_true] at hfi
        simp only [ev] at h
        cases hx : ev env f k none n x fr with
        | none => rw [hx] at h; simp at h
        | some p =>
          obtain ⟨o1, fr1⟩ := p
          rw [hx] at h
          refine wpIn_seq (ihE f k none x fr o1 fr1 hx N hfi.1 ro B w m a _ hfr hk fun w1 m1 a1 h1 h2 => ?_).1
          cases o1 with
          | normal => exact (ihE f k none y fr1 o fr' h N hfi.2 ro B w1 m1 a1 Q h2 h1.len fun w' m' a' h3 h4 => hQ w' m' a' (h1.trans h3) h4).1
          | exit id =>
            simp only [Option.some.injEq, Prod.mk.injEq] at h
            obtain ⟨rfl, rfl⟩ := h
            exact hQ w1 m1 a1 h1 h2
          | ret =>
            simp only [Option.some.injEq, Prod.mk.injEq] at h
            obtain ⟨rfl, rfl⟩ := h
            exact hQ w1 m1 a1 h1 h2
      | cond c x y =>
        refine noLoop (by simp) ?_
        simp only [fine, Bool.and_eq_true] at hfi
        simp only [ev] at h
        have hc := evalT_ok hfr.rel hfr.tmps c
        cases hv : evalT env fr.tmps c with
        | bool t =>
          rw [hv] at h hc
          simp only [RV] at hc
          dsimp only at h
          cases hn : normO k (env.pol.live f 0 (condKey c)) fr with
          | none => rw [hn] at h; simp at h
          | some fr0 =>
            rw [hn] at h
            dsimp only at h
            obtain ⟨m0, g1, g2⟩ := normO_ok hfr hk hn
            refine wpIn_cond hc ?_
            have hfi' : fine N (if t then x else y) = true := by cases t <;> simp [hfi.1, hfi.2]
            cases hb : ev env f k none n (if t then x else y) fr0 with
            | none => rw [hb] at h; simp at h
            | some p =>
              obtain ⟨o1, fr1⟩ := p
              rw [hb] at h
              refine (ihE f k none _ fr0 o1 fr1 hb N hfi' ro B w m0 a Q g2 g1.len fun w1 m1 a1 h1 h2 => ?_).1
              cases o1 with
              | normal =>
                simp only [Option.map_eq_some_iff] at h
                obtain ⟨fr2, h3, h4⟩ := h
                simp only [Prod.mk.injEq] at h4
                obtain ⟨rfl, rfl⟩ := h4
                obtain ⟨m2, g3, g4⟩ := normO_ok h2 h1.len h3
                exact hQ w1 m2 a1 ((g1.trans h1).trans g3) g4
              | exit id =>
                simp only [Option.some.injEq, Prod.mk.injEq] at h
                obtain ⟨rfl, rfl⟩ := h
                exact hQ w1 m1 a1 (g1.trans h1) h2
              | ret =>
                simp only [Option.some.injEq, Prod.mk.injEq] at h
                obtain ⟨rfl, rfl⟩ := h
                exact hQ w1 m1 a1 (g1.trans h1) h2
        | _ => rw [hv] at h; simp at h
      | block id b =>
        refine noLoop (by simp) ?_
        simp only [fine] at hfi
        simp only [ev] at h
        cases hb : ev env f k (env.pol.live f 2 id) n b fr with
        | none => rw [hb] at h; simp at h
        | some p =>
          obtain ⟨o1, fr1⟩ := p
          rw [hb] at h
          refine wpIn_block (ihE f k _ b fr o1 fr1 hb N hfi ro B w m a _ hfr hk fun w1 m1 a1 h1 h2 => ?_).1
          cases o1 with
          | normal =>
            simp only [Option.map_eq_some_iff] at h
            obtain ⟨fr2, h3, h4⟩ := h
            simp only [Prod.mk.injEq] at h4
            obtain ⟨rfl, rfl⟩ := h4
            obtain ⟨m2, g3, g4⟩ := normO_ok h2 h1.len h3
            exact hQ w1 m2 a1 (h1.trans g3) g4
          | exit i =>
            simp only [exitOf, Exit.inBlock]
            dsimp only at h
            by_cases hi : i = id
            · rw [if_pos hi] at h ⊢
              simp only [Option.map_eq_some_iff] at h
              obtain ⟨fr2, h3, h4⟩ := h
              simp only [Prod.mk.injEq] at h4
              obtain ⟨rfl, rfl⟩ := h4
              obtain ⟨m2, g3, g4⟩ := normO_ok h2 h1.len h3
              exact hQ w1 m2 a1 (h1.trans g3) g4
            · rw [if_neg hi] at h ⊢
              simp only [Option.some.injEq, Prod.mk.injEq] at h
              obtain ⟨rfl, rfl⟩ := h
              exact hQ w1 m1 a1 h1 h2
          | ret =>
            simp only [Option.some.injEq, Prod.mk.injEq] at h
            obtain ⟨rfl, rfl⟩ := h
            exact hQ w1 m1 a1 h1 h2
      | loop b =>
        have hfi' : fine N b = true := by simpa only [fine] using hfi
        have hr : Code.roundsIn (FV ro) 0 P b Q (n + 1) a w := by
          rw [roundsIn_succ]
          simp only [ev] at h
          cases hn : normO k lv fr with
          | none => rw [hn] at h; simp at h
          | some fr0 =>
            rw [hn] at h
            dsimp only at h
            obtain ⟨m0, g1, g2⟩ := normO_ok hfr hk hn
            cases hb : ev env f k none n b fr0 with
            | none => rw [hb] at h; simp at h
            | some p =>
              obtain ⟨o1, fr1⟩ := p
              rw [hb] at h
              refine (ihE f k none b fr0 o1 fr1 hb N hfi' ro B w m0 a _ g2 g1.len fun w1 m1 a1 h1 h2 => ?_).1
              cases o1 with
              | normal =>
                dsimp only at h
                exact (ihE f k lv (.loop b) fr1 o fr' h N hfi ro B w1 m1 a1 Q h2 h1.len fun w' m' a' h3 h4 => hQ w' m' a' ((g1.trans h1).trans h3) h4).2 b rfl
              | exit id =>
                simp only [Option.some.injEq, Prod.mk.injEq] at h
                obtain ⟨rfl, rfl⟩ := h
                exact hQ w1 m1 a1 (g1.trans h1) h2
              | ret =>
                simp only [Option.some.injEq, Prod.mk.injEq] at h
                obtain ⟨rfl, rfl⟩ := h
                exact hQ w1 m1 a1 (g1.trans h1) h2
        refine ⟨wpIn_loop_rounds _ hr, fun b' hb' => ?_⟩
        injection hb' with hb'
        subst hb'
        exact hr
      | rangeFunc g ps assign body =>
        refine noLoop (by simp) ?_
        simp only [ev] at h
        cases hb : backOf env fr.objs (evalT env fr.tmps g) with
        | none => rw [hb] at h; simp at h
        | some p =>
          obtain ⟨te, ob, len⟩ := p
          rw [hb] at h
          dsimp only at h
          cases hr : roundsE env (fun c fr' => ev env f fr.objs.length none n c fr') te ob ps.toList assign body fr.tmps len fr.objs with
          | none => rw [hr] at h; simp at h
          | some p =>
            obtain ⟨out, os2⟩ := p
            rw [hr] at h
            simp only [Option.some.injEq, Prod.mk.injEq] at h
            obtain ⟨rfl, rfl⟩ := h
            exact range_ok ok ihE hb hr hfi hfr hk hQ
      | _ => simp [ev] at h
    · intro g args objs v objs' h w m argv hargs r
      simp only [callN] at h
      cases hf : env.fn g with
      | none => rw [hf] at h; simp at h
      | some fi =>
        rw [hf] at h
        dsimp only at h
        obtain ⟨fn, q1, q2, q3, q4, _, q6⟩ := ok.fn g fi hf
        cases he : ev env g objs.length none n fi.code { tmps := paramsT 0 args, objs } with
        | none => rw [he] at h; simp at h
        | some p =>
          obtain ⟨o, fr1⟩ := p
          rw [he] at h
          have fin : finishE env (env.pol.own g) fi.results objs.length fr1 = some (v, objs') ∧ (o = .normal ∨ o = .ret) := by
            cases o with
            | normal => exact ⟨h, .inl rfl⟩
            | ret => exact ⟨h, .inr rfl⟩
            | exit id => simp at h
          obtain ⟨hfin, ho⟩ := fin
          refine callsIn_wide.1 (callsIn_of_wp_marks (n := 0) q1 q2 trivial (ihE g objs.length none fi.code _ o fr1 he fi.ntmps q6 none w.heap.size w m _ _ ⟨r, params_RT hargs, ?_, Marks.nil (Nat.le_refl _)⟩ (Nat.le_refl _) fun w10 m1 a1 h10 h20 => ?_).1 rfl)
          · rw [Array.size_append, Array.size_replicate, q3]; omega
          · -- the results
            have key : LeavesInM Fence.wide 0 P fn a1.tmps (fun e w' => ∃ m' vv, e = .returned vv ∧ Went env objs.length w m objs w' m' objs' ∧ RV w' m' objs' v vv) a1.defers .returning w10 := by
              refine leaves_marks h20.defers fun w1 g10 hb10 => ?_
              have h1 := h10.likeW g10 fun b hlt _ => hb10 b hlt
              have h2 : FR env w1 m1 fr1 fi.ntmps 0 none { a1 with defers := [] } := ⟨h20.rel.likeW g10, h20.tmps.likeW g10, h20.size, .nil (Nat.zero_le _)⟩
              unfold finishE at hfin
              unfold HM.run at hfin
              cases hr : (resultsE env (env.pol.own g) objs.length fr1.tmps fi.results).runAt fr1.objs fr1.objs.length with
              | none => rw [hr] at hfin; simp at hfin
              | some p =>
                obtain ⟨vs, os2, n2⟩ := p
                rw [hr] at hfin
                dsimp only at hfin
                obtain ⟨m2, nx, vals, hv1, hv2⟩ := resultsE_ok (P := P) ok fi.results h2.rel h2.tmps _ _ _ _ hr (fresh_len _ _)
                have hnd : (dedup (AV.refsL vs) (List.range objs.length)).Nodup := (dedup_nodup _ _ List.nodup_range).1
                obtain ⟨r0, hr0⟩ := dedup_sub (AV.refsL vs) (List.range objs.length)
                obtain ⟨keep, r1, g1, g2, g3⟩ := gather_run (os := os2) (k := os2.length) 8 _ hnd
                rw [g1] at hfin
                simp only [Option.some.injEq, Prod.mk.injEq] at hfin
                obtain ⟨rfl, rfl⟩ := hfin
                have hkeep : keep = List.range objs.length ++ (r0 ++ r1) := by rw [g2, hr0, List.append_assoc]
                have gr := sub_ren (w := w1) (m := m2) (os := os2) (keep := keep) (lend := fun _ => false)
                have hval : RV w1 m2 os2 (one vs) (if h : vals.toArray.size = 1 then vals.toArray[0] else .tuple vals.toArray) := by
                  have hl := RVL_length hv2
                  cases vs with
                  | nil =>
                    have hv0 : vals = [] := List.length_eq_zero_iff.1 hl
                    subst hv0
                    show RV w1 m2 os2 (.tup []) (.tuple #[])
                    simp only [RV]
                    exact ⟨_, rfl, by rw [RVL]⟩
                  | cons x xs =>
                    obtain ⟨y, ys, rfl, h3, h4⟩ := RVL_cons.1 hv2
                    cases xs with
                    | nil =>
                      rw [RVL] at h4; subst h4
                      exact h3
                    | cons x2 xs =>
                      obtain ⟨y2, ys2, rfl, h5, h6⟩ := RVL_cons.1 h4
                      show RV w1 m2 os2 (.tup (x :: x2 :: xs)) _
                      rw [dif_neg (by simp)]
                      simp only [RV]
                      exact ⟨_, rfl, hv2⟩
                have hrun : (results fn a1.tmps).run P w1 = .ok (if h : vals.toArray.size = 1 then vals.toArray[0] else .tuple vals.toArray) w1 := by
                  have e : (fn.results.mapM (resSem a1.tmps)).run P w1 = .ok vals.toArray w1 := by
                    rw [Array.mapM_eq_mapM_toList, q4]
                    simp [hv1]
                  have e2 : results fn a1.tmps = (do let vs ← fn.results.mapM (resSem a1.tmps); pure (if h : vs.size = 1 then vs[0] else .tuple vs)) := by
                    unfold results
                    congr 2
                  rw [e2]
                  simp only [Sem.run_bind, e, Result.andThen_ok, Sem.run_pure]
                have hwent : Went env objs.length w m objs w1 (m2.sub keep fun _ => false) (keep.map (subOb keep.idxOf? (fun _ => false) os2)) := by
                  have wn : Went env objs.length w m objs w1 m2 os2 := h1.trans ⟨nx.rel, nx.goes.kept, fun o _ => nx.goes.obj o, Nat.le_trans h1.len (runAt_len hr)⟩
                  refine wn.trans ⟨sub_rel g3 nx.rel, sub_kept, fun o ho => ?_, ?_⟩
                  · have hko : keep[o]? = some o := by rw [hkeep]; exact range_at ho _
                    have hob : obAt (keep.map (subOb keep.idxOf? (fun _ => false) os2)) o = (obAt os2 o).rn false keep.idxOf? := by rw [obAt_map, hko]; rfl
                    have hblk : (m2.sub keep fun _ => false).blk o = m2.blk o := by simp [Emb.sub, hko]
                    rw [hob, hblk]
                    cases obAt os2 o with
                    | var e s l => exact rfl
                    | row es s l => exact ⟨rfl, by rw [rnL_length]; exact Nat.le_refl _, fun _ => rfl⟩
                    | map es l => exact ⟨rfl, fun b es clock j me _ h1 h2 => ⟨es, clock, me, h1, h2, rfl⟩⟩
                    | dead => trivial
                    | free => trivial
                  · rw [List.length_map, hkeep, List.length_append, List.length_range]; omega
                have hfinal : ∃ v', (results fn a1.tmps).run P w1 = .ok v' w1 ∧ ∃ m' vv, Ending.returned v' = .returned vv ∧ Went env objs.length w m objs w1 m' (keep.map fun o => (obAt os2 o).rn false keep.idxOf?) ∧ RV w1 m' (keep.map fun o => (obAt os2 o).rn false keep.idxOf?) ((one vs).rn false keep.idxOf?) vv :=
                  ⟨_, hrun, _, _, rfl, hwent, RV.ren gr _ hval⟩
                exact hfinal
            rcases ho with rfl | rfl <;> exact key
    · intro g args objs r h
      simp only [callN] at h
      cases hf : env.fn g with
      | none => rw [hf] at h; simp at h
      | some fi => rfl
end
end Go.V
