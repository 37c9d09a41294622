/-
  Loads, stores, new objects: the evaluator agrees with the machine.
-/
import Derived.Test.YtbehbnmljjndiaaGreatDoorV1
import Derived.Laws.Cells
import Derived.Laws.CopyRow
import Derived.Laws.MakeOwn
import Derived.Laws.Build
set_option linter.unusedVariables false
set_option linter.unusedSimpArgs false
namespace Go.V
section
variable {P : Program} {env : Env} {w w' : World} {m m' : Emb} {os os' : List Ob}

/-- What a type's row in the table says of the program. -/
def TyD.ok (P : Program) (t : TypeId) : TyD → Prop
  | .int k => P.underlying t = some (.int k)
  | .bool => P.underlying t = some .bool
  | .string => P.underlying t = some .string
  | .slice e => P.underlying t = some (.slice e)
  | .array n e => P.underlying t = some (.array n e)
  | .struct fs => ∃ F, P.underlying t = some (.struct F) ∧ fs = F.toList.map (fun f => (f.offset, f.type)) ∧ ∀ f ∈ F.toList, P.cellsOf f.type ≠ 0
  | .map k e => P.underlying t = some (.map k e)
  | .pointer e => P.underlying t = some (.pointer e)
  | .func => ∃ a b c, P.underlying t = some (.func a b c)
  | .other => ∃ d, P.underlying t = some d ∧ (∀ F, d ≠ .struct F) ∧ ∀ n e, d ≠ .array n e
/-- A zero value. -/
def zeroRel : AV → Value → Prop
  | .agg cs, v => ∃ vs : Array Value, v = .agg vs ∧ cs = vs.toList.map ofConst ∧ ∀ x ∈ vs.toList, ofConst x ≠ .gone
  | a, v => a = ofConst v ∧ a ≠ .gone
/-- A function that is taken by a law of its own. -/
def ExtOK (P : Program) (env : Env) (g : FuncId) (x : List AV → HM AV) : Prop :=
  ∀ (w : World) (m : Emb) (os : List Ob) (args : List AV) (argv : Array Value), ORel env w m os → RVL w m os args argv.toList → ∀ n a os' n', (x args).runAt os n = some (a, os', n') → Fresh os n n' →
    Calls P g argv w fun e w' => ∃ m' v, e = .returned v ∧ Next env w m os n w' m' os' n' ∧ RV w' m' os' a v
structure EnvOK (P : Program) (env : Env) : Prop where
  ext : ∀ g x, env.ext g = some x → ExtOK P env g x ∧ ∃ fn, P.funcs[g]? = some fn ∧ fn.name ≠ "runtime.NumGoroutine" ∧ fn.body.isNone = false
  fn : ∀ g fi, env.fn g = some fi → ∃ fn, P.funcs[g]? = some fn ∧ fn.body = some fi.code ∧ fn.ntmps = fi.ntmps ∧ fn.results.toList = fi.results ∧ fn.name ≠ "runtime.NumGoroutine" ∧ fine fi.ntmps fi.code = true
  mixed : P.follows .mixedOrders = true
  back : ∀ g te, env.back g = some te → ∃ fn ts tf ti tb, P.funcs[g]? = some fn ∧ (fn.name == "runtime.NumGoroutine") = false ∧ fn.body = some (backBody ts te tf ti tb) ∧ fn.ntmps = 19 ∧ fn.results = #[] ∧ ∃ i, env.ty ts = some i ∧ i.d = .slice te
  eqs : ∀ t, env.eqs t = true → P.stoodInHeld t = false ∧ P.eqGuardType P.depth t = false ∧ ∀ F, P.underlying t = some (.struct F) → ∀ f ∈ F.toList, f.name ≠ "_"
  ty : ∀ t ti, env.ty t = some ti → ∃ i, P.info? t = some i ∧ i.size = ti.size ∧ i.bytes = ti.bytes ∧ ti.d.ok P t ∧ ∀ z, ti.zero = some z → ∃ v, i.zero = some v ∧ zeroRel z v

theorem cell_add {b i j : Nat} {cs : Array Value} {T : TypeId} {fr : Nat × Nat} (h : w.heap[b]? = some (.cells cs T fr)) :
    w.cell? ((⟨b, i, none⟩ : Addr).add j) = cs[i + j]? := by
  unfold Addr.add
  split
  · rename_i h0; subst h0; simp [World.cell?, h]
  · simp [World.cell?, h]

theorem run_isAgg' {t : TypeId} {d : TypeDesc} (h : P.underlying t = some d) :
    (isAgg t).run P w = .ok (match d with | .struct _ | .array _ _ => true | _ => false) w := by
  simp only [isAgg, underlying, Go.program, bind, Sem.bind, Sem.run, h]
  cases d <;> rfl
theorem run_sizeOf' {t : TypeId} {i : TypeInfo} (h : P.info? t = some i) : (Go.sizeOf t).run P w = .ok i.size w := by
  simp only [Go.sizeOf, typeInfo, Go.program, bind, Sem.bind, Sem.run, h]
  rfl
/-- is a type a struct or an array? -/
theorem isAgg_ok (ok : EnvOK P env) {t : TypeId} {ag : Bool} {n : Nat} (h : isAggT env t = some (ag, n)) :
    (isAgg t).run P w = .ok ag w ∧ (Go.sizeOf t).run P w = .ok n w := by
  unfold isAggT at h
  cases hti : env.ty t with
  | none => simp [hti] at h
  | some ti =>
    obtain ⟨inf, h1, h2, h3, h4, h5⟩ := ok.ty t ti hti
    have hs := run_sizeOf' (w := w) h1
    obtain ⟨d, size, bytes, zero⟩ := ti
    rw [hti] at h
    cases d <;> simp only [Option.some.injEq, Prod.mk.injEq] at h <;> obtain ⟨rfl, rfl⟩ := h <;> simp only [TyD.ok] at h4 <;> refine ⟨?_, by rw [hs]; exact congrArg (fun x => Result.ok x w) h2⟩
    case struct => obtain ⟨F, h4, _⟩ := h4; exact run_isAgg' h4
    case func => obtain ⟨a, b, c, h4⟩ := h4; exact run_isAgg' h4
    case other =>
      obtain ⟨d, h4, h6, h7⟩ := h4
      rw [run_isAgg' h4]
      cases d <;> first | rfl | (exact absurd rfl (h6 _)) | (exact absurd rfl (h7 _ _))
    all_goals exact run_isAgg' h4

/-- The cells of a variable, read. -/
theorem loadVar_ok (ok : EnvOK P env) {t : TypeId} {b i : Nat} {cs : Array Value} {T : TypeId} {fr : Nat × Nat} {e : AV} {k : Nat} {a : AV}
    (hb : w.heap[b]? = some (.cells cs T fr)) (he : ∃ rest, RVC w m os e ((cs.toList.drop k).take e.cells.length) ∧ cs.toList.drop k = (cs.toList.drop k).take e.cells.length ++ rest)
    (hp : partAV env t e i = some a) : ∃ x, (loadVar t ⟨b, k + i, none⟩).run P w = .ok x w ∧ RV w m os a x := by
  obtain ⟨rest, he, hrest⟩ := he
  obtain ⟨hc, hpl⟩ := RVC_cells he
  unfold partAV at hp
  cases hag : isAggT env t with
  | none => simp [hag] at hp
  | some p =>
    obtain ⟨ag, n⟩ := p
    obtain ⟨h1, h2⟩ := isAgg_ok (w := w) ok hag
    rw [hag] at hp
    cases ag with
    | true =>
      dsimp only at hp
      split at hp
      · rename_i hle
        simp only [Option.some.injEq] at hp
        subst hp
        have hsub : RVL w m os ((e.cells.drop i).take n) ((((cs.toList.drop k).take e.cells.length).drop i).take n) := RVL_take n (RVL_drop i hc)
        have hlen' : ((((cs.toList.drop k).take e.cells.length).drop i).take n).length = n := by
          have := RVC_length he
          rw [RVL_length hsub, List.length_take, List.length_drop]; omega
        refine ⟨.agg ((((cs.toList.drop k).take e.cells.length).drop i).take n).toArray, ?_, RV_agg.2 ⟨_, rfl, ?_, hsub⟩⟩
        · have h3 := run_loadCells_list (P := P) w ⟨b, k + i, none⟩ ((((cs.toList.drop k).take e.cells.length).drop i).take n) (fun j v hj => by
            rw [cell_add hb]
            rw [List.getElem?_take] at hj
            split at hj
            · rw [List.getElem?_drop, List.getElem?_take] at hj
              split at hj
              · rw [List.getElem?_drop] at hj
                rw [← Array.getElem?_toList, Nat.add_assoc]; exact hj
              · simp at hj
            · simp at hj)
          rw [hlen'] at h3
          simp only [loadVar, Sem.run_bind, h1, h2, h3, Result.andThen, if_true]
          rfl
        · rw [List.all_eq_true] at hpl ⊢
          exact fun c hc => hpl c (List.mem_of_mem_drop (List.mem_of_mem_take hc))
      · simp at hp
    | false =>
      dsimp only at hp
      obtain ⟨x, h3, h4⟩ := RVL_get hc hp
      refine ⟨x, ?_, h4⟩
      have h5 : w.cell? (⟨b, k + i, none⟩ : Addr) = some x := by
        have h6 : cs.toList[k + i]? = some x := by
          rw [List.getElem?_take] at h3
          split at h3
          · rw [List.getElem?_drop] at h3; exact h3
          · simp at h3
        simpa [World.cell?, hb] using h6
      simp only [loadVar, Sem.run_bind, h1, Result.andThen, Bool.false_eq_true, if_false, run_load, h5]

theorem run_loadAt {t : TypeId} {a : Addr} : Instr.loadAt t (.pointer (some a)) = loadVar t a := rfl
theorem lift_some {α : Type} {x : Option α} {n n' : Nat} {a : α} (h : (HM.lift x).runAt os n = some (a, os', n')) : x = some a ∧ os' = os ∧ n' = n := by
  cases x with
  | none => simp [HM.lift, HM.runAt] at h
  | some b =>
    simp only [HM.lift, HM.runAt, Option.some.injEq, Prod.mk.injEq] at h
    obtain ⟨rfl, rfl, rfl⟩ := h
    exact ⟨rfl, rfl, rfl⟩

theorem RVC_whole {e : AV} {l : List Value} (h : RVC w m os e l) : ∃ rest, RVC w m os e ((l.drop 0).take e.cells.length) ∧ l.drop 0 = (l.drop 0).take e.cells.length ++ rest := by
  rw [List.drop_zero, ← RVC_length h, List.take_length]
  exact ⟨[], h, by simp⟩

/-- A variable is read. -/
theorem loadE_ok (ok : EnvOK P env) (r : ORel env w m os) {t : TypeId} {a x : AV} {av : Value} {n n' : Nat} (ha : RV w m os a av)
    (h : (loadE env t a).runAt os n = some (x, os', n')) : os' = os ∧ n' = n ∧ ∃ v, (Instr.loadAt t av).run P w = .ok v w ∧ RV w m os x v := by
  cases a with
  | ptr o i =>
    simp only [RV] at ha
    obtain ⟨_, ha⟩ := ha
    have hr := r.obs o
    simp only [loadE, HM.runAt] at h
    cases hob : obAt os o with
    | var e s lk =>
      rw [hob] at ha h hr
      obtain ⟨b, h1, rfl⟩ := ha
      obtain ⟨h2, h3, h4⟩ := lift_some h
      obtain ⟨b', cs, T, fr, h5, h6, _, _, h7, _⟩ := hr
      rw [h1] at h5; injection h5 with h5; subst h5
      obtain ⟨v, h8, h9⟩ := loadVar_ok (P := P) (k := 0) ok h6 (RVC_whole h7) h2
      rw [Nat.zero_add] at h8
      exact ⟨h3, h4, v, h8, h9⟩
    | _ => rw [hob] at h; simp [HM.runAt] at h
  | ep o j i ext =>
    simp only [RV] at ha
    obtain ⟨_, ha⟩ := ha
    have hr := r.obs o
    simp only [loadE, HM.runAt] at h
    cases hob : obAt os o with
    | row es s lk =>
      rw [hob] at ha h hr
      dsimp only at h
      split at h
      case isFalse => simp [HM.runAt] at h
      rename_i hext
      obtain ⟨b, h1, rfl⟩ := ha.2 hext
      cases hj : es[j]? with
      | none => simp [hj, HM.runAt] at h
      | some e =>
        rw [hj] at h
        obtain ⟨h2, h3, h4⟩ := lift_some h
        rcases hr with ⟨h5, _⟩ | ⟨b', cs, T, fr, h5, h6, _, h7, _⟩
        · subst h5; simp at hj
        · rw [h1] at h5; injection h5 with h5; subst h5
          obtain ⟨h8, h9⟩ := RVE_get h7 hj
          have hl := RVC_length h8
          rw [List.length_take, List.length_drop] at hl
          have hs : e.cells.length = s := by omega
          obtain ⟨v, h10, h11⟩ := loadVar_ok (P := P) (k := j * s) ok h6 ⟨(cs.toList.drop (j * s)).drop s, by rw [hs]; exact h8, by rw [hs, List.take_append_drop]⟩ h2
          exact ⟨h3, h4, v, h10, h11⟩
    | _ => rw [hob] at h; simp [HM.runAt] at h
  | fp e i =>
    obtain ⟨_, b, off, cs, T, fr, rfl, h1, h2, vs, rest, h3, h4⟩ := RV_fp.1 ha
    simp only [loadE] at h
    obtain ⟨h5, h6, h7⟩ := lift_some h
    have hl := RVC_length h4
    have htk : (cs.toList.drop off).take e.cells.length = vs := by rw [h3, ← hl, List.take_left]
    obtain ⟨v, h10, h11⟩ := loadVar_ok (P := P) (k := off) ok h2 ⟨rest, by rw [htk]; exact h4, by rw [htk]; exact h3⟩ h5
    exact ⟨h6, h7, v, h10, h11⟩
  | _ => simp [loadE, HM.runAt] at h
end
end Go.V
namespace Go.V
section
variable {P : Program} {env : Env} {w w' : World} {m m' : Emb} {os os' : List Ob}

theorem plain_one {v : Value} (h : Value.plain v) : v.oneCell' = true := by cases v <;> first | rfl | exact h.elim

/-- The cells of an object's own block are turned. -/
theorem write_own (r : ORel env w m os) {o b n : Nat} {cs cs' : Array Value} {T : TypeId} {fr : Nat × Nat} {ob : Ob} (hown : m.own b = .mine o) (hb : w.heap[b]? = some (.cells cs T fr))
    (hsz : cs'.size = cs.size) (hgo : ObGo w (m.blk o) (w.setRow b cs') (m.blk o) (obAt os o) ob) (hlk : ob.lk = some .mine)
    (ho : Goes w m os (w.setRow b cs') m (setOb os o ob) → RO (w.setRow b cs') m (setOb os o ob) o ob) : Next env w m os n (w.setRow b cs') m (setOb os o ob) n := by
  have hoth : ∀ c, (m.own c ≠ .mine o) → (w.setRow b cs').heap[c]? = w.heap[c]? := fun c hc => setRow_other w b c cs' (fun h => hc (h ▸ hown))
  have hcells : ∀ c k, cellsN w c = some k → cellsN (w.setRow b cs') c = some k := by
    intro c k hk
    by_cases hc : c = b
    · subst hc
      simp only [cellsN, hb, Option.some.injEq] at hk
      simp only [cellsN, setRow_heap w c cs cs' T fr hb, Option.some.injEq]
      omega
    · simp only [cellsN, setRow_other w b c cs' hc] at hk ⊢
      exact hk
  have g : Goes w m os (w.setRow b cs') m (setOb os o ob) := by
    refine ⟨⟨by simp, rfl, rfl, rfl, fun c _ hm => ⟨hoth c (hm o), rfl⟩, hcells⟩, fun p => ?_⟩
    rw [obAt_setOb]
    split
    · rename_i hp; subst hp; exact hgo
    · rename_i hp
      have : ∀ ob, obAt os p = ob → ObGo w (m.blk p) (w.setRow b cs') (m.blk p) ob ob := by
        intro ob hob
        cases ob <;> simp only [ObGo] <;> try trivial
        · exact ⟨trivial, Nat.le_refl _, fun _ => trivial⟩
        · refine ⟨trivial, fun c es clock j me _ h1 h2 => ?_⟩
          have hc : c ≠ b := fun h => by subst h; rw [hb] at h1; simp at h1
          exact ⟨es, clock, me, (setRow_other w b c cs' hc).trans h1, h2, rfl⟩
      exact this _ rfl
  refine ⟨r.set g (ho g) (fun p hp => ⟨rfl, fun c h => ⟨hoth c (fun h' => ?_), h⟩⟩) (fun c p h => ?_) (fun c h => by simpa using r.frozen c h), g, Nat.le_refl _, fun p _ hf => ?_⟩
  · rw [h] at h'; injection h' with h'; exact hp h'
  · by_cases hpo : p = o
    · subst hpo
      obtain ⟨h1, h2, _⟩ := r.mine c p h
      exact .inr ⟨rfl, by simpa using h1, h2, hlk⟩
    · exact .inl ⟨hpo, h⟩
  · rw [obAt_setOb]; split
    · rename_i hp'; subst hp'
      have := (r.mine b p hown).2.2
      rw [hf] at this; simp [Ob.lk] at this
    · exact hf

theorem RVC_upd {e : AV} {l : List Value} {xs : List AV} {vs : List Value} {i : Nat} (h : RVC w m os e l) (hx : RVL w m os xs vs) (hp : xs.all AV.plain = true)
    (hi : i + xs.length ≤ e.cells.length) : RVC w m os (updAV e i xs) (l.take i ++ vs ++ l.drop (i + vs.length)) := by
  have hlen := RVL_length hx
  rcases RVC_cases h with ⟨cs, rfl⟩ | hpl
  · obtain ⟨h1, h2⟩ := RVC_agg.1 h
    simp only [updAV]
    refine RVC_agg.2 ⟨?_, ?_⟩
    · simp only [List.all_append, hp, Bool.and_true, Bool.and_eq_true]
      rw [List.all_eq_true] at h1
      exact ⟨List.all_eq_true.2 fun c hc => h1 c (List.mem_of_mem_take hc), List.all_eq_true.2 fun c hc => h1 c (List.mem_of_mem_drop hc)⟩
    · rw [hlen]
      exact RVL_append (RVL_append (RVL_take i h2) hx) (RVL_drop _ h2)
  · obtain ⟨v, rfl, h1⟩ := (RVC_plain hpl).1 h
    have hc : e.cells = [e] := by cases e <;> first | rfl | simp [AV.plain] at hpl
    rw [hc] at hi
    have hu : updAV e i xs = xs.headD e := by cases e <;> first | rfl | simp [AV.plain] at hpl
    rw [hu]
    cases xs with
    | nil =>
      rw [RVL] at hx; subst hx
      simp only [List.headD_nil, List.append_nil, List.length_nil, Nat.add_zero, List.take_append_drop]
      exact h
    | cons c cs =>
      simp only [List.length_cons, List.length_nil] at hi
      have hcs : cs = [] := List.length_eq_zero_iff.1 (by omega)
      subst hcs
      obtain ⟨u, t, h2, h3, h4⟩ := RVL_cons.1 hx
      rw [RVL] at h4; subst h4; subst h2
      have hi0 : i = 0 := by omega
      subst hi0
      simp only [List.all_cons, List.all_nil, Bool.and_true] at hp
      simp only [List.headD_cons, List.take_zero, List.nil_append, List.length_cons, List.length_nil]
      exact (RVC_plain hp).2 ⟨u, by simp, h3⟩

theorem RVE_upd {size : Nat} {xs : List AV} {vs : List Value} {i : Nat} (hx : RVL w m os xs vs) (hp : xs.all AV.plain = true) :
    ∀ {j : Nat} {es : List AV} {l : List Value} {e : AV}, RVE w m os size es l → es[j]? = some e → i + xs.length ≤ e.cells.length →
      RVE w m os size (es.set j (updAV e i xs)) (l.take (j * size + i) ++ vs ++ l.drop (j * size + i + vs.length))
  | _, [], _, _, _, hc, _ => by simp at hc
  | 0, _ :: _, _, _, h, hc, hi => by
    obtain ⟨cs, rest, h1, h2, h3, h4⟩ := RVE_cons.1 h
    simp only [List.getElem?_cons_zero, Option.some.injEq] at hc; subst hc
    have hl := RVC_length h3
    have hv := RVL_length hx
    subst h1
    have hu := RVC_upd h3 hx hp hi
    rw [List.set_cons_zero]
    refine RVE_cons.2 ⟨_, rest, ?_, ?_, hu, h4⟩
    · rw [Nat.zero_mul, Nat.zero_add, List.take_append_of_le_length (by omega), List.drop_append_of_le_length (by omega)]
      simp only [List.append_assoc]
    · simp only [List.length_append, List.length_take, List.length_drop]; omega
  | j + 1, _ :: _, _, _, h, hc, hi => by
    obtain ⟨cs, rest, h1, h2, h3, h4⟩ := RVE_cons.1 h
    simp only [List.getElem?_cons_succ] at hc
    have ih := RVE_upd hx hp h4 hc hi
    subst h1
    rw [List.set_cons_succ]
    refine RVE_cons.2 ⟨cs, _, ?_, h2, h3, ih⟩
    have e1 : (j + 1) * size + i = cs.length + (j * size + i) := by rw [Nat.succ_mul]; omega
    have e2 : (j + 1) * size + i + vs.length = cs.length + (j * size + i + vs.length) := by rw [Nat.succ_mul]; omega
    rw [e2, e1, List.take_length_add_append, List.drop_length_add_append]
    simp only [List.append_assoc]

theorem run_storeAt {t : TypeId} {inf : TypeInfo} {b o : Nat} {v : Value} {cs : Array Value} {T : TypeId} (hi : P.info? t = some inf) (hv : v.cells.size = inf.size)
    (hb : w.heap[b]? = some (.cells cs T (0, 0))) (hl : o + v.cells.size ≤ cs.size) (hp : ∀ x ∈ v.cells.toList, x.oneCell' = true) :
    (Instr.storeAt t (.pointer (some ⟨b, o, none⟩)) v).run P w = .ok () (w.setRow b (cs.toList.take o ++ v.cells.toList ++ cs.toList.drop (o + v.cells.toList.length)).toArray) := by
  have h := run_storeCells_at (P := P) b o T v.cells.toList 0 cs w hb (by simpa using hl) hp
  have hs := run_sizeOf' (w := w) hi
  show (storeVar t ⟨b, o, none⟩ v).run P w = _
  simp only [storeVar, Sem.run_bind, hs, Result.andThen, hv]
  simpa using h

theorem RVL_one : ∀ {xs : List AV} {vs : List Value}, RVL w m os xs vs → xs.all AV.plain = true → ∀ v ∈ vs, v.oneCell' = true
  | [], _, h, _, v, hv => by rw [RVL] at h; subst h; simp at hv
  | x :: xs, _, h, hp, v, hv => by
    obtain ⟨u, t, h1, h2, h3⟩ := RVL_cons.1 h
    subst h1
    simp only [List.all_cons, Bool.and_eq_true] at hp
    rcases List.mem_cons.1 hv with h4 | h4
    · subst h4; exact plain_one (RV_plain hp.1 h2)
    · exact RVL_one h3 hp.2 v h4

/-- A variable is turned. -/
theorem storeVar_ok (ok : EnvOK P env) (r : ORel env w m os) {nest : Bool} {t : TypeId} {o i n n' : Nat} {x y : AV} {av xv : Value}
    (ha : RV w m os (.ptr o i) av) (hx : RV w m os x xv) (h : (storeE env nest t (.ptr o i) x).runAt os n = some (y, os', n')) :
    ∃ w', (Instr.storeAt t av xv).run P w = .ok () w' ∧ Next env w m os n w' m os' n' ∧ y = .und := by
  simp only [RV] at ha
  obtain ⟨_, ha⟩ := ha
  have hr := r.obs o
  unfold storeE at h
  cases hti : env.ty t with
  | none => simp [hti, HM.runAt] at h
  | some ti =>
    rw [hti] at h
    dsimp only at h
    split at h
    case isFalse => simp [HM.runAt] at h
    rename_i hc
    simp only [HM.runAt] at h
    cases hob : obAt os o with
    | var e s lk =>
      rw [hob] at ha h hr
      cases lk with
      | mine =>
        dsimp only at h
        split at h
        case isFalse => simp [HM.runAt] at h
        rename_i hi
        simp only [HM.runAt, Option.some.injEq, Prod.mk.injEq] at h
        obtain ⟨rfl, rfl, rfl⟩ := h
        obtain ⟨b, h1, rfl⟩ := ha
        obtain ⟨b', cs, T, fr, h5, h6, hfr, h8, h7, hown⟩ := hr
        rw [h1] at h5; injection h5 with h5; subst h5 hfr
        obtain ⟨inf, g1, g2, _, _, _⟩ := ok.ty t ti hti
        have hxc := RVC_of_RV (storable_plain hc.2) hx
        obtain ⟨hxl, hxp⟩ := RVC_cells hxc
        have hlen := RVC_length hxc
        have hel := RVC_length h7
        have hsz : xv.cells.size = inf.size := by rw [← Array.length_toList, hlen, g2]; exact hc.1
        have hrun := run_storeAt (P := P) g1 hsz h6 (o := i) (by rw [hsz, g2, ← Array.length_toList, hel]; exact hi) (RVL_one hxl hxp)
        refine ⟨_, hrun, write_own r hown h6 ?_ (by rw [hob]; trivial) rfl fun g => ?_, rfl⟩
        · have : xv.cells.toList.length = xv.cells.size := Array.length_toList
          have : cs.toList.length = cs.size := Array.length_toList
          simp only [List.size_toArray, List.length_append, List.length_take, List.length_drop]; omega
        · refine ⟨b, _, T, (0, 0), h1, setRow_heap w b cs _ T (0, 0) h6, rfl, ?_, ?_, hown⟩
          · have : xv.cells.toList.length = xv.cells.size := Array.length_toList
            have : cs.toList.length = cs.size := Array.length_toList
            simp only [List.size_toArray, List.length_append, List.length_take, List.length_drop]; omega
          · exact (RVC_upd h7 hxl hxp (by rw [hc.1]; exact hi)).go g r
      | _ => simp [HM.runAt] at h
    | _ => rw [hob] at h; simp [HM.runAt] at h

/-- An element is turned. -/
theorem storeElem_ok (ok : EnvOK P env) (r : ORel env w m os) {nest : Bool} {t : TypeId} {o j i ext n n' : Nat} {x y : AV} {av xv : Value}
    (ha : RV w m os (.ep o j i ext) av) (hx : RV w m os x xv) (h : (storeE env nest t (.ep o j i ext) x).runAt os n = some (y, os', n')) (hf : Fresh os n n') :
    ∃ m' w', (Instr.storeAt t av xv).run P w = .ok () w' ∧ Next env w m os n w' m' os' n' ∧ y = .und := by
  unfold storeE at h
  cases hti : env.ty t with
  | none => simp [hti, HM.runAt] at h
  | some ti =>
    rw [hti] at h
    dsimp only at h
    split at h
    case isFalse => simp [HM.runAt] at h
    rename_i hc
    obtain ⟨z, os1, n1, h1, h2⟩ := runAt_bind.1 h
    obtain ⟨m1, nx, hz, hzp, hzst⟩ := putE_ok r hx n z os1 n1 h1 (hf.mono (runAt_le h2))
    have ha := RV.go nx.goes r _ ha
    simp only [RV] at ha
    obtain ⟨_, ha⟩ := ha
    have hr := nx.rel.obs o
    simp only [HM.runAt] at h2
    cases hob : obAt os1 o with
    | row es s lk =>
      rw [hob] at ha h2 hr
      cases lk with
      | mine =>
        dsimp only at h2
        split at h2
        case isFalse => simp [HM.runAt] at h2
        rename_i hext
        cases hj : es[j]? with
        | none => simp [hj, HM.runAt] at h2
        | some e =>
          rw [hj] at h2
          dsimp only at h2
          split at h2
          case isFalse => simp [HM.runAt] at h2
          rename_i hi
          simp only [HM.runAt, Option.some.injEq, Prod.mk.injEq] at h2
          obtain ⟨rfl, rfl, rfl⟩ := h2
          obtain ⟨b, hb1, rfl⟩ := ha.2 hext
          rcases hr with ⟨h5, _⟩ | ⟨b', cs, T, fr, h5, h6, hfr, h7, hown⟩
          · subst h5; simp at hj
          · rw [hb1] at h5; injection h5 with h5; subst h5 hfr
            obtain ⟨inf, g1, g2, _, _, _⟩ := ok.ty t ti hti
            have hzs := storable_plain (hzst hc.2)
            have hzc := RVC_of_RV hzs hz
            obtain ⟨hzl, hzpl⟩ := RVC_cells hzc
            have hlen := RVC_length hzc
            obtain ⟨h8, h9⟩ := RVE_get h7 hj
            have hel := RVC_length h8
            have c1 : cs.toList.length = cs.size := Array.length_toList
            have c2 : xv.cells.toList.length = xv.cells.size := Array.length_toList
            rw [List.length_take, List.length_drop] at hel
            have hsz : xv.cells.size = inf.size := by rw [← c2, hlen, g2]; exact hi.2
            have hrun := run_storeAt (P := P) g1 hsz h6 (o := j * s + i) (by omega) (RVL_one hzl hzpl)
            refine ⟨m1, _, hrun, nx.trans (write_own nx.rel hown h6 ?_ (by rw [hob]; exact ⟨rfl, by simp, fun _ => rfl⟩) rfl fun g => ?_), rfl⟩
            · simp only [List.size_toArray, List.length_append, List.length_take, List.length_drop]; omega
            · exact .inr ⟨b, _, T, (0, 0), hb1, setRow_heap w b cs _ T (0, 0) h6, rfl, (RVE_upd hzl hzpl h7 hj (by omega)).go g nx.rel, hown⟩
      | _ => simp [HM.runAt] at h2
    | _ => rw [hob] at h2; simp [HM.runAt] at h2
end
end Go.V
namespace Go.V
section
variable {P : Program} {env : Env} {w w' : World} {m m' : Emb} {os os' : List Ob}

def World.pushed (w : World) (x : Obj) : World := { w with heap := w.heap.push x }
def Emb.put (m : Emb) (o b : Nat) : Emb := { own := fun c => if c = b then .mine o else m.own c, blk := fun p => if p = o then some b else m.blk p }

theorem pushed_old {x : Obj} {c : Nat} (h : c < w.heap.size) : (World.pushed w x).heap[c]? = w.heap[c]? := by
  show (w.heap.push x)[c]? = _
  rw [Array.getElem?_push, if_neg (Nat.ne_of_lt h)]
theorem pushed_new {x : Obj} : (World.pushed w x).heap[w.heap.size]? = some x := by
  show (w.heap.push x)[w.heap.size]? = _
  rw [Array.getElem?_push, if_pos rfl]

/-- A new object with a block of its own. -/
theorem new_own (r : ORel env w m os) {n : Nat} {x : Obj} {ob : Ob} (hfree : obAt os n = .free) (hlk : ob.lk = some .mine)
    (ho : Goes w m os (World.pushed w x) (m.put n w.heap.size) (setOb os n ob) → RO (World.pushed w x) (m.put n w.heap.size) (setOb os n ob) n ob) :
    Next env w m os n (World.pushed w x) (m.put n w.heap.size) (setOb os n ob) (n + 1) := by
  have hsz : (World.pushed w x).heap.size = w.heap.size + 1 := Array.size_push ..
  have hno : ∀ c, m.own c ≠ .mine n := fun c h => by have := (r.mine c n h).2.2; rw [hfree] at this; simp [Ob.lk] at this
  have g : Goes w m os (World.pushed w x) (m.put n w.heap.size) (setOb os n ob) := by
    refine ⟨⟨by omega, rfl, rfl, rfl, fun c hc _ => ⟨pushed_old hc, ?_⟩, fun c k hk => ?_⟩, fun p => ?_⟩
    · simp only [Emb.put]; rw [if_neg (Nat.ne_of_lt hc)]
    · have hc : c < w.heap.size := by
        unfold cellsN at hk
        split at hk
        · rename_i h; exact lt_of_heap h
        · simp at hk
      simp only [cellsN, pushed_old hc] at hk ⊢
      exact hk
    · rw [obAt_setOb]
      split
      · rename_i hp; subst hp; rw [hfree]; trivial
      · rename_i hp
        have hblk : (m.put n w.heap.size).blk p = m.blk p := by simp only [Emb.put]; rw [if_neg hp]
        rw [hblk]
        have : ∀ ob, obAt os p = ob → ObGo w (m.blk p) (World.pushed w x) (m.blk p) ob ob := by
          intro ob hob
          cases ob <;> simp only [ObGo] <;> try trivial
          · exact ⟨trivial, Nat.le_refl _, fun _ => trivial⟩
          · refine ⟨trivial, fun c es clock j me _ h1 h2 => ?_⟩
            exact ⟨es, clock, me, (pushed_old (lt_of_heap h1)).trans h1, h2, rfl⟩
        exact this _ rfl
  refine ⟨r.set g (ho g) (fun p hp => ⟨by simp only [Emb.put]; rw [if_neg hp], fun c h => ?_⟩) (fun c p h => ?_) (fun c h => ?_), g, Nat.le_succ _, fun p hp hf => ?_⟩
  · have hc := (r.mine c p h).1
    exact ⟨pushed_old hc, by simp only [Emb.put]; rw [if_neg (Nat.ne_of_lt hc)]; exact h⟩
  · simp only [Emb.put] at h
    split at h
    · rename_i hc
      injection h with h
      subst h hc
      exact .inr ⟨rfl, by omega, by simp [Emb.put], hlk⟩
    · exact .inl ⟨fun hp => hno c (hp ▸ h), h⟩
  · simp only [Emb.put] at h
    split at h
    · simp at h
    · have := r.frozen c h; omega
  · rw [obAt_setOb, if_neg (by omega)]; exact hf
end
end Go.V
namespace Go.V
section
variable {P : Program} {env : Env} {w w' : World} {m m' : Emb} {os os' : List Ob}

theorem pickE_ok {c a b x : AV} {cv av bv : Value} {n n' : Nat} (hc : RV w m os c cv) (ha : RV w m os a av) (hb : RV w m os b bv)
    (h : (pickE c a b).runAt os n = some (x, os', n')) : os' = os ∧ n' = n ∧ ∃ t, cv = .bool t ∧ RV w m os x (if t then av else bv) := by
  cases c with
  | bool t =>
    simp only [RV] at hc
    simp only [pickE, HM.runAt, Option.some.injEq, Prod.mk.injEq] at h
    obtain ⟨rfl, rfl, rfl⟩ := h
    refine ⟨rfl, rfl, t, hc, ?_⟩
    cases t <;> assumption
  | _ => simp [pickE, HM.runAt] at h

theorem extractE_ok {t x : AV} {tv : Value} {i n n' : Nat} (ht : RV w m os t tv) (h : (extractE t i).runAt os n = some (x, os', n')) :
    os' = os ∧ n' = n ∧ ∃ vs v, tv = .tuple vs ∧ vs[i]? = some v ∧ RV w m os x v := by
  cases t with
  | tup cs =>
    simp only [RV] at ht
    obtain ⟨vs, rfl, h1⟩ := ht
    simp only [extractE] at h
    cases hi : cs[i]? with
    | none => simp [hi, HM.runAt] at h
    | some c =>
      rw [hi] at h
      simp only [HM.runAt, Option.some.injEq, Prod.mk.injEq] at h
      obtain ⟨rfl, rfl, rfl⟩ := h
      obtain ⟨v, h2, h3⟩ := RVL_get h1 hi
      exact ⟨rfl, rfl, vs, v, rfl, by rw [← Array.getElem?_toList]; exact h2, h3⟩
  | _ => simp [extractE, HM.runAt] at h

theorem add_none (b i j : Nat) : (⟨b, i, none⟩ : Addr).add j = ⟨b, i + j, none⟩ := by
  unfold Addr.add; split
  · rename_i h; subst h; rfl
  · rfl

theorem fieldPlace_ok {a : Addr} {f : Field} (h : P.cellsOf f.type ≠ 0) : (fieldPlace a f).run P w = .ok (a.add f.offset) w := by
  unfold Program.cellsOf at h
  cases hi : P.info? f.type with
  | none => simp [hi] at h
  | some i =>
    have hs := run_sizeOf' (w := w) hi
    have h0 : ¬ i.size = 0 := by simpa [hi] using h
    simp only [fieldPlace, Sem.run_bind, hs, Result.andThen, h0, if_false]
    rfl
theorem run_underlying' {t : TypeId} {d : TypeDesc} (h : P.underlying t = some d) : (underlying t).run P w = .ok d w := by
  simp only [underlying, Go.program, bind, Sem.bind, Sem.run, h]
  rfl
theorem RPtr_add {o i j : Nat} {v : Value} (h : RPtr m os o i v) : ∃ a, v = .pointer (some a) ∧ RPtr m os o (i + j) (.pointer (some (a.add j))) := by
  obtain ⟨⟨a, rfl⟩, h⟩ := h
  refine ⟨a, rfl, ⟨_, rfl⟩, ?_⟩
  cases hob : obAt os o with
  | var e s lk =>
    rw [hob] at h
    obtain ⟨b, h1, h2⟩ := h
    simp only [Value.pointer.injEq, Option.some.injEq] at h2
    subst h2
    exact ⟨b, h1, by rw [add_none]⟩
  | dead => trivial
  | _ => rw [hob] at h; exact h.elim
theorem REp_add {o k i ext j : Nat} {v : Value} (h : REp m os o k i ext v) : ∃ a, v = .pointer (some a) ∧ REp m os o k (i + j) ext (.pointer (some (a.add j))) := by
  obtain ⟨⟨a, rfl⟩, h⟩ := h
  refine ⟨a, rfl, ⟨_, rfl⟩, ?_⟩
  cases hob : obAt os o with
  | row es s lk =>
    rw [hob] at h
    refine ⟨h.1, fun he => ?_⟩
    obtain ⟨b, h1, h2⟩ := h.2 he
    simp only [Value.pointer.injEq, Option.some.injEq] at h2
    subst h2
    exact ⟨b, h1, by rw [add_none, Nat.add_assoc]⟩
  | dead => trivial
  | _ => rw [hob] at h; exact h.elim

/-- The address of a field. -/
theorem fieldAddrE_ok (ok : EnvOK P env) {t : TypeId} {x y : AV} {xv : Value} {f n n' : Nat} (hx : RV w m os x xv)
    (h : (fieldAddrE env t x f).runAt os n = some (y, os', n')) : os' = os ∧ n' = n ∧ ∃ v, (Instr.fieldAt t xv f).run P w = .ok v w ∧ RV w m os y v := by
  unfold fieldAddrE at h
  split at h
  · rename_i fs size bytes zero hti
    obtain ⟨inf, _, _, _, ⟨F, hu, hfs, hne⟩, _⟩ := ok.ty t _ hti
    subst hfs
    cases hf : (F.toList.map fun f => (f.offset, f.type))[f]? with
    | none => rw [hf] at h; simp [HM.runAt] at h
    | some p =>
      obtain ⟨foff, ft⟩ := p
      rw [hf] at h
      dsimp only at h
      rw [List.getElem?_map, Option.map_eq_some_iff] at hf
      obtain ⟨fd, hfd, hp⟩ := hf
      simp only [Prod.mk.injEq] at hp
      obtain ⟨rfl, rfl⟩ := hp
      have hfd' : F[f]? = some fd := by rw [← Array.getElem?_toList]; exact hfd
      have hsz := hne fd (List.mem_of_getElem? hfd)
      have hrun : ∀ a : Addr, (Instr.fieldAt t (.pointer (some a)) f).run P w = .ok (.pointer (some (a.add fd.offset))) w := by
        intro a
        have h1 := run_underlying' (w := w) hu
        have h2 := fieldPlace_ok (w := w) (a := a) hsz
        simp only [Instr.fieldAt, Sem.run_bind, h1, Result.andThen, hfd', Instr.sureAddr, h2, Sem.run_pure]
      cases x with
      | ptr o i =>
        simp only [HM.runAt, Option.some.injEq, Prod.mk.injEq] at h
        obtain ⟨rfl, rfl, rfl⟩ := h
        simp only [RV] at hx
        obtain ⟨a, rfl, h1⟩ := RPtr_add (j := fd.offset) hx
        exact ⟨rfl, rfl, _, hrun a, by simpa only [RV] using h1⟩
      | ep o j i ext =>
        simp only [HM.runAt, Option.some.injEq, Prod.mk.injEq] at h
        obtain ⟨rfl, rfl, rfl⟩ := h
        simp only [RV] at hx
        obtain ⟨a, rfl, h1⟩ := REp_add (j := fd.offset) hx
        exact ⟨rfl, rfl, _, hrun a, by simpa only [RV] using h1⟩
      | fp e i =>
        simp only [HM.runAt, Option.some.injEq, Prod.mk.injEq] at h
        obtain ⟨rfl, rfl, rfl⟩ := h
        obtain ⟨h0, b, off, cs, T, fr, rfl, h1⟩ := RV_fp.1 hx
        exact ⟨rfl, rfl, _, hrun _, RV_fp.2 ⟨h0, b, off, cs, T, fr, by rw [add_none, Nat.add_assoc], h1⟩⟩
      | _ => simp [HM.runAt] at h
  · simp [HM.runAt] at h
end
end Go.V
namespace Go.V
section
variable {P : Program} {env : Env} {w w' : World} {m m' : Emb} {os os' : List Ob}

/-- A part of a value. -/
theorem part_ok (ok : EnvOK P env) {t : TypeId} {cs : List AV} {vs : Array Value} {i : Nat} {a : AV} (hp : cs.all AV.plain = true) (h : RVL w m os cs vs.toList)
    (ha : partAV env t (.agg cs) i = some a) : ∃ x, (part t vs i).run P w = .ok x w ∧ RV w m os a x := by
  unfold partAV at ha
  cases hag : isAggT env t with
  | none => simp [hag] at ha
  | some p =>
    obtain ⟨ag, n⟩ := p
    obtain ⟨h1, h2⟩ := isAgg_ok (w := w) ok hag
    rw [hag] at ha
    cases ag with
    | true =>
      dsimp only at ha
      split at ha
      · simp only [Option.some.injEq] at ha
        subst ha
        refine ⟨.agg (vs.extract i (i + n)), ?_, RV_agg.2 ⟨_, rfl, ?_, ?_⟩⟩
        · simp only [part, Sem.run_bind, h1, h2, Result.andThen, if_true]
          rfl
        · rw [List.all_eq_true] at hp ⊢
          exact fun c hc => hp c (List.mem_of_mem_drop (List.mem_of_mem_take hc))
        · have := RVL_take n (RVL_drop i h)
          rw [Array.toList_extract, List.extract_eq_take_drop, Nat.add_sub_cancel_left]
          exact this
      · simp at ha
    | false =>
      dsimp only at ha
      obtain ⟨x, h3, h4⟩ := RVL_get h ha
      refine ⟨x, ?_, h4⟩
      have h5 : vs[i]? = some x := by rw [← Array.getElem?_toList]; exact h3
      simp only [part, Sem.run_bind, h1, Result.andThen, Bool.false_eq_true, if_false, h5]
      rfl

theorem lenOf_ok {v : AV} {x : Value} {k n n' : Nat} (h : RV w m os v x) (hl : (lenOf v).runAt os n = some (k, os', n')) :
    os' = os ∧ n' = n ∧ ∃ a cap, x = .slice a k cap := by
  cases v with
  | sl es =>
    obtain ⟨_, a, cap, rfl, _⟩ := RV_sl.1 h
    simp only [lenOf, HM.runAt, Option.some.injEq, Prod.mk.injEq] at hl
    obtain ⟨rfl, rfl, rfl⟩ := hl
    exact ⟨rfl, rfl, a, cap, rfl⟩
  | lsl es =>
    obtain ⟨_, a, cap, rfl, _⟩ := RV_lsl.1 h
    simp only [lenOf, HM.runAt, Option.some.injEq, Prod.mk.injEq] at hl
    obtain ⟨rfl, rfl, rfl⟩ := hl
    exact ⟨rfl, rfl, a, cap, rfl⟩
  | nils =>
    obtain ⟨a, rfl⟩ := RV_nils.1 h
    simp only [lenOf, HM.runAt, Option.some.injEq, Prod.mk.injEq] at hl
    obtain ⟨rfl, rfl, rfl⟩ := hl
    exact ⟨rfl, rfl, a, 0, rfl⟩
  | arr o off len ext =>
    simp only [RV] at h
    obtain ⟨_, h⟩ := h
    simp only [lenOf, HM.runAt] at hl
    cases hob : obAt os o with
    | row es s lk =>
      rw [hob] at h hl
      dsimp only at hl
      split at hl
      · rename_i hc
        simp only [HM.runAt, Option.some.injEq, Prod.mk.injEq] at hl
        obtain ⟨rfl, rfl, rfl⟩ := hl
        rcases (h.2 hc.1 (by omega)).facts (by omega) with ⟨b, p, cap, n, _, rfl, _⟩ | ⟨_, _, h0, _, a, rfl⟩
        · exact ⟨rfl, rfl, _, cap, rfl⟩
        · exact ⟨rfl, rfl, a, 0, by rw [h0]⟩
      · simp [HM.runAt] at hl
    | _ => rw [hob] at hl; simp [HM.runAt] at hl
  | _ => simp [lenOf, HM.runAt] at hl
end
end Go.V
namespace Go.V
section
variable {P : Program} {env : Env} {w w' : World} {m m' : Emb} {os os' : List Ob}

/-- An operation on the objects and one of the machine do the same. -/
def Does (P : Program) (env : Env) (w : World) (m : Emb) (os : List Ob) (x : HM AV) (s : Sem Value) : Prop :=
  ∀ n a os' n', x.runAt os n = some (a, os', n') → Fresh os n n' → ∃ m' w' v, s.run P w = .ok v w' ∧ Next env w m os n w' m' os' n' ∧ RV w' m' os' a v
def DoesU (P : Program) (env : Env) (w : World) (m : Emb) (os : List Ob) (x : HM AV) (s : Sem Unit) : Prop :=
  ∀ n a os' n', x.runAt os n = some (a, os', n') → Fresh os n n' → ∃ m' w', s.run P w = .ok () w' ∧ Next env w m os n w' m' os' n' ∧ a = .und

theorem Does.fail {s : Sem Value} : Does P env w m os .fail s := fun _ _ _ _ h => by simp [HM.runAt] at h
theorem DoesU.fail {s : Sem Unit} : DoesU P env w m os .fail s := fun _ _ _ _ h => by simp [HM.runAt] at h
theorem Does.ret {a : AV} {v : Value} {s : Sem Value} (r : ORel env w m os) (hs : s.run P w = .ok v w) (h : RV w m os a v) : Does P env w m os (.ret a) s := by
  intro n b os' n' hr _
  simp only [HM.runAt, Option.some.injEq, Prod.mk.injEq] at hr
  obtain ⟨rfl, rfl, rfl⟩ := hr
  exact ⟨m, w, v, hs, .refl r, h⟩
theorem Does.lift {a : Option AV} {s : Sem Value} (r : ORel env w m os) (h : ∀ b, a = some b → ∃ v, s.run P w = .ok v w ∧ RV w m os b v) : Does P env w m os (HM.lift a) s := by
  cases a with
  | none => exact Does.fail
  | some b => obtain ⟨v, h1, h2⟩ := h b rfl; exact Does.ret r h1 h2
/-- What is read in another way first. -/
theorem Does.ghost {α : Type} {x : HM α} {f : α → HM AV} {s : Sem Value} {Q : Emb → List Ob → α → Prop} (hx : Ghost env w x m os Q)
    (hf : ∀ m1 os1 a, ORel env w m1 os1 → Goes w m os w m1 os1 → Q m1 os1 a → Does P env w m1 os1 (f a) s) : Does P env w m os (x.bind f) s := by
  intro n b os' n' hr hfr
  obtain ⟨a, os1, n1, h1, h2⟩ := runAt_bind.1 hr
  obtain ⟨m1, h3, h4⟩ := hx n a os1 n1 h1 (hfr.mono (runAt_le h2))
  obtain ⟨m2, w2, v, h5, h6, h7⟩ := hf m1 os1 a h3.rel h3.goes h4 n1 b os' n' h2 (h3.fresh hfr)
  exact ⟨m2, w2, v, h5, h3.trans h6, h7⟩
theorem DoesU.ghost {α : Type} {x : HM α} {f : α → HM AV} {s : Sem Unit} {Q : Emb → List Ob → α → Prop} (hx : Ghost env w x m os Q)
    (hf : ∀ m1 os1 a, ORel env w m1 os1 → Goes w m os w m1 os1 → Q m1 os1 a → DoesU P env w m1 os1 (f a) s) : DoesU P env w m os (x.bind f) s := by
  intro n b os' n' hr hfr
  obtain ⟨a, os1, n1, h1, h2⟩ := runAt_bind.1 hr
  obtain ⟨m1, h3, h4⟩ := hx n a os1 n1 h1 (hfr.mono (runAt_le h2))
  obtain ⟨m2, w2, h5, h6, h7⟩ := hf m1 os1 a h3.rel h3.goes h4 n1 b os' n' h2 (h3.fresh hfr)
  exact ⟨m2, w2, h5, h3.trans h6, h7⟩
/-- What only looks. -/
theorem Does.look {x : HM AV} {s : Sem Value} (r : ORel env w m os) (h : ∀ n a os' n', x.runAt os n = some (a, os', n') → os' = os ∧ n' = n ∧ ∃ v, s.run P w = .ok v w ∧ RV w m os a v) : Does P env w m os x s := by
  intro n a os' n' hr _
  obtain ⟨rfl, rfl, v, h1, h2⟩ := h n a os' n' hr
  exact ⟨m, w, v, h1, .refl r, h2⟩

def Emb.clr (m : Emb) (o : Nat) : Emb := { m with blk := fun p => if p = o then none else m.blk p }
/-- A new array without elements: the memory stays. -/
theorem newRow0_ok {size : Nat} (r : ORel env w m os) : Ghost env w (newOb (.row [] size .mine)) m os fun m' os' o => RV w m' os' (.arr o 0 0 0) (.slice none 0 0) ∧ ∀ a, RV w m' os' (.arr o 0 0 0) (.slice a 0 0) := by
  intro n a os' n' h hfr
  simp only [newOb, HM.runAt, Option.some.injEq, Prod.mk.injEq] at h
  obtain ⟨rfl, rfl, rfl⟩ := h
  have hfree := hfr n (Nat.le_refl _) (by omega)
  have hno : ∀ c, m.own c ≠ .mine n := fun c h => by have := (r.mine c n h).2.2; rw [hfree] at this; simp [Ob.lk] at this
  have g : Goes w m os w (m.clr n) (setOb os n (.row [] size .mine)) := by
    refine ⟨⟨Nat.le_refl _, rfl, rfl, rfl, fun c hc _ => ⟨rfl, rfl⟩, fun _ _ h => h⟩, fun p => ?_⟩
    rw [obAt_setOb]
    split
    · rename_i hp; subst hp; rw [hfree]; trivial
    · rename_i hp
      have : (m.clr n).blk p = m.blk p := by simp only [Emb.clr]; rw [if_neg hp]
      rw [this]; exact .refl _ _ _
  refine ⟨m.clr n, ⟨r.set g (.inl ⟨rfl, by simp [Emb.clr]⟩) (fun p hp => ⟨by simp only [Emb.clr]; rw [if_neg hp], fun c h => ⟨rfl, h⟩⟩) (fun c p h => ?_) (fun c h => r.frozen c h), g, Nat.le_succ _, fun p hp hf => ?_⟩, ?_⟩
  · exact .inl ⟨fun hp => hno c (hp ▸ h), h⟩
  · rw [obAt_setOb, if_neg (by omega)]; exact hf
  · have key : ∀ a, RV w (m.clr n) (setOb os n (.row [] size .mine)) (.arr n 0 0 0) (.slice a 0 0) := by
      intro a
      simp only [RV]
      refine ⟨⟨a, 0, 0, rfl⟩, ?_⟩
      rw [obAt_setOb, if_pos rfl]
      exact ⟨Nat.le_refl _, fun _ _ => .inr ⟨by simp [Emb.clr], rfl, a, rfl⟩⟩
    exact ⟨key none, key⟩

theorem updAV_plain {e : AV} (h : e.plain = true) (i : Nat) (c : AV) : updAV e i [c] = c := by cases e <;> first | rfl | simp [AV.plain] at h
theorem updAV_cells {l : List Value} {e : AV} {i : Nat} {c : AV} (h : RVC w m os e l) (hi : i < e.cells.length) (hc : c.plain = true) : (updAV e i [c]).cells.length = e.cells.length := by
  rcases RVC_cases h with ⟨cs, rfl⟩ | hp
  · simp only [updAV, AV.cells] at hi ⊢
    simp only [List.length_append, List.length_take, List.length_cons, List.length_nil, List.length_drop]; omega
  · rw [updAV_plain hp]
    have h1 : e.cells.length = 1 := by cases e <;> first | rfl | simp [AV.plain] at hp
    have h2 : c.cells.length = 1 := by cases c <;> first | rfl | simp [AV.plain] at hc
    omega

/-- Slices without an array become empty arrays. -/
theorem matCells_ok {l : List Value} : ∀ {ps : List (Nat × Nat)} {e : AV} {m : Emb} {os : List Ob}, ORel env w m os → RVC w m os e l →
    Ghost env w (matCells ps e) m os fun m' os' a => RVC w m' os' a l ∧ a.cells.length = e.cells.length
  | [], e, _, _, r, h => .ret r ⟨h, rfl⟩
  | (i, size) :: ps, e, m, os, r, h => by
    unfold matCells
    split
    · rename_i hi
      refine (newRow0_ok r).bind fun m1 os1 o r1 g1 ⟨_, h2⟩ => ?_
      have hlt : i < e.cells.length := (List.getElem?_eq_some_iff.1 hi).1
      have h1 := h.go g1 r
      obtain ⟨hc, _⟩ := RVC_cells h1
      obtain ⟨x, hx1, hx2⟩ := RVL_get hc hi
      obtain ⟨a, rfl⟩ := RV_nils.1 hx2
      have hll := RVC_length h1
      have hu := RVC_upd (i := i) h1 (xs := [.arr o 0 0 0]) (vs := [.slice a 0 0]) (RVL_cons.2 ⟨_, [], rfl, h2 a, by rw [RVL]⟩) rfl (by simp only [List.length_cons, List.length_nil]; omega)
      have hle : l.take i ++ [.slice a 0 0] ++ l.drop (i + [Value.slice a 0 0].length) = l := by
        obtain ⟨hlt', hx⟩ := List.getElem?_eq_some_iff.1 hx1
        rw [List.length_singleton, ← hx, List.append_assoc, List.singleton_append, List.getElem_cons_drop, List.take_append_drop]
      rw [hle] at hu
      refine (matCells_ok r1 hu).mono fun m2 os2 a2 _ _ ⟨h3, h4⟩ => ⟨h3, ?_⟩
      rw [h4, updAV_cells h1 hlt rfl]
    · exact matCells_ok r h

/-- A variable that is new. -/
theorem newVar_ok {t : TypeId} {e : AV} {x : Value} {size : Nat} (r : ORel env w m os) (h : RVC w m os e x.cells.toList) (hs : e.cells.length = size) :
    Does P env w m os ((newOb (.var e size .mine)).bind fun o => .ret (.ptr o 0)) (do pure (.pointer (some (← newVar t x)))) := by
  intro n a os' n' hr hfr
  simp only [newOb, HM.bind, HM.runAt, Option.some.injEq, Prod.mk.injEq] at hr
  obtain ⟨rfl, rfl, rfl⟩ := hr
  have hl := RVC_length h
  have nx := new_own (ob := .var e size .mine) (x := .cells x.cells t (0, 0)) r (hfr n (Nat.le_refl _) (by omega)) rfl (fun g => by
    refine ⟨w.heap.size, x.cells, t, (0, 0), by simp [Emb.put], pushed_new, rfl, ?_, h.go g r, by simp [Owns, Emb.put]⟩
    rw [← Array.length_toList, hl, hs])
  refine ⟨_, _, .pointer (some ⟨w.heap.size, 0, none⟩), ?_, nx, ?_⟩
  · simp only [newVar, newRow, Sem.run_bind, run_newObj, Result.andThen, Sem.run_pure]
    rfl
  · simp only [RV]
    refine ⟨⟨_, rfl⟩, ?_⟩
    rw [obAt_setOb, if_pos rfl]
    exact ⟨w.heap.size, by simp [Emb.put], rfl⟩

theorem ofConst_RV {v : Value} (h : ofConst v ≠ .gone) : RV w m os (ofConst v) v ∧ (ofConst v).plain = true := by
  unfold ofConst at h ⊢
  split <;> first
    | (refine ⟨?_, rfl⟩; simp only [RV]; done)
    | (refine ⟨?_, rfl⟩; simp only [RV]; exact ⟨none, rfl⟩)
    | (exfalso; apply h; split <;> simp_all)
theorem zero_RVC {z : AV} {v : Value} (h : zeroRel z v) : RVC w m os z v.cells.toList := by
  cases z with
  | agg cs =>
    obtain ⟨vs, rfl, rfl, h2⟩ := h
    show RVC w m os _ vs.toList
    generalize vs.toList = l at h2 ⊢
    induction l with
    | nil => exact RVC_agg.2 ⟨rfl, by rw [List.map_nil, RVL]⟩
    | cons x l ih =>
      obtain ⟨h3, h4⟩ := RVC_agg.1 (ih fun y hy => h2 y (by simp [hy]))
      obtain ⟨h5, h6⟩ := ofConst_RV (w := w) (m := m) (os := os) (h2 x (by simp))
      exact RVC_agg.2 ⟨by simp [h6, h3], RVL_cons.2 ⟨x, l, rfl, h5, h4⟩⟩
  | _ =>
    obtain ⟨h1, h2⟩ := h
    have h3 := ofConst_RV (w := w) (m := m) (os := os) (v := v) (by rw [← h1]; exact h2)
    rw [← h1] at h3
    obtain ⟨h4, h5⟩ := h3
    rw [cells_plain (RV_plain h5 h4)]
    exact (RVC_plain h5).2 ⟨v, rfl, h4⟩

theorem allocE_ok (ok : EnvOK P env) (r : ORel env w m os) {mat : TypeId → List (Nat × Nat)} {t : TypeId} : Does P env w m os (allocE env mat t) (Instr.alloc t true (.tuple #[])) := by
  unfold allocE
  split
  · rename_i d size bytes z hti
    obtain ⟨inf, h1, h2, h3, h4, h5⟩ := ok.ty t _ hti
    obtain ⟨v, h6, h7⟩ := h5 z rfl
    split
    · rename_i hz
      refine Does.ghost (matCells_ok r (zero_RVC h7)) fun m1 os1 a r1 g1 ⟨h8, h9⟩ => ?_
      have hs : (Instr.alloc t true (.tuple #[])).run P w = (do pure (.pointer (some (← newVar t v))) : Sem Value).run P w := by
        simp [Instr.alloc, zeroValue, typeInfo, h1, h6]
      intro n a os' n' hr hfr
      rw [hs]
      exact newVar_ok r1 h8 (h9.trans hz) n a os' n' hr hfr
    · exact Does.fail
  · exact Does.fail
theorem boxE_ok (r : ORel env w m os) {mat : TypeId → List (Nat × Nat)} {t : TypeId} {x : AV} {v : Value} (hx : RV w m os x v) : Does P env w m os (boxE env mat t x) (Instr.box t v) := by
  unfold boxE
  split
  · rename_i size hti
    split
    · rename_i hz
      exact Does.ghost (matCells_ok r (RVC_of_RV (storable_plain hz.2) hx)) fun m1 os1 a r1 g1 ⟨h8, h9⟩ => newVar_ok r1 h8 (h9.trans hz.1)
    · exact Does.fail
  · exact Does.fail
theorem assignE_ok (r : ORel env w m os) {t : TypeId} {x : AV} {v : Value} (hx : RV w m os x v) : Does P env w m os (assignE env t x) (pure v) := by
  unfold assignE
  split
  · obtain ⟨a, rfl⟩ := RV_nils.1 hx
    split
    · exact Does.ghost (newRow0_ok r) fun m1 os1 o r1 g1 ⟨_, h2⟩ => Does.ret r1 rfl (h2 a)
    · exact Does.ret r rfl hx
  · exact Does.ret r rfl hx
end
end Go.V
namespace Go.V
section
variable {P : Program} {env : Env} {w w' : World} {m m' : Emb} {os os' : List Ob}

theorem Next.drew (r : ORel env w m os) {n : Nat} : Next env w m os n w.drew m os n := by
  have g : Goes w m os w.drew m os := by
    refine ⟨⟨Nat.le_refl _, rfl, rfl, rfl, fun _ _ _ => ⟨rfl, rfl⟩, fun _ _ h => h⟩, fun p => ?_⟩
    have h := ObGo.refl w (m.blk p) (obAt os p)
    revert h
    cases obAt os p <;> exact fun h => h
  refine ⟨⟨fun o => (r.obs o).go g r rfl fun b h => ⟨rfl, h⟩, r.mine, r.frozen, fun x e h => ?_⟩, g, Nat.le_refl _, fun _ _ h => h⟩
  obtain ⟨h0, h1, cs, T, fr, h2, h3⟩ := r.glob x e h
  exact ⟨h0, h1, cs, T, fr, h2, h3.go g r⟩

/-- A new array. -/
theorem newRow_ok {es : List AV} {size cap : Nat} {cells : Array Value} {T : TypeId} {s : Sem Value} (r : ORel env w m os) {w0 : World} (hw : w0 = w ∨ w0 = w.drew) (h : RVE w m os size es cells.toList)
    (hs : s.run P w = .ok (.slice (some ⟨w0.heap.size, 0, none⟩) es.length cap) (World.pushed w0 (.cells cells T (0, 0)))) (hcap : cap * size ≤ cells.size) (hlen : es.length ≤ cap) :
    Does P env w m os ((newOb (.row es size .mine)).bind fun o => .ret (.arr o 0 es.length es.length)) s := by
  have key : ∀ w0, (∃ n', Next env w m os n' w0 m os n') → s.run P w = .ok (.slice (some ⟨w0.heap.size, 0, none⟩) es.length cap) (World.pushed w0 (.cells cells T (0, 0))) → Does P env w m os ((newOb (.row es size .mine)).bind fun o => .ret (.arr o 0 es.length es.length)) s := by
    intro w0 ⟨_, nx0⟩ hs n a os' n' hr hfr
    simp only [newOb, HM.bind, HM.runAt, Option.some.injEq, Prod.mk.injEq] at hr
    obtain ⟨rfl, rfl, rfl⟩ := hr
    have h0 := h.go nx0.goes r
    have nx := new_own (ob := .row es size .mine) (x := .cells cells T (0, 0)) nx0.rel (hfr n (Nat.le_refl _) (by omega)) rfl (fun g => by
      exact .inr ⟨w0.heap.size, cells, T, (0, 0), by simp [Emb.put], pushed_new, rfl, h0.go g nx0.rel, by simp [Owns, Emb.put]⟩)
    refine ⟨_, _, _, hs, Next.trans (n1 := n) ⟨nx0.rel, nx0.goes, Nat.le_refl _, fun _ _ h => h⟩ nx, ?_⟩
    simp only [RV]
    refine ⟨⟨_, _, _, rfl⟩, ?_⟩
    rw [obAt_setOb, if_pos rfl]
    refine ⟨Nat.le_refl _, fun _ _ => .inl ⟨w0.heap.size, 0, cap, cells.size, by simp [Emb.put], rfl, fun _ => (Nat.zero_mul _).symm, ?_, by simpa using hcap, by simpa using hlen, hlen⟩⟩
    simp only [cellsN]
    rw [pushed_new]
  rcases hw with rfl | rfl
  · exact key _ ⟨0, .refl r⟩ hs
  · exact key _ ⟨0, .drew r⟩ hs

theorem range_mul (f : Nat → Value) (s : Nat) : ∀ c : Nat, (∀ k j, j < s → f (k * s + j) = f j) → (List.range (c * s)).map f = (List.replicate c ((List.range s).map f)).flatten
  | 0, _ => by simp
  | c + 1, h => by
    rw [Nat.succ_mul, List.range_add, List.map_append, range_mul f s c h, List.replicate_succ', List.flatten_append, List.map_map]
    congr 1
    simp only [List.flatten_cons, List.flatten_nil, List.append_nil]
    apply List.map_congr_left
    intro j hj
    exact h c j (List.mem_range.1 hj)
theorem map_get (Z : Array Value) : (List.range Z.size).map (fun i => Z[i % Z.size]!) = Z.toList := by
  apply List.ext_getElem
  · simp
  · intro i h1 h2
    have hi : i < Z.size := by simpa using h2
    simp [Nat.mod_eq_of_lt hi, hi]
theorem madeCells_flat (Z : Array Value) (c : Nat) : (madeCells Z (c * Z.size)).toList = (List.replicate c Z.toList).flatten := by
  unfold madeCells
  rw [Array.toList_map, Array.toList_range]
  rw [range_mul (fun i => Z[i % Z.size]!) Z.size c, map_get]
  intro k j hj
  rw [Nat.add_comm, Nat.add_mul_mod_self_right]
theorem RVE_zeros {z : AV} {l : List Value} (h : RVC w m os z l) : ∀ (n c : Nat), n ≤ c → RVE w m os l.length (List.replicate n z) (List.replicate c l).flatten
  | 0, _, _ => by rw [List.replicate_zero]; exact RVE_nil
  | n + 1, 0, hn => by omega
  | n + 1, c + 1, hn => by
    rw [List.replicate_succ, List.replicate_succ, List.flatten_cons]
    exact RVE_cons.2 ⟨l, _, rfl, rfl, h, RVE_zeros h n c (by omega)⟩

theorem asNat_ok {x : AV} {v : Value} {n : Nat} (hx : RV w m os x v) (h : asNat x = some n) : ∃ k, v = .int k (n : Int) := by
  cases x with
  | int k i =>
    simp only [RV] at hx
    subst hx
    simp only [asNat] at h
    split at h
    · simp only [Option.some.injEq] at h
      exact ⟨k, by rw [← h, Int.toNat_of_nonneg ‹_›]⟩
    · simp at h
  | _ => simp [asNat] at h
theorem esize_ok (ok : EnvOK P env) {t e : TypeId} {size : Nat} (h : esize env t = some (e, size)) : P.underlying t = some (.slice e) ∧ ∃ ei, env.ty e = some ei ∧ ei.size = size := by
  unfold esize at h
  split at h
  · rename_i e' s b z hti
    simp only [Option.map_eq_some_iff, Prod.mk.injEq] at h
    obtain ⟨ei, h1, rfl, h2⟩ := h
    obtain ⟨_, _, _, _, h3, _⟩ := ok.ty t _ hti
    exact ⟨h3, ei, h1, h2⟩
  · simp at h

theorem makeSliceE_ok (ok : EnvOK P env) (r : ORel env w m os) {t : TypeId} {l c : AV} {lv cv : Value} (hl : RV w m os l lv) (hc : RV w m os c cv) :
    Does P env w m os (makeSliceE env t l c) (Instr.makeSlice t lv cv) := by
  unfold makeSliceE
  split
  · rename_i e size hes
    obtain ⟨hu, ei, h1, h2⟩ := esize_ok ok hes
    rw [h1]
    dsimp only
    split
    · rename_i z n k hz hn hk
      split
      · rename_i hcond
        obtain ⟨hnk, hroom, hzs⟩ := hcond
        obtain ⟨inf, g1, g2, g3, _, g5⟩ := ok.ty e _ h1
        obtain ⟨zv, g6, g7⟩ := g5 z hz
        obtain ⟨k1, rfl⟩ := asNat_ok hl hn
        obtain ⟨k2, rfl⟩ := asNat_ok hc hk
        simp only [roomOK, Bool.and_eq_true, decide_eq_true_eq] at hroom
        have hzc := zero_RVC (w := w) (m := m) (os := os) g7
        have hzl : zv.cells.size = size := by rw [← Array.length_toList, RVC_length hzc, hzs]
        have hrun := run_make (P := P) w t e inf zv hu g1 g6 k1 k2 n k (by omega) (by omega) (by
          have : (inf.bytes : Int) * (k : Int) = ((k * ei.bytes : Nat) : Int) := by rw [g3, Nat.mul_comm]; simp
          rw [this]; omega) (by omega)
        simp only [Int.toNat_natCast] at hrun
        have hsz : inf.size = zv.cells.size := by rw [hzl, ← h2]; exact g2
        have hlen : (List.replicate n z).length = n := List.length_replicate
        have := newRow_ok (P := P) (T := e) (cap := k) (cells := madeCells zv.cells (k * inf.size)) (es := List.replicate n z) (size := size) (s := Instr.makeSlice t (.int k1 n) (.int k2 k)) r (.inl rfl)
          (by rw [hsz, madeCells_flat, ← hzl, ← Array.length_toList]; exact RVE_zeros hzc n k hnk) (by rw [hlen]; exact hrun) (by rw [size_madeCells, hsz, hzl]; exact Nat.le_refl _) (by rw [hlen]; exact hnk)
        rw [hlen] at this
        exact this
      · exact Does.fail
    · exact Does.fail
  · exact Does.fail

theorem fold_set (off : Nat) : ∀ (vs : List Value) (k : Nat) (cs : Array Value), off + k + vs.length ≤ cs.size →
    ((vs.zipIdx k).foldl (fun cs (x : Value × Nat) => cs.setIfInBounds (off + x.2) x.1) cs).toList = cs.toList.take (off + k) ++ vs ++ cs.toList.drop (off + k + vs.length)
  | [], k, cs, _ => by simp
  | v :: vs, k, cs, h => by
    simp only [List.length_cons] at h
    rw [List.zipIdx_cons, List.foldl_cons, fold_set off vs (k + 1) _ (by simp only [Array.size_setIfInBounds]; omega)]
    have hl : cs.toList.length = cs.size := Array.length_toList
    simp only [Array.toList_setIfInBounds]
    rw [List.take_set, List.drop_set_of_lt (by omega)]
    have e1 : off + (k + 1) = off + k + 1 := by omega
    have e2 : off + k + 1 + vs.length = off + k + (v :: vs).length := by simp only [List.length_cons]; omega
    rw [e1, e2, List.set_eq_take_append_cons_drop, if_pos (by rw [List.length_take]; omega)]
    have e3 : (cs.toList.take (off + k + 1)).drop (off + k + 1) = [] := by rw [List.drop_eq_nil_iff, List.length_take]; omega
    rw [e3, List.take_take, Nat.min_eq_left (by omega)]
    simp
theorem foldA_set (off : Nat) (vs cs : Array Value) (h : off + vs.size ≤ cs.size) :
    (vs.zipIdx.foldl (fun cs (x : Value × Nat) => cs.setIfInBounds (off + x.2) x.1) cs).toList = cs.toList.take off ++ vs.toList ++ cs.toList.drop (off + vs.size) := by
  rw [← Array.foldl_toList, Array.toList_zipIdx, fold_set off vs.toList 0 cs (by simpa using h)]
  simp
theorem RVE_set {size : Nat} {v : AV} {vs : List Value} (hv : RVC w m os v vs) (hl : vs.length = size) : ∀ {j : Nat} {es : List AV} {l : List Value}, RVE w m os size es l → j < es.length →
    RVE w m os size (es.set j v) (l.take (j * size) ++ vs ++ l.drop (j * size + size)) ∧ j * size + size ≤ l.length
  | _, [], _, _, hj => by simp at hj
  | 0, _ :: _, _, h, _ => by
    obtain ⟨us, rest, h1, h2, h3, h4⟩ := RVE_cons.1 h
    subst h1
    rw [List.set_cons_zero, Nat.zero_mul, List.take_zero, List.nil_append, Nat.zero_add, ← h2, List.drop_left]
    exact ⟨RVE_cons.2 ⟨vs, rest, rfl, hl.trans h2.symm, hv, by rw [h2]; exact h4⟩, by simp⟩
  | j + 1, _ :: _, _, h, hj => by
    obtain ⟨us, rest, h1, h2, h3, h4⟩ := RVE_cons.1 h
    subst h1
    obtain ⟨h5, h6⟩ := RVE_set hv hl h4 (j := j) (by simpa using hj)
    rw [List.set_cons_succ]
    have e1 : (j + 1) * size = us.length + j * size := by rw [Nat.succ_mul]; omega
    have e2 : (j + 1) * size + size = us.length + (j * size + size) := by rw [Nat.succ_mul]; omega
    rw [e2, e1, List.take_length_add_append, List.drop_length_add_append]
    refine ⟨RVE_cons.2 ⟨us, _, ?_, h2, h3, h5⟩, by rw [List.length_append]; omega⟩
    simp only [List.append_assoc]

/-- Parts: their places and their values. -/
theorem fillE_ok {size : Nat} : ∀ {is : List Nat} {as : List AV} {vs : List Value} {es : List AV} {cells : Array Value}, RVL w m os as vs → RVE w m os size es cells.toList →
    fitsL size as = true → (∀ i ∈ is, i < es.length) → is.length = as.length →
    ∃ cells', Instr.fill (fun i => some (i * size, size)) cells (is.zip vs) = some cells' ∧ RVE w m os size (setMany es is as) cells'.toList ∧ cells'.size = cells.size
  | [], [], vs, es, cells, hv, he, _, _, _ => by
    rw [RVL] at hv; subst hv
    exact ⟨cells, rfl, he, rfl⟩
  | i :: is, a :: as, _, es, cells, hv, he, hf, hi, hl => by
    obtain ⟨v, t, rfl, h2, h3⟩ := RVL_cons.1 hv
    simp only [fitsL, List.all_cons, Bool.and_eq_true, beq_iff_eq] at hf
    obtain ⟨⟨hf1, hf2⟩, hf3⟩ := hf
    have hc := RVC_of_RV (storable_plain hf2) h2
    have hvl := RVC_length hc
    rw [hf1, Array.length_toList] at hvl
    obtain ⟨h4, h5⟩ := RVE_set hc (by rw [Array.length_toList]; exact hvl) he (hi i (by simp))
    rw [Array.length_toList] at h5
    have hset := foldA_set (i * size) v.cells cells (by rw [hvl]; exact h5)
    rw [hvl] at hset
    obtain ⟨c', h6, h7, h8⟩ := fillE_ok (size := size) (is := is) (as := as) (vs := t) (es := es.set i a) (cells := v.cells.zipIdx.foldl (fun cs (x : Value × Nat) => cs.setIfInBounds (i * size + x.2) x.1) cells) h3
      (by rw [hset]; exact h4) hf3 (fun k hk => by rw [List.length_set]; exact hi k (by simp [hk])) (by simpa using hl)
    refine ⟨c', ?_, h7, ?_⟩
    · rw [List.zip_cons_cons, Instr.fill]
      simp only [hvl, ne_eq, not_true, decide_false, Bool.false_or]
      rw [if_neg (by simp; omega)]
      exact h6
    · rw [h8, ← Array.length_toList, hset]
      have : cells.toList.length = cells.size := Array.length_toList
      have : v.cells.toList.length = v.cells.size := Array.length_toList
      simp only [List.length_append, List.length_take, List.length_drop]; omega
  | [], _ :: _, _, _, _, _, _, _, _, hl => by simp at hl
  | _ :: _, [], _, _, _, _, _, _, _, hl => by simp at hl

theorem putEs_ok {nest : Bool} : ∀ {as : List AV} {vs : List Value} {m : Emb} {os : List Ob}, ORel env w m os → RVL w m os as vs →
    Ghost env w (putEs nest as) m os fun m' os' bs => RVL w m' os' bs vs
  | [], vs, _, _, r, h => .ret r h
  | a :: as, vs, m, os, r, h => by
    obtain ⟨v, t, h1, h2, h3⟩ := RVL_cons.1 h
    refine (putE_ok r h2).bind fun m1 os1 b r1 g1 ⟨h4, _⟩ => ?_
    refine (putEs_ok r1 (h3.go g1 r)).bind fun m2 os2 bs r2 g2 h6 => ?_
    exact .ret r2 (RVL_cons.2 ⟨v, t, h1, RV.go g2 r1 _ h4, h6⟩)

theorem setMany_length : ∀ (is : List Nat) (vs es : List AV), (setMany es is vs).length = es.length
  | [], _, _ => by unfold setMany; rfl
  | _ :: _, [], _ => by unfold setMany; rfl
  | i :: is, v :: vs, es => by rw [setMany, setMany_length is vs]; simp
theorem buildSliceE_ok (ok : EnvOK P env) (r : ORel env w m os) {nest : Bool} {t : TypeId} {len : Nat} {parts : List (Nat × AV)} {pv : Array (Nat × Value)}
    (hk : pv.toList.map (·.1) = parts.map (·.1)) (hv : RVL w m os (parts.map (·.2)) (pv.toList.map (·.2))) :
    Does P env w m os (buildSliceE env nest t len parts) (Instr.buildSlice t len pv) := by
  unfold buildSliceE
  split
  · rename_i e size hes
    obtain ⟨hu, ei, h1, h2⟩ := esize_ok ok hes
    rw [h1, Option.bind_some]
    split
    · rename_i z hz
      refine Does.ghost (putEs_ok r hv) fun m1 os1 vs r1 g1 hvs => ?_
      split
      · rename_i hcond
        simp only [Bool.and_eq_true, beq_iff_eq, decide_eq_true_eq, List.all_eq_true] at hcond
        obtain ⟨⟨⟨hi, hf⟩, hb⟩, hzs⟩ := hcond
        obtain ⟨inf, g1', g2, g3, _, g5⟩ := ok.ty e _ h1
        obtain ⟨zv, g6, g7⟩ := g5 z hz
        have hzc := zero_RVC (w := w) (m := m1) (os := os1) g7
        have hzl : zv.cells.size = size := by rw [← Array.length_toList, RVC_length hzc, hzs]
        have hsz : inf.size = size := g2.trans h2
        have he : RVE w m1 os1 size (List.replicate len z) (madeCells zv.cells (len * size)).toList := by
          rw [← hzl, madeCells_flat, ← Array.length_toList]; exact RVE_zeros hzc len len (Nat.le_refl _)
        have hlv : vs.length = pv.toList.length := by have := RVL_length hvs; rw [List.length_map] at this; exact this.symm
        have hlp : parts.length = pv.toList.length := by have := congrArg List.length hk; simp only [List.length_map] at this; exact this.symm
        obtain ⟨cells, c1, c2, c3⟩ := fillE_ok (is := parts.map (·.1)) hvs he hf (fun i hi' => by
          rw [List.length_replicate]
          obtain ⟨p, hp, rfl⟩ := List.mem_map.1 hi'
          exact hi p hp) (by rw [List.length_map]; omega)
        have hzip : (parts.map (·.1)).zip (pv.toList.map (·.2)) = pv.toList := by
          rw [← hk, List.zip_map']; simp
        rw [hzip] at c1
        have hrun : (Instr.buildSlice t len pv).run P w = .ok (.slice (some ⟨w.heap.size, 0, none⟩) len len) (World.pushed w (.cells cells e (0, 0))) := by
          have n1 : ¬ (2 ^ 24 < len * inf.size) := by rw [hsz]; omega
          by_cases hn : len * inf.size = 0
          · have hn' : len * size = 0 := by rw [← hsz]; exact hn
            have hcz : cells = #[] := by
              apply Array.eq_empty_of_size_eq_zero
              rw [c3, size_madeCells, hn']
            have c1' : Instr.fill (fun i => some (i * size, size)) #[] pv.toList = some cells := by
              have : madeCells zv.cells (len * size) = #[] := by rw [hn']; simp [madeCells]
              rw [this] at c1; exact c1
            simp [Instr.buildSlice, run_underlying hu, sizeOf, typeInfo, g1', newRow, hsz]
            rw [if_neg (by omega), if_pos hn', hn']
            have c2' : Instr.fill (fun i => some (i * size, size)) (Array.map (fun _ => default) (Array.range 0)) pv.toList = some cells := by rw [show Array.map (fun _ => (default : Value)) (Array.range 0) = #[] from by simp]; exact c1'
            rw [c2']
            rfl
          · have c1' : Instr.fill (fun i => some (i * size, size)) ((Array.range (len * size)).map (zv.cells[· % zv.cells.size]!)) pv.toList = some cells := c1
            have hn' : ¬ len * size = 0 := by rw [← hsz]; exact hn
            simp [Instr.buildSlice, run_underlying hu, sizeOf, typeInfo, g1', zeroValue, g6, newRow, hsz]
            rw [if_neg (by omega), if_neg hn', c1']
            rfl
        have hlen : (setMany (List.replicate len z) (parts.map (·.1)) vs).length = len := by rw [setMany_length, List.length_replicate]
        have := newRow_ok (P := P) (T := e) (cap := len) (cells := cells) (es := setMany (List.replicate len z) (parts.map (·.1)) vs) (size := size) (s := Instr.buildSlice t len pv) r1 (.inl rfl) c2 (by rw [hlen]; exact hrun)
          (by rw [c3, size_madeCells]; exact Nat.le_refl _) (by rw [hlen]; exact Nat.le_refl _)
        rw [hlen] at this
        exact this
      · exact Does.fail
    · exact Does.fail
  · exact Does.fail
end
end Go.V
