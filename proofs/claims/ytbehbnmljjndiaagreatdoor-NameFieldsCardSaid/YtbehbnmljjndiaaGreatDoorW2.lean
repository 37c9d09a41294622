/-
  What a walk asks for: rules by which simp walks through code.
-/
import Derived.Test.YtbehbnmljjndiaaGreatDoorW1
import Derived.IntWalk
set_option linter.unusedVariables false
set_option linter.unusedSimpArgs false
namespace Go.V
/-! ### What a walk asks for -/
theorem nd {α : Sort _} {a b : α} (h : a = b) : a = b := h
/-- So that simp leaves alone what is held. -/
abbrev Hold {α : Type} (_ : α) : Type := Unit
abbrev TM := List (Nat × AV)

theorem runAt_bind_s {α β : Type} {x : HM α} {g : α → HM β} {os os1 : List Ob} {n n1 : Nat} {a : α} (h : x.runAt os n = some (a, os1, n1)) : (x.bind g).runAt os n = (g a).runAt os1 n1 := by
  cases hr : (g a).runAt os1 n1 with
  | none =>
    cases hq : (x.bind g).runAt os n with
    | none => rfl
    | some q =>
      obtain ⟨b, os2, n2⟩ := q
      obtain ⟨a', os', n', h1, h2⟩ := runAt_bind.1 hq
      rw [h] at h1; injection h1 with h1
      simp only [Prod.mk.injEq] at h1; obtain ⟨rfl, rfl, rfl⟩ := h1
      rw [hr] at h2; simp at h2
  | some q => obtain ⟨b, os2, n2⟩ := q; exact runAt_bind.2 ⟨_, _, _, h, hr⟩
theorem keep_runAt {os : List Ob} : ∀ (l : List Nat) (n : Nat), (gather1 l).runAt os n = some (l.flatMap fun o => (obAt os o).refs, os, n)
  | [], _ => rfl
  | o :: r, n => by
    show ((getOb o).bind fun b => (gather1 r).bind fun l => HM.ret (b.refs ++ l)).runAt os n = _
    simp only [getOb, HM.bind, HM.runAt]
    have h : ∀ (x : HM (List Nat)) (g : List Nat → List Nat) {a : List Nat}, x.runAt os n = some (a, os, n) → (x.bind fun l => HM.ret (g l)).runAt os n = some (g a, os, n) := by
      intro x g a hx
      rw [runAt_bind_s hx]
      rfl
    rw [h _ (fun l => (obAt os o).refs ++ l) (keep_runAt r n)]
    rfl
def keepP (os : List Ob) : Nat → List Nat → List Nat
  | 0, acc => acc
  | n + 1, acc => if (dedup (acc.flatMap fun o => (obAt os o).refs) acc).length = acc.length then acc else keepP os n (dedup (acc.flatMap fun o => (obAt os o).refs) acc)
theorem gather_runAt {os : List Ob} : ∀ (n : Nat) (acc : List Nat) (m : Nat), (gather n acc).runAt os m = some (keepP os n acc, os, m)
  | 0, _, _ => rfl
  | n + 1, acc, m => by
    show ((gather1 acc).bind fun l => match dedup l acc with | acc' => if acc'.length = acc.length then HM.ret acc else gather n acc').runAt os m = _
    rw [runAt_bind_s (keep_runAt acc m)]
    dsimp only
    rw [keepP]
    split
    · rfl
    · exact gather_runAt n _ m
theorem gather_keep {os : List Ob} (n : Nat) (acc : List Nat) : (gather n acc).run os = some (keepP os n acc, os) := by
  unfold HM.run; rw [gather_runAt]

/-- The steps of an operation. -/
def WF {α : Type} (m : HM α) (os : List Ob) (n : Nat) (Q : α → List Ob → Nat → List Nat → List Nat → Prop) (_ : Hold (os, n, Q)) : Prop :=
  ∃ r, m.runF os n = some r ∧ Q r.1 r.2.1 r.2.2.1 r.2.2.2.1 r.2.2.2.2
def consO (d : Option Tmp) (v : AV) (tm : TM) : TM := match d with | some d => (d, v) :: tm | none => tm
theorem consO_teq (d : Option Tmp) (v : AV) (tm : TM) : TEq (putT tm d v) (consO d v tm) := by
  cases d with
  | none => exact .refl _
  | some d => exact .cons _ _ _
/-- A guard. -/
def WG (x : AV) (w : Bool) (run skp : Prop) (_ : Hold (w, run, skp)) : Prop :=
  match x with
  | .bool b => if b = w then run else skp
  | .und => skp
  | _ => False
def WGd (ds : List (Option Tmp)) (tm : TM) (g : Option (Nat × Bool)) (run skp : Prop) (_ : Hold (tm, run, skp)) : Prop :=
  match g with
  | none => run
  | some (j, w) => match (ds[j]?).join with
    | some d => WG (getT tm d) w run skp ()
    | none => skp
def wOps (env : Env) (f : FuncId) (ds : List (Option Tmp)) : List Oper → TM → List Ob → (TM → List Ob → List (List Nat × List Nat) → Prop) → Prop
  | [], tm, os, Q => Q tm os []
  | o :: l, tm, os, Q => WGd ds tm o.guard
      (WF (opL env f o.op o.type (evalT env tm)) os os.length (fun v os' _ ft wr => wOps env f ds l (consO o.dst v tm) os' fun tm' os'' feet => Q tm' os'' ((ft, wr) :: feet)) ())
      (wOps env f ds l (consO o.dst .und tm) os fun tm' os'' feet => Q tm' os'' (([], []) :: feet)) ()
/-- operations -/
def WO (env : Env) (f : FuncId) (ds : List (Option Tmp)) (l : List Oper) (tm : TM) (os : List Ob) (Q : TM → List Ob → List (List Nat × List Nat) → Prop) (_ : Hold (env, f, ds, l, tm, os, Q)) : Prop := wOps env f ds l tm os Q
/-- a test -/
def WC (x : AV) (t e : Prop) (_ : Hold (t, e)) : Prop :=
  match x with
  | .bool b => if b then t else e
  | _ => False
/-- only some slots are kept -/
def WN (lv : Option (List Nat)) (k : Nat) (tm : TM) (os : List Ob) (K : TM → List Ob → Prop) (_ : Hold (k, tm, os, K)) : Prop :=
  ∃ fr, normO k lv ⟨tm, os⟩ = some fr ∧ K fr.tmps fr.objs
/-- operations whose order is open do not meet -/
def Chk (l : List Oper) (feet : List (List Nat × List Nat)) (_ : Hold (l, feet)) : Prop := indep (unord l) feet = true
def WLoop (env : Env) (f : FuncId) (k : Nat) (lv : Option (List Nat)) (b : Code) (tm : TM) (os : List Ob) (Q : Out → TM → List Ob → Prop) (_ : Hold (env, f, k, lv, b, tm, os, Q)) : Prop :=
  ∃ r, evL env f k lv (.loop b) ⟨tm, os⟩ = some r ∧ ∃ tm', TEq r.2.tmps tm' ∧ Q r.1 tm' r.2.objs
def WRange (env : Env) (f : FuncId) (k : Nat) (g : Operand) (ps : Array Tmp) (a b : Code) (tm : TM) (os : List Ob) (Q : Out → TM → List Ob → Prop) (_ : Hold (env, f, k, g, ps, a, b, tm, os, Q)) : Prop :=
  ∃ r, evL env f k none (.rangeFunc g ps a b) ⟨tm, os⟩ = some r ∧ ∃ tm', TEq r.2.tmps tm' ∧ Q r.1 tm' r.2.objs
/-- what follows a piece that ends by itself -/
def onNW (K : TM → List Ob → Prop) (Q : Out → TM → List Ob → Prop) (o : Out) (tm : TM) (os : List Ob) : Prop :=
  match o with
  | .normal => K tm os
  | o => Q o tm os
def onBW (id : Nat) (K : TM → List Ob → Prop) (Q : Out → TM → List Ob → Prop) (o : Out) (tm : TM) (os : List Ob) : Prop :=
  match o with
  | .normal => K tm os
  | .exit i => if i = id then K tm os else Q (.exit i) tm os
  | .ret => Q .ret tm os
def wE (env : Env) (f : FuncId) (k : Nat) : Option (List Nat) → Code → TM → List Ob → (Out → TM → List Ob → Prop) → Prop
  | _, .skip, tm, os, Q => Q .normal tm os
  | _, .label _, tm, os, Q => Q .normal tm os
  | _, .region _ ops draw, tm, os, Q => match draw with
    | false => wOps env f (ops.toList.map (·.dst)) ops.toList tm os fun tm os _ => Q .normal tm os
    | true => wOps env f (ops.toList.map (·.dst)) ops.toList tm os fun tm os feet => Chk ops.toList feet () ∧ Q .normal tm os
  | _, .seq a b, tm, os, Q => wE env f k none a tm os (onNW (fun tm os => wE env f k none b tm os Q) Q)
  | _, .cond c a b, tm, os, Q => WC (evalT env tm c)
      (WN (env.pol.live f 0 (condKey c)) k tm os (fun tm os => wE env f k none a tm os (onNW (fun tm os => WN (env.pol.live f 1 (condKey c)) k tm os (Q .normal) ()) Q)) ())
      (WN (env.pol.live f 0 (condKey c)) k tm os (fun tm os => wE env f k none b tm os (onNW (fun tm os => WN (env.pol.live f 1 (condKey c)) k tm os (Q .normal) ()) Q)) ()) ()
  | _, .block id b, tm, os, Q => wE env f k (env.pol.live f 2 id) b tm os (onBW id (fun tm os => WN (env.pol.live f 3 id) k tm os (Q .normal) ()) Q)
  | lv, .loop b, tm, os, Q => WLoop env f k lv b tm os Q ()
  | _, .exit i, tm, os, Q => Q (.exit i) tm os
  | _, .ret, tm, os, Q => Q .ret tm os
  | _, .rangeFunc g ps a b, tm, os, Q => WRange env f k g ps a b tm os Q ()
  | _, _, _, _, _ => False
/-- code -/
def WE (env : Env) (f : FuncId) (k : Nat) (lv : Option (List Nat)) (c : Code) (tm : TM) (os : List Ob) (Q : Out → TM → List Ob → Prop) (_ : Hold (env, f, k, c, tm, os, Q)) : Prop := wE env f k lv c tm os Q
section
variable {env : Env} {f : FuncId} {k : Nat}

theorem opsDL_teq {ds : List (Option Tmp)} {l : List Oper} {a b : TM} {os : List Ob} (h : TEq a b) {x} (hx : opsDL env f ds l ⟨a, os⟩ = some x) : ∃ tm, opsDL env f ds l ⟨b, os⟩ = some (⟨tm, x.1.objs⟩, x.2) ∧ TEq x.1.tmps tm := by
  obtain ⟨n, hn⟩ := (lim_iff (opsD_mono _ _ _)).1 hx
  obtain ⟨tm, h1, h2⟩ := opsD_teq l os h hn
  exact ⟨tm, (lim_iff (opsD_mono _ _ _)).2 ⟨n, h1⟩, h2⟩
theorem evL_teq {lv : Option (List Nat)} {c : Code} {a b : TM} {os : List Ob} (h : TEq a b) {x} (hx : evL env f k lv c ⟨a, os⟩ = some x) : ∃ tm, evL env f k lv c ⟨b, os⟩ = some (x.1, ⟨tm, x.2.objs⟩) ∧ TEq x.2.tmps tm := by
  obtain ⟨n, hn⟩ := (lim_iff (ev_mono _ _ _ _ _)).1 hx
  obtain ⟨tm, h1, h2⟩ := ev_teq n k lv c a b os x h hn
  exact ⟨tm, (lim_iff (ev_mono _ _ _ _ _)).2 ⟨n, h1⟩, h2⟩
theorem run_of_runF {α : Type} {m : HM α} {os : List Ob} {r} (h : m.runF os os.length = some r) : m.run os = some (r.1, r.2.1) := by
  obtain ⟨a, os', n', ft, wr⟩ := r
  unfold HM.run
  rw [(runF_local h).1]
theorem opsL_of {ds : List (Option Tmp)} : ∀ {l : List Oper} {fr : Fr} {r}, opsDL env f ds l fr = some r → opsL env f ds l fr = some r.1
  | [], fr, r, h => by rw [opsDL_nil] at h; injection h with h; subst h; exact opsL_nil
  | o :: l, fr, r, h => by
    rw [opsDL_cons] at h
    rw [opsL_cons]
    obtain ⟨b, h1, h2⟩ := Option.bind_eq_some_iff.1 h
    rw [h1, Option.bind_some]
    cases b with
    | false =>
      rw [if_neg (by simp)] at h2 ⊢
      obtain ⟨q, h3, h4⟩ := Option.map_eq_some_iff.1 h2
      rw [opsL_of h3, ← h4]
    | true =>
      rw [if_pos rfl] at h2 ⊢
      obtain ⟨p, h3, h4⟩ := Option.bind_eq_some_iff.1 h2
      obtain ⟨q, h5, h6⟩ := Option.map_eq_some_iff.1 h4
      rw [run_of_runF h3, Option.bind_some, opsL_of h5, ← h6]
theorem WGd_ok {ds : List (Option Tmp)} {tm : TM} {g : Option (Nat × Bool)} {run skp : Prop} {u} (h : WGd ds tm g run skp u) : (wantedV ds tm g = some true ∧ run) ∨ (wantedV ds tm g = some false ∧ skp) := by
  unfold WGd at h
  cases g with
  | none => exact .inl ⟨rfl, h⟩
  | some g =>
    obtain ⟨j, w⟩ := g
    dsimp only at h
    simp only [wantedV]
    cases hd : (ds[j]?).join with
    | none => rw [hd] at h; exact .inr ⟨rfl, h⟩
    | some d =>
      rw [hd] at h
      dsimp only at h ⊢
      cases hx : getT tm d <;> rw [hx] at h <;> simp only [WG] at h
      · rename_i b
        simp only [guardV]
        split at h
        · rename_i hb; subst hb; exact .inl ⟨by simp, h⟩
        · rename_i hb; exact .inr ⟨by simp [hb], h⟩
      · exact .inr ⟨rfl, h⟩
theorem wOps_ok {ds : List (Option Tmp)} : ∀ {l : List Oper} {tm : TM} {os : List Ob} {Q}, wOps env f ds l tm os Q → ∃ r, opsDL env f ds l ⟨tm, os⟩ = some r ∧ ∃ tm', TEq r.1.tmps tm' ∧ Q tm' r.1.objs r.2
  | [], tm, os, Q, h => ⟨_, opsDL_nil, tm, .refl _, h⟩
  | o :: l, tm, os, Q, h => by
    rw [wOps] at h
    rw [opsDL_cons]
    rcases WGd_ok h with ⟨h1, h2⟩ | ⟨h1, h2⟩
    · obtain ⟨p, h3, h4⟩ := h2
      obtain ⟨r, h5, tm', h6, h7⟩ := wOps_ok h4
      obtain ⟨tm2, h8, h9⟩ := opsDL_teq (consO_teq o.dst p.1 tm).symm h5
      rw [h1, Option.bind_some, if_pos rfl, h3, Option.bind_some, h8]
      exact ⟨_, rfl, tm', h9.symm.trans h6, h7⟩
    · obtain ⟨r, h5, tm', h6, h7⟩ := wOps_ok h2
      obtain ⟨tm2, h8, h9⟩ := opsDL_teq (consO_teq o.dst .und tm).symm h5
      rw [h1, Option.bind_some, if_neg (by simp), h8]
      exact ⟨_, rfl, tm', h9.symm.trans h6, h7⟩
theorem WN_teq {lv : Option (List Nat)} {a b : TM} {os : List Ob} {K} (h : TEq a b) (hw : WN lv k a os K ()) : ∃ fr, normO k lv ⟨b, os⟩ = some fr ∧ ∃ tm', TEq fr.tmps tm' ∧ K tm' fr.objs := by
  obtain ⟨fr, h1, h2⟩ := hw
  obtain ⟨tm, h3, h4⟩ := normO_teq h h1
  exact ⟨_, h3, fr.tmps, h4.symm, h2⟩
theorem wE_ok : ∀ {c : Code} {lv : Option (List Nat)} {tm : TM} {os : List Ob} {Q}, wE env f k lv c tm os Q → ∃ r, evL env f k lv c ⟨tm, os⟩ = some r ∧ ∃ tm', TEq r.2.tmps tm' ∧ Q r.1 tm' r.2.objs
  | .skip, lv, tm, os, Q, h => ⟨_, evL_skip, tm, .refl _, h⟩
  | .label _, lv, tm, os, Q, h => ⟨_, evL_label, tm, .refl _, h⟩
  | .exit _, lv, tm, os, Q, h => ⟨_, evL_exit, tm, .refl _, h⟩
  | .ret, lv, tm, os, Q, h => ⟨_, evL_ret, tm, .refl _, h⟩
  | .region id ops draw, lv, tm, os, Q, h => by
    cases draw with
    | false =>
      obtain ⟨r, h1, tm', h2, h3⟩ := wOps_ok (show wOps _ _ _ _ _ _ _ from h)
      rw [evL_region, opsL_of h1]
      exact ⟨_, rfl, tm', h2, h3⟩
    | true =>
      obtain ⟨r, h1, tm', h2, h3, h4⟩ := wOps_ok (show wOps _ _ _ _ _ _ _ from h)
      rw [evL_draw, h1, Option.bind_some, if_pos (show indep _ _ = true from h3)]
      exact ⟨_, rfl, tm', h2, h4⟩
  | .seq a b, lv, tm, os, Q, h => by
    obtain ⟨r, h1, tm', h2, h3⟩ := wE_ok (c := a) (show wE _ _ _ _ _ _ _ _ from h)
    rw [evL_seq, h1, Option.bind_some]
    obtain ⟨o, fr1⟩ := r
    cases o with
    | normal =>
      obtain ⟨r2, h4, tm2, h5, h6⟩ := wE_ok (c := b) (show wE _ _ _ _ _ _ _ _ from h3)
      obtain ⟨tm3, h7, h8⟩ := evL_teq (b := fr1.tmps) h2.symm h4
      exact ⟨_, h7, tm2, h8.symm.trans h5, h6⟩
    | exit i => exact ⟨_, rfl, tm', h2, h3⟩
    | ret => exact ⟨_, rfl, tm', h2, h3⟩
  | .cond c a b, lv, tm, os, Q, h => by
    rw [evL_cond]
    have h : WC _ _ _ _ := h
    have key : ∀ (d : Code), (∀ {lv : Option (List Nat)} {tm : TM} {os : List Ob} {Q}, wE env f k lv d tm os Q → ∃ r, evL env f k lv d ⟨tm, os⟩ = some r ∧ ∃ tm', TEq r.2.tmps tm' ∧ Q r.1 tm' r.2.objs) →
        (WN (env.pol.live f 0 (condKey c)) k tm os (fun tm os => wE env f k none d tm os (onNW (fun tm os => WN (env.pol.live f 1 (condKey c)) k tm os (Q .normal) ()) Q)) ()) →
        ∃ r, ((normO k (env.pol.live f 0 (condKey c)) ⟨tm, os⟩).bind fun fr0 => (evL env f k none d fr0).bind (onN fun fr1 => (normO k (env.pol.live f 1 (condKey c)) fr1).map fun fr2 => (.normal, fr2))) = some r ∧ ∃ tm', TEq r.2.tmps tm' ∧ Q r.1 tm' r.2.objs := by
      intro d ih hw
      obtain ⟨fr0, h1, h2⟩ := hw
      rw [h1, Option.bind_some]
      obtain ⟨r, h3, tm', h4, h5⟩ := ih h2
      rw [show (⟨fr0.tmps, fr0.objs⟩ : Fr) = fr0 from rfl] at h3
      rw [h3, Option.bind_some]
      obtain ⟨o, fr1⟩ := r
      cases o with
      | normal =>
        obtain ⟨fr2, h6, tm2, h7, h8⟩ := WN_teq (b := fr1.tmps) h4.symm (show WN _ _ _ _ _ _ from h5)
        refine ⟨(.normal, fr2), ?_, tm2, h7, h8⟩
        show (normO k _ fr1).map _ = _
        rw [show fr1 = ⟨fr1.tmps, fr1.objs⟩ from rfl, h6]
        rfl
      | exit i => exact ⟨_, rfl, tm', h4, h5⟩
      | ret => exact ⟨_, rfl, tm', h4, h5⟩
    unfold WC at h
    cases hv : evalT env tm c <;> rw [hv] at h <;> try exact h.elim
    rename_i t
    cases t with
    | false => exact key b (fun h => wE_ok (c := b) h) h
    | true => exact key a (fun h => wE_ok (c := a) h) h
  | .block id b, lv, tm, os, Q, h => by
    obtain ⟨r, h1, tm', h2, h3⟩ := wE_ok (c := b) (show wE _ _ _ _ _ _ _ _ from h)
    rw [evL_block, h1, Option.bind_some]
    obtain ⟨o, fr1⟩ := r
    have fin : WN (env.pol.live f 3 id) k tm' fr1.objs (Q .normal) () → ∃ r, ((normO k (env.pol.live f 3 id) fr1).map fun fr2 => (Out.normal, fr2)) = some r ∧ ∃ tm', TEq r.2.tmps tm' ∧ Q r.1 tm' r.2.objs := by
      intro hw
      obtain ⟨fr2, h6, tm2, h7, h8⟩ := WN_teq (b := fr1.tmps) h2.symm hw
      refine ⟨(.normal, fr2), ?_, tm2, h7, h8⟩
      rw [show fr1 = ⟨fr1.tmps, fr1.objs⟩ from rfl, h6]
      rfl
    cases o with
    | normal => exact fin h3
    | exit i =>
      have h3 : (if i = id then _ else _) := h3
      show ∃ r, (if i = id then _ else _) = some r ∧ _
      by_cases hi : i = id
      · rw [if_pos hi] at h3 ⊢; exact fin h3
      · rw [if_neg hi] at h3 ⊢; exact ⟨_, rfl, tm', h2, h3⟩
    | ret => exact ⟨_, rfl, tm', h2, h3⟩
  | .loop b, lv, tm, os, Q, h => h
  | .rangeFunc g ps a b, lv, tm, os, Q, h => by
    obtain ⟨r, h1, h2⟩ := (show WRange _ _ _ _ _ _ _ _ _ _ _ from h)
    refine ⟨r, ?_, h2⟩
    rw [← h1]
    unfold evL
    congr 1
    funext n
    cases n <;> rfl
  | .scope _, _, _, _, _, h => h.elim
  | .goto _, _, _, _, _, h => h.elim
  | .refuse _, _, _, _, _, h => h.elim
end
end Go.V
namespace Go.V
/-! ### The walk, by rewriting -/
/-- what a test parts -/
def Sus (p : Prop) (_ : Hold p) : Prop := p
def WOpt {α : Type} (x : Option α) (K : α → Prop) (_ : Hold K) : Prop := match x with | some a => K a | none => False
def WV (x : AV) (K : AV → Prop) (_ : Hold K) : Prop := K x
def WSt (os : List Ob) (K : List Ob → Prop) (_ : Hold K) : Prop := K os
def WNat (n : Nat) (K : Nat → Prop) (_ : Hold K) : Prop := K n
def dAt : List Oper → Nat → Option Tmp
  | [], _ => none
  | o :: _, 0 => o.dst
  | _ :: l, j + 1 => dAt l j
theorem dAt_eq : ∀ (l : List Oper) (j : Nat), ((l.map (·.dst))[j]?).join = dAt l j
  | [], _ => rfl
  | _ :: _, 0 => rfl
  | _ :: l, j + 1 => dAt_eq l j
def WGs (d : Option Tmp) (w : Bool) (tm : TM) (run skp : Prop) (_ : Hold (w, tm, run, skp)) : Prop := match d with | some d => WG (getT tm d) w run skp () | none => skp
/-- operations: of a region's, `l` are left -/
def WR (env : Env) (f : FuncId) (L l : List Oper) (tm : TM) (os : List Ob) (Q : TM → List Ob → List (List Nat × List Nat) → Prop) (_ : Hold (env, f, L, l, tm, os, Q)) : Prop := wOps env f (L.map (·.dst)) l tm os Q
section
variable {env : Env} {f : FuncId} {k : Nat} {lv : Option (List Nat)} {tm : TM} {os : List Ob} {Q : Out → TM → List Ob → Prop}
@[go_sem ↓] theorem WE_skip {u} : WE env f k lv .skip tm os Q u = Q .normal tm os := nd rfl
@[go_sem ↓] theorem WE_label {l u} : WE env f k lv (.label l) tm os Q u = Q .normal tm os := nd rfl
@[go_sem ↓] theorem WE_exit {i u} : WE env f k lv (.exit i) tm os Q u = Q (.exit i) tm os := nd rfl
@[go_sem ↓] theorem WE_ret {u} : WE env f k lv .ret tm os Q u = Q .ret tm os := nd rfl
@[go_sem ↓] theorem WE_seq {a b u} : WE env f k lv (.seq a b) tm os Q u = WE env f k none a tm os (onNW (fun tm os => WE env f k none b tm os Q ()) Q) () := nd rfl
@[go_sem ↓] theorem WE_region {id l u} : WE env f k lv (.region id (List.toArray l) false) tm os Q u = WR env f l l tm os (fun tm os _ => Q .normal tm os) () := nd rfl
@[go_sem ↓] theorem WE_draw {id l u} : WE env f k lv (.region id (List.toArray l) true) tm os Q u = WR env f l l tm os (fun tm os feet => Chk l feet () ∧ Q .normal tm os) () := nd rfl
@[go_sem ↓] theorem WE_cond {c a b u} : WE env f k lv (.cond c a b) tm os Q u = WC (evalT env tm c)
      (WN (env.pol.live f 0 (condKey c)) k tm os (fun tm os => WE env f k none a tm os (onNW (fun tm os => WN (env.pol.live f 1 (condKey c)) k tm os (Q .normal) ()) Q) ()) ())
      (WN (env.pol.live f 0 (condKey c)) k tm os (fun tm os => WE env f k none b tm os (onNW (fun tm os => WN (env.pol.live f 1 (condKey c)) k tm os (Q .normal) ()) Q) ()) ()) () := nd rfl
def WBl (lv : Option (List Nat)) (env : Env) (f : FuncId) (k : Nat) (c : Code) (tm : TM) (os : List Ob) (Q : Out → TM → List Ob → Prop) (_ : Hold (env, f, k, c, tm, os, Q)) : Prop := WE env f k lv c tm os Q ()
@[go_sem] theorem WBl_eq {c u} : WBl lv env f k c tm os Q u = WE env f k lv c tm os Q () := nd rfl
@[go_sem ↓] theorem WE_block {id b u} : WE env f k lv (.block id b) tm os Q u = WBl (env.pol.live f 2 id) env f k b tm os (onBW id (fun tm os => WN (env.pol.live f 3 id) k tm os (Q .normal) ()) Q) () := nd rfl
@[go_sem ↓] theorem WE_loop {b u} : WE env f k lv (.loop b) tm os Q u = WLoop env f k lv b tm os Q () := nd rfl
@[go_sem ↓] theorem WE_range {g ps a b u} : WE env f k lv (.rangeFunc g ps a b) tm os Q u = WRange env f k g ps a b tm os Q () := nd rfl
@[go_sem ↓] theorem onNW_normal {K : TM → List Ob → Prop} {tm os} : onNW K Q .normal tm os = K tm os := nd rfl
@[go_sem ↓] theorem onNW_ret {K : TM → List Ob → Prop} {tm os} : onNW K Q .ret tm os = Q .ret tm os := nd rfl
@[go_sem ↓] theorem onNW_exit {K : TM → List Ob → Prop} {i tm os} : onNW K Q (.exit i) tm os = Q (.exit i) tm os := nd rfl
@[go_sem ↓] theorem onBW_normal {K : TM → List Ob → Prop} {id tm os} : onBW id K Q .normal tm os = K tm os := nd rfl
@[go_sem ↓] theorem onBW_ret {K : TM → List Ob → Prop} {id tm os} : onBW id K Q .ret tm os = Q .ret tm os := nd rfl
@[go_sem ↓] theorem onBW_exit {K : TM → List Ob → Prop} {id i tm os} : onBW id K Q (.exit i) tm os = if i = id then K tm os else Q (.exit i) tm os := nd rfl
end
section
variable {env : Env} {f : FuncId} {tm : TM} {os : List Ob} {n : Nat}
theorem nd_iff {a b : Prop} (h : a ↔ b) : a = b := propext h
@[go_sem ↓] theorem WR_nil {L Q u} : WR env f L [] tm os Q u = Q tm os [] := nd rfl
@[go_sem ↓] theorem WR_op {L d op ty pos af l Q u} : WR env f L (⟨some d, op, ty, pos, af, none⟩ :: l) tm os Q u =
    WF (opL env f op ty (evalT env tm)) os os.length (fun v os' _ ft wr => WR env f L l ((d, v) :: tm) os' (fun tm' os'' feet => Q tm' os'' ((ft, wr) :: feet)) ()) () := nd rfl
@[go_sem ↓] theorem WR_op0 {L op ty pos af l Q u} : WR env f L (⟨none, op, ty, pos, af, none⟩ :: l) tm os Q u =
    WF (opL env f op ty (evalT env tm)) os os.length (fun _ os' _ ft wr => WR env f L l tm os' (fun tm' os'' feet => Q tm' os'' ((ft, wr) :: feet)) ()) () := nd rfl
@[go_sem ↓] theorem WR_guard {L d op ty pos af j w l Q u} : WR env f L (⟨some d, op, ty, pos, af, some (j, w)⟩ :: l) tm os Q u =
    WGs (dAt L j) w tm (WR env f L (⟨some d, op, ty, pos, af, none⟩ :: l) tm os Q ()) (WR env f L l ((d, .und) :: tm) os (fun tm' os'' feet => Q tm' os'' (([], []) :: feet)) ()) () := by
  rw [← dAt_eq]
  exact nd rfl
@[go_sem ↓] theorem WR_guard0 {L op ty pos af j w l Q u} : WR env f L (⟨none, op, ty, pos, af, some (j, w)⟩ :: l) tm os Q u =
    WGs (dAt L j) w tm (WR env f L (⟨none, op, ty, pos, af, none⟩ :: l) tm os Q ()) (WR env f L l tm os (fun tm' os'' feet => Q tm' os'' (([], []) :: feet)) ()) () := by
  rw [← dAt_eq]
  exact nd rfl
@[go_sem] theorem WGs_some {d w run skp u} : WGs (some d) w tm run skp u = WG (getT tm d) w run skp () := nd rfl
@[go_sem] theorem WG_tt {run skp u} : WG (.bool true) true run skp u = run := nd_iff (by simp [WG])
@[go_sem] theorem WG_tf {run skp u} : WG (.bool true) false run skp u = skp := nd_iff (by simp [WG])
@[go_sem] theorem WG_ft {run skp u} : WG (.bool false) true run skp u = skp := nd_iff (by simp [WG])
@[go_sem] theorem WG_ff {run skp u} : WG (.bool false) false run skp u = run := nd_iff (by simp [WG])
@[go_sem] theorem WG_und {w run skp u} : WG .und w run skp u = skp := nd rfl
@[go_sem] theorem WG_true {p : Prop} [Decidable p] {run skp u} : WG (.bool (decide p)) true run skp u = ((p → Sus run ()) ∧ (¬ p → Sus skp ())) := nd_iff (by
  by_cases h : p <;> simp [WG, Sus, h])
@[go_sem] theorem WG_false {p : Prop} [Decidable p] {run skp u} : WG (.bool (decide p)) false run skp u = ((p → Sus skp ()) ∧ (¬ p → Sus run ())) := nd_iff (by
  by_cases h : p <;> simp [WG, Sus, h])
@[go_sem ↓] theorem consO_some {d v} : consO (some d) v tm = (d, v) :: tm := nd rfl
@[go_sem ↓] theorem consO_none {v} : consO none v tm = tm := nd rfl
@[go_sem] theorem WC_true {t e u} : WC (.bool true) t e u = t := nd rfl
@[go_sem] theorem WC_false {t e u} : WC (.bool false) t e u = e := nd rfl
@[go_sem] theorem WC_dec {p : Prop} [Decidable p] {t e u} : WC (.bool (decide p)) t e u = ((p → Sus t ()) ∧ (¬ p → Sus e ())) := nd_iff (by
  by_cases h : p <;> simp [WC, Sus, h])
@[go_sem] theorem WOpt_some {α : Type} {a : α} {K u} : WOpt (some a) K u = K a := nd rfl
@[go_sem] theorem WOpt_none {α : Type} {K : α → Prop} {u} : WOpt none K u = False := nd rfl
@[go_sem] theorem WV_eq {x K u} : WV x K u = K x := nd rfl
@[go_sem] theorem WSt_eq {K u} : WSt os K u = K os := nd rfl
@[go_sem] theorem WNat_eq {K u} : WNat n K u = K n := nd rfl
/-! #### slots -/
@[go_sem ↓] theorem evalT_tmp {t} : evalT env tm (.tmp t) = getT tm t := nd rfl
@[go_sem ↓] theorem evalT_const {v} : evalT env tm (.const v) = ofConst v := nd rfl
@[go_sem ↓] theorem evalT_func {g} : evalT env tm (.func g) = .fn g [] := nd rfl
def globV (env : Env) (g : Nat) : AV := match env.glob g with | some e => .fp e 0 | none => .gone
@[go_sem ↓] theorem evalT_global {g} : evalT env tm (.global g) = globV env g := nd rfl
@[go_sem ↓] theorem ofConst_bool {b} : ofConst (.bool b) = .bool b := nd rfl
@[go_sem ↓] theorem ofConst_int {k n} : ofConst (.int k n) = .int k n := nd rfl
@[go_sem ↓] theorem ofConst_string {s} : ofConst (.string s) = .str s := nd rfl
@[go_sem ↓] theorem ofConst_nilp : ofConst (.pointer none) = .nilp := nd rfl
@[go_sem ↓] theorem ofConst_nils : ofConst (.slice none 0 0) = .nils := nd rfl
@[go_sem ↓] theorem ofConst_nilm : ofConst (.map none) = .nilm := nd rfl
@[go_sem ↓] theorem ofConst_nilf : ofConst .nilFunc = .nilf := nd rfl
@[go_sem ↓] theorem getT_cons {j v r t} : getT ((j, v) :: r) t = if j = t then v else getT r t := getT_cons0
@[go_sem ↓] theorem getT_nil {t} : getT [] t = .gone := nd rfl
@[go_sem ↓] theorem dAt_zero {d op ty pos af g l} : dAt (⟨d, op, ty, pos, af, g⟩ :: l) 0 = d := nd rfl
@[go_sem ↓] theorem dAt_succ {o l j} : dAt (o :: l) (j + 1) = dAt l j := nd rfl
@[go_sem ↓] theorem obAt_zero {b bs} : obAt (b :: bs) 0 = b := nd rfl
@[go_sem ↓] theorem obAt_succ {b bs o} : obAt (b :: bs) (o + 1) = obAt bs o := nd rfl
@[go_sem ↓] theorem setOb_zero {x b bs} : setOb (b :: bs) 0 x = x :: bs := nd rfl
@[go_sem ↓] theorem setOb_succ {x b bs o} : setOb (b :: bs) (o + 1) x = b :: setOb bs o x := nd rfl
@[go_sem ↓] theorem setOb_nil0 {x} : setOb [] 0 x = [x] := nd rfl
/-! #### steps -/
variable {α β : Type} {Q : α → List Ob → Nat → List Nat → List Nat → Prop}
@[go_sem ↓] theorem WF_ret {a : α} {u} : WF (.ret a) os n Q u = Q a os n [] [] := nd_iff (by simp [WF, HM.runF])
@[go_sem ↓] theorem WF_pure {a : α} {u} : WF (pure a) os n Q u = Q a os n [] [] := nd_iff (by simp [WF, pure, HM.runF])
@[go_sem ↓] theorem WF_fail {u} : WF .fail os n Q u = False := nd_iff (by simp [WF, HM.runF])
@[go_sem ↓] theorem WF_lift_some {a : α} {u} : WF (HM.lift (some a)) os n Q u = Q a os n [] [] := nd_iff (by simp [WF, HM.lift, HM.runF])
@[go_sem ↓] theorem WF_lift_none {u} : WF (HM.lift none) os n Q u = False := nd_iff (by simp [WF, HM.lift, HM.runF])
theorem WF_get {o : Nat} {k : Ob → HM α} {u} : WF (.get o k) os n Q u = WF (k (obAt os o)) os n (fun a os' n' ft wr => Q a os' n' (o :: ft) wr) () := nd_iff (by
  simp only [WF, HM.runF]
  cases (k (obAt os o)).runF os n with
  | none => simp
  | some p => simp)
theorem WF_set {o : Nat} {b : Ob} {k : HM α} {u} : WF (.set o b k) os n Q u = WF k (setOb os o b) n (fun a os' n' ft wr => Q a os' n' (o :: ft) (o :: wr)) () := nd_iff (by
  simp only [WF, HM.runF]
  cases k.runF (setOb os o b) n with
  | none => simp
  | some p => simp)
theorem WF_new {b : Ob} {k : Nat → HM α} {u} : WF (.new b k) os n Q u = WF (k n) (setOb os n b) (n + 1) (fun a os' n' ft wr => Q a os' n' (n :: ft) (n :: wr)) () := nd_iff (by
  simp only [WF, HM.runF]
  cases (k n).runF (setOb os n b) (n + 1) with
  | none => simp
  | some p => simp)
theorem runF_bind_some {x : HM α} {g : α → HM β} : ∀ {os : List Ob} {n : Nat} {a os1 n1 f1 w1} {r : β × List Ob × Nat × List Nat × List Nat}, x.runF os n = some (a, os1, n1, f1, w1) → (g a).runF os1 n1 = some r → (x.bind g).runF os n = some (r.1, r.2.1, r.2.2.1, f1 ++ r.2.2.2.1, w1 ++ r.2.2.2.2) := by
  induction x with
  | ret a =>
    intro os n a' os1 n1 f1 w1 r h1 h2
    simp only [HM.runF, Option.some.injEq, Prod.mk.injEq] at h1
    obtain ⟨rfl, rfl, rfl, rfl, rfl⟩ := h1
    exact h2
  | fail => intro os n a' os1 n1 f1 w1 r h1; simp [HM.runF] at h1
  | get o k ih =>
    intro os n a' os1 n1 f1 w1 r h1 h2
    simp only [HM.bind, HM.runF] at h1 ⊢
    cases hk : (k (obAt os o)).runF os n with
    | none => rw [hk] at h1; simp at h1
    | some p =>
      obtain ⟨b, c, d, e, f⟩ := p
      rw [hk] at h1
      simp only [Option.some.injEq, Prod.mk.injEq] at h1
      obtain ⟨rfl, rfl, rfl, rfl, rfl⟩ := h1
      rw [ih _ hk h2]; rfl
  | set o b k ih =>
    intro os n a' os1 n1 f1 w1 r h1 h2
    simp only [HM.bind, HM.runF] at h1 ⊢
    cases hk : k.runF (setOb os o b) n with
    | none => rw [hk] at h1; simp at h1
    | some p =>
      obtain ⟨b, c, d, e, f⟩ := p
      rw [hk] at h1
      simp only [Option.some.injEq, Prod.mk.injEq] at h1
      obtain ⟨rfl, rfl, rfl, rfl, rfl⟩ := h1
      rw [ih hk h2]; rfl
  | new b k ih =>
    intro os n a' os1 n1 f1 w1 r h1 h2
    simp only [HM.bind, HM.runF] at h1 ⊢
    cases hk : (k n).runF (setOb os n b) (n + 1) with
    | none => rw [hk] at h1; simp at h1
    | some p =>
      obtain ⟨b, c, d, e, f⟩ := p
      rw [hk] at h1
      simp only [Option.some.injEq, Prod.mk.injEq] at h1
      obtain ⟨rfl, rfl, rfl, rfl, rfl⟩ := h1
      rw [ih _ hk h2]; rfl
@[go_sem ↓] theorem WF_bind {m : HM α} {g : α → HM β} {Q : β → List Ob → Nat → List Nat → List Nat → Prop} {u} : WF (m.bind g) os n Q u = WF m os n (fun a os1 n1 f1 w1 => WF (g a) os1 n1 (fun b os2 n2 f2 w2 => Q b os2 n2 (f1 ++ f2) (w1 ++ w2)) ()) () := nd_iff (by
  constructor
  · rintro ⟨r, h1, h2⟩
    obtain ⟨a, os1, n1, f1, w1, h3, r2, h4, rfl⟩ := runF_bind h1
    exact ⟨_, h3, _, h4, h2⟩
  · rintro ⟨⟨a, os1, n1, f1, w1⟩, h1, r, h2, h3⟩
    exact ⟨_, runF_bind_some h1 h2, h3⟩)
end
end Go.V
namespace Go.V
/-! ### Operations, by rewriting -/
def szT (env : Env) (t : TypeId) : Option Nat := (env.ty t).map (·.size)
def offT (env : Env) (t : TypeId) (f : Nat) : Option Nat := match env.ty t with | some { d := .struct fs, .. } => (fs[f]?).map (·.1) | _ => none
def fldT (env : Env) (t : TypeId) (f : Nat) : Option (Nat × TypeId) := match env.ty t with | some { d := .struct fs, .. } => fs[f]? | _ => none
/-- what is indexed: an array of so many, a slice; an element's cells -/
def ixT (env : Env) (t : TypeId) : Option (Option Nat × Nat) := match env.ty t with
  | some { d := .array n e, .. } => (env.ty e).map fun i => (some n, i.size)
  | some { d := .slice e, .. } => (env.ty e).map fun i => (none, i.size)
  | _ => none
def alT (env : Env) (t : TypeId) : Option (AV × Nat) := match env.ty t with
  | some { size, zero := some z, .. } => if z.cells.length = size then some (z, size) else none
  | _ => none
def bdT (env : Env) (t : TypeId) : Option (List (Nat × TypeId) × List AV) := match env.ty t with
  | some { d := .struct fs, zero := some (.agg cs), .. } => some (fs, cs)
  | some { d := .array n e, zero := some (.agg cs), .. } => (env.ty e).map fun ei => ((List.range n).map fun k => (k * ei.size, e), cs)
  | _ => none
def bsT (env : Env) (t : TypeId) : Option (Nat × AV) := match esize env t with
  | some (e, size) => ((env.ty e).bind (·.zero)).map fun z => (size, z)
  | none => none
/-- room for an append: cells, bytes, does the zero value fit? -/
def apT (env : Env) (t : TypeId) : Option (Nat × Nat) := match esize env t with
  | some (e, size) => match env.ty e with
    | some ei => if zeroFits size ei.zero then some (size, ei.bytes) else none
    | none => none
  | none => none
def mkT (env : Env) (t : TypeId) : Option (Nat × Nat × AV) := match esize env t with
  | some (e, size) => match env.ty e with
    | some ei => ei.zero.map fun z => (size, ei.bytes, z)
    | none => none
  | none => none
inductive LenK where
  | str | map | arr (n : Nat) | sl | no
def lenK (env : Env) (t : TypeId) : LenK := match env.ty t with
  | some { d := .string, .. } => .str
  | some { d := .map _ _, .. } => .map
  | some { d := .array n _, .. } => .arr n
  | some { d := .slice _, .. } => .sl
  | _ => .no
def WOr {α : Type} (x : Option α) (K : α → Prop) (D : Prop) (_ : Hold (K, D)) : Prop := match x with | some a => K a | none => D
/-- a new object -/
def WNew (n : Nat) (b : Ob) (os : List Ob) (K : Nat → List Ob → Prop) (_ : Hold (os, K)) : Prop := K n (setOb os n b)
/-- an object is turned -/
def WSet (b : Ob) (os : List Ob) (o : Nat) (K : List Ob → Prop) (_ : Hold (os, o, K)) : Prop := K (setOb os o b)
def WVar (b : Ob) (K : AV → Nat → Prop) (_ : Hold K) : Prop := match b with | .var e s _ => K e s | _ => False
def WVarM (b : Ob) (K : AV → Nat → Prop) (_ : Hold K) : Prop := match b with | .var e s .mine => K e s | _ => False
def WRow (b : Ob) (K : List AV → Nat → Prop) (_ : Hold K) : Prop := match b with | .row es s _ => K es s | _ => False
def WRowM (b : Ob) (K : List AV → Nat → Prop) (_ : Hold K) : Prop := match b with | .row es s .mine => K es s | _ => False
def WMap (b : Ob) (K : List (AV × AV) → Prop) (_ : Hold K) : Prop := match b with | .map es _ => K es | _ => False
def WMapM (b : Ob) (K : List (AV × AV) → Prop) (_ : Hold K) : Prop := match b with | .map es .mine => K es | _ => False
section
variable {env : Env} {f : FuncId} {os : List Ob} {n : Nat} {ρ : Operand → AV} {ty : TypeId}
@[go_sem] theorem WOr_some {α : Type} {a : α} {K D u} : WOr (some a) K D u = K a := nd rfl
@[go_sem] theorem WOr_none {α : Type} {K : α → Prop} {D u} : WOr none K D u = D := nd rfl
@[go_sem] theorem WNew_eq {b : Ob} {K u} : WNew n b os K u = WNat n (fun n => WSt (setOb os n b) (K n) ()) () := nd rfl
@[go_sem] theorem WSet_eq {b : Ob} {o K u} : WSet b os o K u = WSt (setOb os o b) K () := nd rfl
@[go_sem] theorem WVar_eq {e s l K u} : WVar (.var e s l) K u = K e s := nd rfl
@[go_sem] theorem WVarM_eq {e s K u} : WVarM (.var e s .mine) K u = K e s := nd rfl
@[go_sem] theorem WRow_eq {es s l K u} : WRow (.row es s l) K u = K es s := nd rfl
@[go_sem] theorem WRowM_eq {es s K u} : WRowM (.row es s .mine) K u = K es s := nd rfl
@[go_sem] theorem WMap_eq {es l K u} : WMap (.map es l) K u = K es := nd rfl
@[go_sem] theorem WMapM_eq {es K u} : WMapM (.map es .mine) K u = K es := nd rfl
variable {Q : AV → List Ob → Nat → List Nat → List Nat → Prop}
/-! #### which operation -/
@[go_sem ↓] theorem op_move {x u} : WF (opL env f (.move x) ty ρ) os n Q u = WV (ρ x) (fun v => Q v os n [] []) () := nd_iff (by simp [opL, opE, WF, HM.runF, WV])
@[go_sem ↓] theorem op_assign {x u} : WF (opL env f (.assign x) ty ρ) os n Q u = WF (assignE env ty (ρ x)) os n Q () := nd rfl
@[go_sem ↓] theorem op_pick {a b c u} : WF (opL env f (.pick a b c) ty ρ) os n Q u = WF (pickE (ρ a) (ρ b) (ρ c)) os n Q () := nd rfl
@[go_sem ↓] theorem op_alloc {t u} : WF (opL env f (.alloc t) ty ρ) os n Q u = WF (allocE env (env.pol.mat f) t) os n Q () := nd rfl
@[go_sem ↓] theorem op_box {t x u} : WF (opL env f (.box t x) ty ρ) os n Q u = WF (boxE env (env.pol.mat f) t (ρ x)) os n Q () := nd rfl
@[go_sem ↓] theorem op_build {t ps u} : WF (opL env f (.build t (List.toArray ps)) ty ρ) os n Q u = WF (buildE env t (ps.map fun p => (p.1, ρ p.2))) os n Q () := nd rfl
@[go_sem ↓] theorem op_buildSlice {t l ps u} : WF (opL env f (.buildSlice t l (List.toArray ps)) ty ρ) os n Q u = WF (buildSliceE env (env.pol.nest f) t l (ps.map fun p => (p.1, ρ p.2))) os n Q () := nd rfl
@[go_sem ↓] theorem op_load {t a u} : WF (opL env f (.load t a) ty ρ) os n Q u = WF (loadE env t (ρ a)) os n Q () := nd rfl
@[go_sem ↓] theorem op_store {t a x u} : WF (opL env f (.store t a x) ty ρ) os n Q u = WF (storeE env (env.pol.nest f) t (ρ a) (ρ x)) os n Q () := nd rfl
@[go_sem ↓] theorem op_nilCheck {x u} : WF (opL env f (.nilCheck x) ty ρ) os n Q u = WF (nilCheckE (ρ x)) os n Q () := nd rfl
@[go_sem ↓] theorem op_binOp {op t x y r u} : WF (opL env f (.binOp op t x y r) ty ρ) os n Q u = WOpt (binE env op t (ρ x) (ρ y)) (fun v => Q v os n [] []) () := nd_iff (by
  simp only [opL, opE, WF]; cases binE env op t (ρ x) (ρ y) <;> simp [HM.lift, HM.runF, WOpt])
@[go_sem ↓] theorem op_unOp {op t x u} : WF (opL env f (.unOp op t x) ty ρ) os n Q u = WOpt (unE op (ρ x)) (fun v => Q v os n [] []) () := nd_iff (by
  simp only [opL, opE, WF]; cases unE op (ρ x) <;> simp [HM.lift, HM.runF, WOpt])
@[go_sem ↓] theorem op_convert {s d x u} : WF (opL env f (.convert s d x) ty ρ) os n Q u = WF (convE env s d (ρ x)) os n Q () := nd rfl
@[go_sem ↓] theorem op_makeFunc {g cs u} : WF (opL env f (.makeFunc (.func g) (List.toArray []) (List.toArray cs)) ty ρ) os n Q u = WV (.fn g (cs.map ρ)) (fun v => Q v os n [] []) () := nd_iff (by simp [opL, opE, WF, HM.runF, WV])
@[go_sem ↓] theorem op_makeMap {t u} : WF (opL env f (.makeMap t none) ty ρ) os n Q u = WNew n (.map [] .mine) os (fun i os' => Q (.mp i) os' (n + 1) [n] [n]) () := nd_iff (by simp [opL, opE, WF, newOb, HM.bind, HM.runF, WNew])
@[go_sem ↓] theorem op_makeSlice {t l c u} : WF (opL env f (.makeSlice t l c) ty ρ) os n Q u = WF (makeSliceE env t (ρ l) (ρ c)) os n Q () := nd rfl
@[go_sem ↓] theorem op_slice {t x lo hi u} : WF (opL env f (.slice t x lo hi none) ty ρ) os n Q u = WF (sliceE env t (ρ x) (lo.map ρ) (hi.map ρ)) os n Q () := nd rfl
@[go_sem ↓] theorem op_slice0 {t x lo hi mx u} : WF (opL env f (.slice t x lo hi (some mx)) ty ρ) os n Q u = WF (slice0E env t (ρ x) (lo.map ρ) (hi.map ρ) (ρ mx)) os n Q () := nd rfl
@[go_sem ↓] theorem op_fieldAddr {t x i u} : WF (opL env f (.fieldAddr t x i) ty ρ) os n Q u = WF (fieldAddrE env t (ρ x) i) os n Q () := nd rfl
@[go_sem ↓] theorem op_field {t x i u} : WF (opL env f (.field t x i) ty ρ) os n Q u = WF (fieldE env t (ρ x) i) os n Q () := nd rfl
@[go_sem ↓] theorem op_indexAddr {t x i u} : WF (opL env f (.indexAddr t x i) ty ρ) os n Q u = WF (indexAddrE env t (ρ x) (ρ i)) os n Q () := nd rfl
@[go_sem ↓] theorem op_index {t x i u} : WF (opL env f (.index t x i) ty ρ) os n Q u = WF (indexE env t (ρ x) (ρ i)) os n Q () := nd rfl
@[go_sem ↓] theorem op_lookup {t m k ok u} : WF (opL env f (.lookup t m k ok) ty ρ) os n Q u = WF (lookupE env t (ρ m) (ρ k) ok) os n Q () := nd rfl
@[go_sem ↓] theorem op_mapUpdate {t m k x u} : WF (opL env f (.mapUpdate t m k x) ty ρ) os n Q u = WF (mapUpdateE env (env.pol.nest f) t (ρ m) (ρ k) (ρ x)) os n Q () := nd rfl
@[go_sem ↓] theorem op_insert {t m k x u} : WF (opL env f (.insert t m k x) ty ρ) os n Q u = WF (mapUpdateE env (env.pol.nest f) t (ρ m) (ρ k) (ρ x)) os n Q () := nd rfl
@[go_sem ↓] theorem op_mapEntry {t m k u} : WF (opL env f (.mapEntry t m k) ty ρ) os n Q u = WF (mapEntryE env t (ρ m) (ρ k)) os n Q () := nd rfl
@[go_sem ↓] theorem op_entryStore {t m s x u} : WF (opL env f (.entryStore t m s x) ty ρ) os n Q u = WF (entryStoreE (env.pol.nest f) (ρ m) (ρ s) (ρ x)) os n Q () := nd rfl
@[go_sem ↓] theorem op_extract {t i u} : WF (opL env f (.extract t i) ty ρ) os n Q u = WF (extractE (ρ t) i) os n Q () := nd rfl
/-- a call -/
noncomputable def callX (env : Env) (g : FuncId) (args : List AV) : HM AV := match env.ext g with | some x => x args | none => callE env (callL env) g args
noncomputable def callV (env : Env) (x : AV) (args : List AV) : HM AV := match x with | .fn g caps => callX env g (args ++ caps) | _ => .fail
@[go_sem ↓] theorem op_call {tm : TM} {g as ats u} : WF (opL env f (.call ⟨.value (.func g), List.toArray as, ats⟩) ty (evalT env tm)) os n Q u = WF (callX env g (as.map (evalT env tm))) os n Q () := by
  show WF (match env.ext g with | some x => x (as.map (evalT env tm) ++ []) | none => callE env (callL env) g (as.map (evalT env tm) ++ [])) os n Q u = _
  rw [List.append_nil]; rfl
@[go_sem ↓] theorem op_callV {t as ats u} : WF (opL env f (.call ⟨.value (.tmp t), List.toArray as, ats⟩) ty ρ) os n Q u = WF (callV env (ρ (.tmp t)) (as.map ρ)) os n Q () := by
  show WF (match ρ (.tmp t) with | .fn g caps => _ | _ => _) os n Q u = _
  cases ρ (.tmp t) <;> rfl
@[go_sem ↓] theorem callV_fn {g caps args} : callV env (.fn g caps) args = callX env g (args ++ caps) := nd rfl
@[go_sem ↓] theorem op_len {a t as ats u} : WF (opL env f (.call ⟨.builtin .len, List.toArray (a :: as), List.toArray (t :: ats)⟩) ty ρ) os n Q u = (match as with | [] => WF (lenE env t (ρ a)) os n Q () | _ => WF .fail os n Q ()) := by
  cases as <;> exact nd rfl
@[go_sem ↓] theorem op_append {a b t t' ats u} : WF (opL env f (.call ⟨.builtin .append, List.toArray [a, b], List.toArray (t :: t' :: ats)⟩) ty ρ) os n Q u =
    (srcT env t' = true ∧ WF (srcE (env.pol.nest f) (ρ b)) os n (fun xs os1 n1 f1 w1 => WF (appendE env t (ρ a) xs) os1 n1 (fun v os2 n2 f2 w2 => Q v os2 n2 (f1 ++ f2) (w1 ++ w2)) ()) ()) := nd_iff (by
  show WF (if srcT env t' then _ else _) os n Q u ↔ _
  by_cases h : srcT env t' = true
  · rw [if_pos h]
    show WF ((srcE (env.pol.nest f) (ρ b)).bind fun xs => appendE env t (ρ a) xs) os n Q u ↔ _
    rw [WF_bind]; simp [h]
  · rw [if_neg h, WF_fail]; simp [h])
@[go_sem ↓] theorem op_copy {a b t ats u} : WF (opL env f (.call ⟨.builtin .copy, List.toArray [a, b], List.toArray (t :: ats)⟩) ty ρ) os n Q u = WF (copyE env t (ρ a) (ρ b)) os n Q () := nd rfl
@[go_sem ↓] theorem op_max {as ats u} : WF (opL env f (.call ⟨.builtin .max, List.toArray as, ats⟩) ty ρ) os n Q u = WOpt (maxAll (fun a b => if b > a then b else a) (as.map ρ)) (fun v => Q v os n [] []) () := nd_iff (by
  show WF (HM.lift (maxAll (fun a b => if b > a then b else a) (as.map ρ))) os n Q u ↔ _
  cases maxAll (fun a b => if b > a then b else a) (as.map ρ) <;> simp [WF, HM.lift, HM.runF, WOpt])
@[go_sem ↓] theorem op_min {as ats u} : WF (opL env f (.call ⟨.builtin .min, List.toArray as, ats⟩) ty ρ) os n Q u = WOpt (maxAll (fun a b => if b < a then b else a) (as.map ρ)) (fun v => Q v os n [] []) () := nd_iff (by
  show WF (HM.lift (maxAll (fun a b => if b < a then b else a) (as.map ρ))) os n Q u ↔ _
  cases maxAll (fun a b => if b < a then b else a) (as.map ρ) <;> simp [WF, HM.lift, HM.runF, WOpt])
end
end Go.V
namespace Go.V
/-! ### What each operation does -/
section
variable {env : Env} {os : List Ob} {n : Nat} {Q : AV → List Ob → Nat → List Nat → List Nat → Prop}
theorem WF_get_fail {α : Type} {o : Nat} {Q : α → List Ob → Nat → List Nat → List Nat → Prop} {k : Ob → HM α} {u} (h : k (obAt os o) = .fail) : WF (.get o k) os n Q u = False := by rw [WF_get, h, WF_fail]
/-! #### assign, pick -/
@[go_sem] theorem assign_nils {t u} : WF (assignE env t .nils) os n Q u = WOr (esize env t) (fun p => WNew n (.row [] p.2 .mine) os (fun i os' => Q (.arr i 0 0 0) os' (n + 1) [n] [n]) ()) (Q .nils os n [] []) () := nd_iff (by
  simp only [assignE]
  cases esize env t with
  | none => simp [WF, HM.runF, WOr]
  | some p => obtain ⟨a, b⟩ := p; simp [WF, HM.runF, WOr, newOb, HM.bind, WNew])
@[go_sem] theorem assign_int {t k x u} : WF (assignE env t (.int k x)) os n Q u = Q (.int k x) os n [] [] := nd_iff (by simp [assignE, WF, HM.runF])
@[go_sem] theorem assign_bool {t x u} : WF (assignE env t (.bool x)) os n Q u = Q (.bool x) os n [] [] := nd_iff (by simp [assignE, WF, HM.runF])
@[go_sem] theorem assign_str {t x u} : WF (assignE env t (.str x)) os n Q u = Q (.str x) os n [] [] := nd_iff (by simp [assignE, WF, HM.runF])
@[go_sem] theorem assign_agg {t x u} : WF (assignE env t (.agg x)) os n Q u = Q (.agg x) os n [] [] := nd_iff (by simp [assignE, WF, HM.runF])
@[go_sem] theorem assign_sl {t x u} : WF (assignE env t (.sl x)) os n Q u = Q (.sl x) os n [] [] := nd_iff (by simp [assignE, WF, HM.runF])
@[go_sem] theorem assign_lsl {t x u} : WF (assignE env t (.lsl x)) os n Q u = Q (.lsl x) os n [] [] := nd_iff (by simp [assignE, WF, HM.runF])
@[go_sem] theorem assign_arr {t a b c d u} : WF (assignE env t (.arr a b c d)) os n Q u = Q (.arr a b c d) os n [] [] := nd_iff (by simp [assignE, WF, HM.runF])
@[go_sem] theorem assign_ptr {t a b u} : WF (assignE env t (.ptr a b)) os n Q u = Q (.ptr a b) os n [] [] := nd_iff (by simp [assignE, WF, HM.runF])
@[go_sem] theorem assign_ep {t a b c d u} : WF (assignE env t (.ep a b c d)) os n Q u = Q (.ep a b c d) os n [] [] := nd_iff (by simp [assignE, WF, HM.runF])
@[go_sem] theorem assign_fp {t a b u} : WF (assignE env t (.fp a b)) os n Q u = Q (.fp a b) os n [] [] := nd_iff (by simp [assignE, WF, HM.runF])
@[go_sem] theorem assign_nilp {t u} : WF (assignE env t .nilp) os n Q u = Q .nilp os n [] [] := nd_iff (by simp [assignE, WF, HM.runF])
@[go_sem] theorem assign_mp {t a u} : WF (assignE env t (.mp a)) os n Q u = Q (.mp a) os n [] [] := nd_iff (by simp [assignE, WF, HM.runF])
@[go_sem] theorem assign_nilm {t u} : WF (assignE env t .nilm) os n Q u = Q .nilm os n [] [] := nd_iff (by simp [assignE, WF, HM.runF])
@[go_sem] theorem assign_fn {t a b u} : WF (assignE env t (.fn a b)) os n Q u = Q (.fn a b) os n [] [] := nd_iff (by simp [assignE, WF, HM.runF])
@[go_sem] theorem assign_nilf {t u} : WF (assignE env t .nilf) os n Q u = Q .nilf os n [] [] := nd_iff (by simp [assignE, WF, HM.runF])
@[go_sem] theorem pick_true {a b u} : WF (pickE (.bool true) a b) os n Q u = Q a os n [] [] := nd_iff (by simp [pickE, WF, HM.runF])
@[go_sem] theorem pick_false {a b u} : WF (pickE (.bool false) a b) os n Q u = Q b os n [] [] := nd_iff (by simp [pickE, WF, HM.runF])
/-! #### cells -/
@[go_sem ↓] theorem cells_agg {cs} : (AV.agg cs).cells = cs := nd rfl
@[go_sem ↓] theorem cells_int {k x} : (AV.int k x).cells = [.int k x] := nd rfl
@[go_sem ↓] theorem cells_bool {x} : (AV.bool x).cells = [.bool x] := nd rfl
@[go_sem ↓] theorem cells_str {x} : (AV.str x).cells = [.str x] := nd rfl
@[go_sem ↓] theorem cells_sl {x} : (AV.sl x).cells = [.sl x] := nd rfl
@[go_sem ↓] theorem cells_lsl {x} : (AV.lsl x).cells = [.lsl x] := nd rfl
@[go_sem ↓] theorem cells_nils : AV.nils.cells = [.nils] := nd rfl
@[go_sem ↓] theorem cells_arr {a b c d} : (AV.arr a b c d).cells = [.arr a b c d] := nd rfl
@[go_sem ↓] theorem cells_ptr {a b} : (AV.ptr a b).cells = [.ptr a b] := nd rfl
@[go_sem ↓] theorem cells_ep {a b c d} : (AV.ep a b c d).cells = [.ep a b c d] := nd rfl
@[go_sem ↓] theorem cells_fp {a b} : (AV.fp a b).cells = [.fp a b] := nd rfl
@[go_sem ↓] theorem cells_nilp : AV.nilp.cells = [.nilp] := nd rfl
@[go_sem ↓] theorem cells_mp {a} : (AV.mp a).cells = [.mp a] := nd rfl
@[go_sem ↓] theorem cells_nilm : AV.nilm.cells = [.nilm] := nd rfl
@[go_sem ↓] theorem cells_fn {a b} : (AV.fn a b).cells = [.fn a b] := nd rfl
@[go_sem ↓] theorem cells_nilf : AV.nilf.cells = [.nilf] := nd rfl
@[go_sem ↓] theorem cells_any : AV.any.cells = [.any] := nd rfl
@[go_sem ↓] theorem stor_agg {cs} : (AV.agg cs).storable = true := nd rfl
@[go_sem ↓] theorem stor_int {k x} : (AV.int k x).storable = true := nd rfl
@[go_sem ↓] theorem stor_bool {x} : (AV.bool x).storable = true := nd rfl
@[go_sem ↓] theorem stor_str {x} : (AV.str x).storable = true := nd rfl
@[go_sem ↓] theorem stor_sl {x} : (AV.sl x).storable = true := nd rfl
@[go_sem ↓] theorem stor_lsl {x} : (AV.lsl x).storable = true := nd rfl
@[go_sem ↓] theorem stor_nils : AV.nils.storable = true := nd rfl
@[go_sem ↓] theorem stor_arr {a b c d} : (AV.arr a b c d).storable = true := nd rfl
@[go_sem ↓] theorem stor_ptr {a b} : (AV.ptr a b).storable = true := nd rfl
@[go_sem ↓] theorem stor_ep {a b c d} : (AV.ep a b c d).storable = true := nd rfl
@[go_sem ↓] theorem stor_fp {a b} : (AV.fp a b).storable = true := nd rfl
@[go_sem ↓] theorem stor_nilp : AV.nilp.storable = true := nd rfl
@[go_sem ↓] theorem stor_mp {a} : (AV.mp a).storable = true := nd rfl
@[go_sem ↓] theorem stor_nilm : AV.nilm.storable = true := nd rfl
@[go_sem ↓] theorem stor_fn {a b} : (AV.fn a b).storable = true := nd rfl
@[go_sem ↓] theorem stor_nilf : AV.nilf.storable = true := nd rfl
@[go_sem ↓] theorem stor_any : AV.any.storable = true := nd rfl
/-! #### new variables -/
@[go_sem ↓] theorem mat_nil {e u} : WF (matCells [] e) os n Q u = Q e os n [] [] := nd_iff (by simp [matCells, WF, HM.runF])
@[go_sem] theorem alloc_eq {mat t u} : WF (allocE env mat t) os n Q u = WOpt (alT env t) (fun p => WF (matCells (mat t) p.1) os n (fun z os1 n1 f1 w1 => WNew n1 (.var z p.2 .mine) os1 (fun i os' => Q (.ptr i 0) os' (n1 + 1) (f1 ++ [n1]) (w1 ++ [n1])) ()) ()) () := by
  unfold allocE alT
  cases env.ty t with
  | none => exact WF_fail
  | some ti =>
    obtain ⟨d, size, bytes, z⟩ := ti
    cases z with
    | none => exact WF_fail
    | some z =>
      dsimp only
      split
      · rw [WF_bind]
        rw [WOpt_some]
        congr 1
        funext z' os1 n1 f1 w1
        exact nd_iff (by simp [WF, newOb, HM.bind, HM.runF, WNew])
      · exact WF_fail
@[go_sem] theorem box_eq {mat t x u} : WF (boxE env mat t x) os n Q u = WOpt (szT env t) (fun sz => x.cells.length = sz ∧ x.storable = true ∧ WF (matCells (mat t) x) os n (fun z os1 n1 f1 w1 => WNew n1 (.var z sz .mine) os1 (fun i os' => Q (.ptr i 0) os' (n1 + 1) (f1 ++ [n1]) (w1 ++ [n1])) ()) ()) () := by
  unfold boxE szT
  cases env.ty t with
  | none => exact WF_fail
  | some ti =>
    obtain ⟨d, size, bytes, z⟩ := ti
    dsimp only
    show _ = (_ ∧ _ ∧ _)
    by_cases h : x.cells.length = size ∧ x.storable = true
    · rw [if_pos h, WF_bind, eq_true h.1, eq_true h.2, true_and, true_and]
      congr 1
      funext z' os1 n1 f1 w1
      exact nd_iff (by simp [WF, newOb, HM.bind, HM.runF, WNew])
    · rw [if_neg h, WF_fail]
      exact nd_iff ⟨False.elim, fun ⟨a, b, _⟩ => h ⟨a, b⟩⟩
/-! #### structs, slices written out -/
@[go_sem] theorem buildC_nil {fs cs} : buildC env fs cs [] = some cs := nd rfl
@[go_sem ↓] theorem fill_eq {cs : List AV} {off : Nat} {vs : List AV} : fillAV cs off vs = cs.take off ++ vs ++ cs.drop (off + vs.length) := nd rfl
@[go_sem ↓] theorem upd_agg {cs : List AV} {i : Nat} {vs : List AV} : updAV (.agg cs) i vs = .agg (cs.take i ++ vs ++ cs.drop (i + vs.length)) := nd rfl
@[go_sem ↓] theorem upd_int {k x i v vs} : updAV (.int k x) i (v :: vs) = v := nd rfl
@[go_sem ↓] theorem upd_bool {x i v vs} : updAV (.bool x) i (v :: vs) = v := nd rfl
@[go_sem ↓] theorem upd_str {x i v vs} : updAV (.str x) i (v :: vs) = v := nd rfl
@[go_sem ↓] theorem upd_sl {x i v vs} : updAV (.sl x) i (v :: vs) = v := nd rfl
@[go_sem ↓] theorem upd_nils {i v vs} : updAV .nils i (v :: vs) = v := nd rfl
@[go_sem ↓] theorem upd_arr {a b c d i v vs} : updAV (.arr a b c d) i (v :: vs) = v := nd rfl
@[go_sem ↓] theorem upd_nilp {i v vs} : updAV .nilp i (v :: vs) = v := nd rfl
def buildC1 (cs : List AV) (v : AV) (off sz : Nat) (K : List AV → Option (List AV)) : Option (List AV) := if v.cells.length = sz ∧ v.storable = true ∧ off + sz ≤ cs.length then K (fillAV cs off v.cells) else none
def WPart (v : AV) (cs : List AV) (p : Nat × TypeId) (sz : Nat) (K : List AV → Prop) (_ : Hold (cs, p, sz, K)) : Prop := v.cells.length = sz ∧ v.storable = true ∧ p.1 + sz ≤ cs.length ∧ K (fillAV cs p.1 v.cells)
@[go_sem] theorem WPart_eq {v cs p sz K u} : WPart v cs p sz K u = (v.cells.length = sz ∧ v.storable = true ∧ p.1 + sz ≤ cs.length ∧ K (fillAV cs p.1 v.cells)) := nd rfl
/-- the parts of a struct -/
def WParts (env : Env) (parts : List (Nat × AV)) (fs : List (Nat × TypeId)) (cs : List AV) (K : List AV → Prop) (_ : Hold (fs, cs, K)) : Prop := match buildC env fs cs parts with | some r => K r | none => False
@[go_sem ↓] theorem WParts_nil {fs cs K u} : WParts env [] fs cs K u = K cs := nd rfl
@[go_sem] theorem WParts_cons {i v r fs cs K u} : WParts env ((i, v) :: r) fs cs K u = WOpt fs[i]? (fun p => WOpt (szT env p.2) (fun sz => WPart v cs p sz (fun cs' => WParts env r fs cs' K ()) ()) ()) () := by
  unfold WParts
  rw [buildC]
  cases fs[i]? with
  | none => rfl
  | some p =>
    obtain ⟨off, t⟩ := p
    dsimp only [WOpt, szT]
    cases env.ty t with
    | none => rfl
    | some ti =>
      dsimp only [Option.map]
      simp only [WPart]
      by_cases h : v.cells.length = ti.size ∧ v.storable = true ∧ off + ti.size ≤ cs.length
      · rw [if_pos h]; simp [h]
      · rw [if_neg h]
        exact nd_iff ⟨False.elim, fun ⟨a, b, c, _⟩ => h ⟨a, b, c⟩⟩
@[go_sem] theorem build_eq {t parts u} : WF (buildE env t parts) os n Q u = WOpt (bdT env t) (fun p => WParts env parts p.1 p.2 (fun cs => Q (.agg cs) os n [] []) ()) () := by
  have key : ∀ (x : Option (List AV)), WF (HM.lift (x.map .agg)) os n Q u = match x with | some r => Q (.agg r) os n [] [] | none => False := by
    intro x
    cases x with
    | none => exact WF_lift_none
    | some r => exact WF_lift_some
  unfold buildE bdT
  cases env.ty t with
  | none => exact WF_fail
  | some ti =>
    obtain ⟨d, size, bytes, z⟩ := ti
    cases d <;> cases z <;> try exact WF_fail
    all_goals (rename_i z; cases z <;> try exact WF_fail)
    · rename_i k e cs
      dsimp only
      cases env.ty e with
      | none => exact WF_fail
      | some ei => exact key _
    · exact key _
@[go_sem] theorem bslice_eq {nest t len parts u} : WF (buildSliceE env nest t len parts) os n Q u = WOpt (bsT env t) (fun p => WF (putEs nest (parts.map (·.2))) os n (fun vs os1 n1 f1 w1 => (parts.all (fun q => q.1 < len) = true ∧ fitsL p.1 vs = true ∧ len * p.1 ≤ 16777216 ∧ p.2.cells.length = p.1) ∧
      WNew n1 (.row (setMany (List.replicate len p.2) (parts.map (·.1)) vs) p.1 .mine) os1 (fun i os' => Q (.arr i 0 len len) os' (n1 + 1) (f1 ++ [n1]) (w1 ++ [n1])) ()) ()) () := by
  unfold buildSliceE bsT
  cases esize env t with
  | none => exact WF_fail
  | some p =>
    obtain ⟨e, size⟩ := p
    dsimp only
    cases (env.ty e).bind (·.zero) with
    | none => exact WF_fail
    | some z =>
      dsimp only [Option.map, WOpt]
      rw [WF_bind]
      congr 1
      funext vs os1 n1 f1 w1
      by_cases h : ((parts.all fun p => p.1 < len) && fitsL size vs && decide (len * size ≤ 2 ^ 24) && z.cells.length == size) = true
      · rw [if_pos h]
        simp only [Bool.and_eq_true, decide_eq_true_eq, beq_iff_eq] at h
        rw [eq_true h.1.1.1, eq_true h.1.1.2, eq_true h.1.2, eq_true h.2]
        exact nd_iff (by simp [WF, newOb, HM.bind, HM.runF, WNew])
      · rw [if_neg h, WF_fail]
        simp only [Bool.and_eq_true, decide_eq_true_eq, beq_iff_eq] at h
        exact nd_iff ⟨False.elim, fun ⟨⟨a, b, c, d⟩, _⟩ => h ⟨⟨⟨a, b⟩, c⟩, d⟩⟩
/-! #### reads -/
@[go_sem] theorem load_ptr {t o i u} : WF (loadE env t (.ptr o i)) os n Q u = WVar (obAt os o) (fun e _ => WOpt (partAV env t e i) (fun v => Q v os n [o] []) ()) () := by
  show WF (.get o _) os n Q u = _
  rw [WF_get]
  cases obAt os o with
  | var e s l =>
    show WF (HM.lift (partAV env t e i)) _ _ _ () = WOpt (partAV env t e i) _ ()
    cases partAV env t e i with
    | none => exact WF_lift_none
    | some v => exact WF_lift_some
  | _ => exact WF_fail
@[go_sem] theorem load_ep {t o j i ext u} : WF (loadE env t (.ep o j i ext)) os n Q u = WRow (obAt os o) (fun es _ => ext = es.length ∧ WOpt es[j]? (fun e => WOpt (partAV env t e i) (fun v => Q v os n [o] []) ()) ()) () := by
  show WF (.get o _) os n Q u = _
  rw [WF_get]
  cases obAt os o with
  | row es s l =>
    show WF (if ext = es.length then _ else _) os n _ _ = (_ ∧ _)
    by_cases h : ext = es.length
    · rw [if_pos h, eq_true h, true_and]
      cases es[j]? with
      | none => exact WF_fail
      | some e =>
        show WF (HM.lift (partAV env t e i)) _ _ _ () = WOpt (partAV env t e i) _ ()
        cases partAV env t e i with
        | none => exact WF_lift_none
        | some v => exact WF_lift_some
    · rw [if_neg h, eq_false h, false_and]; exact WF_fail
  | _ => exact WF_fail
@[go_sem] theorem load_fp {t e i u} : WF (loadE env t (.fp e i)) os n Q u = WOpt (partAV env t e i) (fun v => Q v os n [] []) () := by
  show WF (HM.lift (partAV env t e i)) _ _ _ () = _
  cases partAV env t e i with
  | none => exact WF_lift_none
  | some v => exact WF_lift_some
@[go_sem ↓] theorem part_eq {t e i} : partAV env t e i = (match isAggT env t with | some (true, m) => if i + m ≤ e.cells.length then some (.agg ((e.cells.drop i).take m)) else none | some (false, _) => e.cells[i]? | none => none) := nd rfl
/-! #### addresses -/
@[go_sem] theorem fa_ptr {t o i j u} : WF (fieldAddrE env t (.ptr o i) j) os n Q u = WOpt (offT env t j) (fun d => WNat (i + d) (fun i => Q (.ptr o i) os n [] []) ()) () := by
  unfold fieldAddrE offT
  cases env.ty t with
  | none => exact WF_fail
  | some ti =>
    obtain ⟨d, size, bytes, z⟩ := ti
    cases d <;> try exact WF_fail
    rename_i fs
    dsimp only
    cases fs[j]? with
    | none => exact WF_fail
    | some p => exact WF_ret
@[go_sem] theorem fa_ep {t o k i ext j u} : WF (fieldAddrE env t (.ep o k i ext) j) os n Q u = WOpt (offT env t j) (fun d => WNat (i + d) (fun i => Q (.ep o k i ext) os n [] []) ()) () := by
  unfold fieldAddrE offT
  cases env.ty t with
  | none => exact WF_fail
  | some ti =>
    obtain ⟨d, size, bytes, z⟩ := ti
    cases d <;> try exact WF_fail
    rename_i fs
    dsimp only
    cases fs[j]? with
    | none => exact WF_fail
    | some p => exact WF_ret
@[go_sem] theorem fa_fp {t e i j u} : WF (fieldAddrE env t (.fp e i) j) os n Q u = WOpt (offT env t j) (fun d => WNat (i + d) (fun i => Q (.fp e i) os n [] []) ()) () := by
  unfold fieldAddrE offT
  cases env.ty t with
  | none => exact WF_fail
  | some ti =>
    obtain ⟨d, size, bytes, z⟩ := ti
    cases d <;> try exact WF_fail
    rename_i fs
    dsimp only
    cases fs[j]? with
    | none => exact WF_fail
    | some p => exact WF_ret
@[go_sem] theorem field_agg {t cs j u} : WF (fieldE env t (.agg cs) j) os n Q u = WOpt (fldT env t j) (fun p => WOpt (partAV env p.2 (.agg cs) p.1) (fun v => Q v os n [] []) ()) () := by
  unfold fieldE fldT
  cases env.ty t with
  | none => exact WF_fail
  | some ti =>
    obtain ⟨d, size, bytes, z⟩ := ti
    cases d <;> try exact WF_fail
    rename_i fs
    dsimp only
    cases fs[j]? with
    | none => exact WF_fail
    | some p =>
      show WF (HM.lift (partAV env p.2 (.agg cs) p.1)) _ _ _ () = WOpt (partAV env p.2 (.agg cs) p.1) _ ()
      cases partAV env p.2 (.agg cs) p.1 with
      | none => exact WF_lift_none
      | some v => exact WF_lift_some
/-- an element's cells, of a slice type -/
def slT (env : Env) (t : TypeId) : Option Nat := match ixT env t with | some (none, s) => some s | _ => none
def arT (env : Env) (t : TypeId) : Option (Nat × Nat) := match ixT env t with | some (some m, s) => some (m, s) | _ => none
def ixA (x : AV) (m : Nat) : HM AV := match x with
  | .ptr o i => .ret (.ptr o (i + m))
  | .ep o j i ext => .ret (.ep o j (i + m) ext)
  | .fp e i => .ret (.fp e (i + m))
  | _ => .fail
def ixS (x : AV) (j sz : Nat) : HM AV := match x with
  | .sl es => match es[j]? with | some e => if e.cells.length = sz then .ret (.fp e 0) else .fail | none => .fail
  | .lsl es => match es[j]? with | some e => if e.cells.length = sz then .ret (.fp e 0) else .fail | none => .fail
  | .arr o off len ext => .get o fun | .row es s _ => if ext = es.length ∧ off + len ≤ es.length ∧ s = sz ∧ j < len then .ret (.ep o (off + j) 0 ext) else .fail | _ => .fail
  | _ => .fail
theorem ixE_eq {t x k} : indexAddrE env t x k = match asNat k with
    | none => .fail
    | some j => match ixT env t with
      | some (some m, sz) => if j < m then ixA x (j * sz) else .fail
      | some (none, sz) => ixS x j sz
      | none => .fail := by
  unfold indexAddrE ixT
  cases env.ty t with
  | none => cases asNat k <;> rfl
  | some ti =>
    obtain ⟨d, size, bytes, z⟩ := ti
    cases asNat k with
    | none => cases d <;> rfl
    | some j =>
      cases d <;> try rfl
      · rename_i e
        dsimp only
        cases env.ty e <;> cases x <;> rfl
      · rename_i m e
        dsimp only
        cases env.ty e <;> cases x <;> rfl
theorem ix_go {t x k u} {R : Nat → Nat → Prop} {R' : Nat → Nat → Prop} (h : ∀ j sz, WF (ixS x j sz) os n Q u = R j sz) (h' : ∀ m sz, WF (ixA x m) os n Q u = R' m sz) :
    WF (indexAddrE env t x k) os n Q u = WOpt (asNat k) (fun j => WOpt (ixT env t) (fun p => match p with | (none, sz) => R j sz | (some m, sz) => j < m ∧ R' (j * sz) sz) ()) () := by
  rw [ixE_eq]
  cases asNat k with
  | none => exact WF_fail
  | some j =>
    dsimp only [WOpt]
    cases ixT env t with
    | none => exact WF_fail
    | some p =>
      obtain ⟨m, sz⟩ := p
      cases m with
      | none => exact h j sz
      | some m =>
        dsimp only
        by_cases hj : j < m
        · rw [if_pos hj, eq_true hj, true_and]; exact h' _ _
        · rw [if_neg hj, eq_false hj, false_and]; exact WF_fail
theorem ix_sl {t x k u} (hx : ∀ m, ixA x m = .fail) {R : Nat → Nat → Prop} (h : ∀ j sz, WF (ixS x j sz) os n Q u = R j sz) :
    WF (indexAddrE env t x k) os n Q u = WOpt (asNat k) (fun j => WOpt (slT env t) (R j) ()) () := by
  rw [ix_go (R' := fun _ _ => False) h fun m sz => by rw [hx]; exact WF_fail]
  congr 1
  funext j
  unfold slT
  cases ixT env t with
  | none => rfl
  | some p =>
    obtain ⟨m, sz⟩ := p
    cases m with
    | none => rfl
    | some m => exact nd_iff ⟨fun h => h.2, False.elim⟩
theorem ix_ar {t x k u} (hx : ∀ j sz, ixS x j sz = .fail) {R : Nat → Prop} (h : ∀ m, WF (ixA x m) os n Q u = R m) :
    WF (indexAddrE env t x k) os n Q u = WOpt (asNat k) (fun j => WOpt (arT env t) (fun p => j < p.1 ∧ R (j * p.2)) ()) () := by
  rw [ix_go (R := fun _ _ => False) (R' := fun m _ => R m) (fun j sz => by rw [hx]; exact WF_fail) fun m _ => h m]
  congr 1
  funext j
  unfold arT
  cases ixT env t with
  | none => rfl
  | some p =>
    obtain ⟨m, sz⟩ := p
    cases m with
    | none => rfl
    | some m => rfl
@[go_sem] theorem ix_ptr {t o i k u} : WF (indexAddrE env t (.ptr o i) k) os n Q u = WOpt (asNat k) (fun j => WOpt (arT env t) (fun p => j < p.1 ∧ WNat (i + j * p.2) (fun i => Q (.ptr o i) os n [] []) ()) ()) () :=
  ix_ar (R := fun m => WNat (i + m) (fun i => Q (.ptr o i) os n [] []) ()) (fun _ _ => rfl) fun _ => WF_ret
@[go_sem] theorem ix_ep {t o l i ext k u} : WF (indexAddrE env t (.ep o l i ext) k) os n Q u = WOpt (asNat k) (fun j => WOpt (arT env t) (fun p => j < p.1 ∧ WNat (i + j * p.2) (fun i => Q (.ep o l i ext) os n [] []) ()) ()) () :=
  ix_ar (R := fun m => WNat (i + m) (fun i => Q (.ep o l i ext) os n [] []) ()) (fun _ _ => rfl) fun _ => WF_ret
@[go_sem] theorem ix_fp {t e i k u} : WF (indexAddrE env t (.fp e i) k) os n Q u = WOpt (asNat k) (fun j => WOpt (arT env t) (fun p => j < p.1 ∧ WNat (i + j * p.2) (fun i => Q (.fp e i) os n [] []) ()) ()) () :=
  ix_ar (R := fun m => WNat (i + m) (fun i => Q (.fp e i) os n [] []) ()) (fun _ _ => rfl) fun _ => WF_ret
@[go_sem] theorem ix_arr {t o off len ext k u} : WF (indexAddrE env t (.arr o off len ext) k) os n Q u = WOpt (asNat k) (fun j => WOpt (slT env t) (fun sz => WRow (obAt os o) (fun es s => ext = es.length ∧ off + len ≤ es.length ∧ s = sz ∧ j < len ∧ WNat (off + j) (fun j => Q (.ep o j 0 ext) os n [o] []) ()) ()) ()) () := by
  refine ix_sl (R := fun j sz => WRow (obAt os o) (fun es s => ext = es.length ∧ off + len ≤ es.length ∧ s = sz ∧ j < len ∧ WNat (off + j) (fun j => Q (.ep o j 0 ext) os n [o] []) ()) ()) (fun m => rfl) fun j sz => ?_
  show WF (.get o _) os n Q u = _
  rw [WF_get]
  cases obAt os o with
  | row es s l =>
    show WF (if _ then _ else _) _ _ _ _ = (_ ∧ _ ∧ _ ∧ _ ∧ _)
    by_cases h : ext = es.length ∧ off + len ≤ es.length ∧ s = sz ∧ j < len
    · rw [if_pos h, eq_true h.1, eq_true h.2.1, eq_true h.2.2.1, eq_true h.2.2.2, true_and, true_and, true_and, true_and]; exact WF_ret
    · rw [if_neg h, WF_fail]; exact nd_iff ⟨False.elim, fun ⟨a, b, c, d, _⟩ => h ⟨a, b, c, d⟩⟩
  | _ => exact WF_fail
@[go_sem] theorem ix_slice {t es k u} : WF (indexAddrE env t (.sl es) k) os n Q u = WOpt (asNat k) (fun j => WOpt (slT env t) (fun sz => WOpt es[j]? (fun e => e.cells.length = sz ∧ Q (.fp e 0) os n [] []) ()) ()) () := by
  refine ix_sl (R := fun j sz => WOpt es[j]? (fun e => e.cells.length = sz ∧ Q (.fp e 0) os n [] []) ()) (fun m => rfl) fun j sz => ?_
  dsimp only [ixS]
  cases es[j]? with
  | none => exact WF_fail
  | some e =>
    dsimp only [WOpt]
    by_cases h : e.cells.length = sz
    · rw [if_pos h, eq_true h, true_and]; exact WF_ret
    · rw [if_neg h, eq_false h, false_and]; exact WF_fail
@[go_sem] theorem ix_lsl {t es k u} : WF (indexAddrE env t (.lsl es) k) os n Q u = WOpt (asNat k) (fun j => WOpt (slT env t) (fun sz => WOpt es[j]? (fun e => e.cells.length = sz ∧ Q (.fp e 0) os n [] []) ()) ()) () := by
  refine ix_sl (R := fun j sz => WOpt es[j]? (fun e => e.cells.length = sz ∧ Q (.fp e 0) os n [] []) ()) (fun m => rfl) fun j sz => ?_
  dsimp only [ixS]
  cases es[j]? with
  | none => exact WF_fail
  | some e =>
    dsimp only [WOpt]
    by_cases h : e.cells.length = sz
    · rw [if_pos h, eq_true h, true_and]; exact WF_ret
    · rw [if_neg h, eq_false h, false_and]; exact WF_fail
@[go_sem] theorem asNat_pos {k : IntKind} {i : Int} (h : 0 ≤ i) : asNat (.int k i) = some i.toNat := nd (by simp [asNat, h])
/-! #### writes -/
@[go_sem] theorem store_ptr {nest t o i x u} : WF (storeE env nest t (.ptr o i) x) os n Q u = WOpt (szT env t) (fun sz => x.cells.length = sz ∧ x.storable = true ∧ WVarM (obAt os o) (fun e s => i + sz ≤ e.cells.length ∧ WSet (.var (updAV e i x.cells) s .mine) os o (fun os' => Q .und os' n [o, o] [o]) ()) ()) () := by
  unfold storeE szT
  cases env.ty t with
  | none => exact WF_fail
  | some ti =>
    dsimp only [Option.map, WOpt]
    by_cases h : x.cells.length = ti.size ∧ x.storable = true
    · rw [if_pos h, eq_true h.1, eq_true h.2, true_and, true_and]
      rw [WF_get]
      cases obAt os o with
      | var e s l =>
        cases l with
        | mine =>
          show WF (if _ then _ else _) _ _ _ _ = (_ ∧ _)
          by_cases h : i + ti.size ≤ e.cells.length
          · rw [if_pos h, eq_true h, true_and, WF_set, WF_ret]; rfl
          · rw [if_neg h, eq_false h, false_and]; exact WF_fail
        | _ => exact WF_fail
      | _ => exact WF_fail
    · rw [if_neg h, WF_fail]; exact nd_iff ⟨False.elim, fun ⟨a, b, _⟩ => h ⟨a, b⟩⟩
@[go_sem] theorem store_ep {nest t o j i ext x u} : WF (storeE env nest t (.ep o j i ext) x) os n Q u = WOpt (szT env t) (fun sz => x.cells.length = sz ∧ x.storable = true ∧ WF (putE nest x) os n (fun y os1 n1 f1 w1 => WRowM (obAt os1 o) (fun es s => ext = es.length ∧ WOpt es[j]? (fun e => i + sz ≤ e.cells.length ∧ y.cells.length = sz ∧ WSet (.row (es.set j (updAV e i y.cells)) s .mine) os1 o (fun os' => Q .und os' n1 (f1 ++ [o, o]) (w1 ++ [o])) ()) ()) ()) ()) () := by
  unfold storeE szT
  cases env.ty t with
  | none => exact WF_fail
  | some ti =>
    dsimp only [Option.map, WOpt]
    by_cases h : x.cells.length = ti.size ∧ x.storable = true
    · rw [if_pos h, eq_true h.1, eq_true h.2, true_and, true_and]
      rw [WF_bind]
      congr 1
      funext y os1 n1 f1 w1
      rw [WF_get]
      cases obAt os1 o with
      | row es s l =>
        cases l with
        | mine =>
          show WF (if _ then _ else _) _ _ _ _ = (_ ∧ _)
          by_cases h : ext = es.length
          · rw [if_pos h, eq_true h, true_and]
            cases es[j]? with
            | none => exact WF_fail
            | some e =>
              show WF (if _ then _ else _) _ _ _ _ = (_ ∧ _ ∧ _)
              by_cases h : i + ti.size ≤ e.cells.length ∧ y.cells.length = ti.size
              · rw [if_pos h, eq_true h.1, eq_true h.2, true_and, true_and, WF_set, WF_ret]; rfl
              · rw [if_neg h, WF_fail]; exact nd_iff ⟨False.elim, fun ⟨a, b, _⟩ => h ⟨a, b⟩⟩
          · rw [if_neg h, eq_false h, false_and]; exact WF_fail
        | _ => exact WF_fail
      | _ => exact WF_fail
    · rw [if_neg h, WF_fail]; exact nd_iff ⟨False.elim, fun ⟨a, b, _⟩ => h ⟨a, b⟩⟩
end
end Go.V
namespace Go.V
section
variable {env : Env} {os : List Ob} {n : Nat} {Q : AV → List Ob → Nat → List Nat → List Nat → Prop}
/-! #### small ones -/
@[go_sem] theorem nilCheck_ptr {a b u} : WF (nilCheckE (.ptr a b)) os n Q u = Q (.ptr a b) os n [] [] := nd_iff (by simp [nilCheckE, WF, HM.runF])
@[go_sem] theorem nilCheck_ep {a b c d u} : WF (nilCheckE (.ep a b c d)) os n Q u = Q (.ep a b c d) os n [] [] := nd_iff (by simp [nilCheckE, WF, HM.runF])
@[go_sem] theorem nilCheck_fp {a b u} : WF (nilCheckE (.fp a b)) os n Q u = Q (.fp a b) os n [] [] := nd_iff (by simp [nilCheckE, WF, HM.runF])
@[go_sem] theorem nilCheck_fn {a b u} : WF (nilCheckE (.fn a b)) os n Q u = Q (.fn a b) os n [] [] := nd_iff (by simp [nilCheckE, WF, HM.runF])
@[go_sem] theorem extract_eq {vs i u} : WF (extractE (.tup vs) i) os n Q u = WOpt vs[i]? (fun v => Q v os n [] []) () := by
  unfold extractE
  dsimp only
  cases vs[i]? with
  | none => exact WF_fail
  | some v => exact WF_ret
/-! #### arithmetic -/
variable {t : TypeId} {k j : IntKind} {a b : Int}
@[go_sem] theorem bin_add : binE env .add t (.int k a) (.int k b) = some (.int k (k.wrap (a + b))) := nd (by simp [binE, intE])
@[go_sem] theorem bin_sub : binE env .sub t (.int k a) (.int k b) = some (.int k (k.wrap (a - b))) := nd (by simp [binE, intE])
@[go_sem] theorem bin_mul : binE env .mul t (.int k a) (.int k b) = some (.int k (k.wrap (a * b))) := nd (by simp [binE, intE])
@[go_sem] theorem bin_quo (h : b ≠ 0) : binE env .quo t (.int k a) (.int k b) = some (.int k (k.wrap (a.tdiv b))) := nd (by simp [binE, intE, h])
@[go_sem] theorem bin_rem (h : b ≠ 0) : binE env .rem t (.int k a) (.int k b) = some (.int k (a.tmod b)) := nd (by simp [binE, intE, h])
@[go_sem] theorem bin_and : binE env .and t (.int k a) (.int k b) = some (.int k (k.wrap (BitVec.ofInt k.bits a &&& BitVec.ofInt k.bits b).toNat)) := nd (by simp [binE, intE])
@[go_sem] theorem bin_or : binE env .or t (.int k a) (.int k b) = some (.int k (k.wrap (BitVec.ofInt k.bits a ||| BitVec.ofInt k.bits b).toNat)) := nd (by simp [binE, intE])
@[go_sem] theorem bin_shl (h : 0 ≤ b) : binE env .shl t (.int j a) (.int k b) = some (.int j (j.wrap (a * 2 ^ (min b.toNat j.bits)))) := nd (by simp [binE, shiftE, h])
@[go_sem] theorem bin_shr (h : 0 ≤ b) : binE env .shr t (.int j a) (.int k b) = some (.int j (a.fdiv (2 ^ (min b.toNat j.bits)))) := nd (by simp [binE, shiftE, h])
@[go_sem] theorem bin_eql : binE env .eql t (.int k a) (.int k b) = some (.bool (decide (a = b))) := nd (by
  simp only [binE, intE, if_true, Option.some.injEq, AV.bool.injEq]; rw [Bool.eq_iff_iff]; simp)
@[go_sem] theorem bin_neq : binE env .neq t (.int k a) (.int k b) = some (.bool (decide (¬ a = b))) := nd (by
  simp only [binE, intE, if_true, Option.some.injEq, AV.bool.injEq]; rw [Bool.eq_iff_iff]; simp)
@[go_sem] theorem bin_lss : binE env .lss t (.int k a) (.int k b) = some (.bool (decide (a < b))) := nd (by simp [binE, intE])
@[go_sem] theorem bin_leq : binE env .leq t (.int k a) (.int k b) = some (.bool (decide (a ≤ b))) := nd (by simp [binE, intE])
@[go_sem] theorem bin_gtr : binE env .gtr t (.int k a) (.int k b) = some (.bool (decide (b < a))) := nd (by simp [binE, intE])
@[go_sem] theorem bin_geq : binE env .geq t (.int k a) (.int k b) = some (.bool (decide (b ≤ a))) := nd (by simp [binE, intE])
theorem toList_eq_iff {a b : ByteArray} : a.toList = b.toList ↔ a = b := ⟨bytes_eq, fun h => by rw [h]⟩
@[go_sem] theorem bin_seql {a b : ByteArray} : binE env .eql t (.str a) (.str b) = some (.bool (decide (a = b))) := nd (by
  simp only [binE, strE, Option.some.injEq, AV.bool.injEq]; rw [Bool.eq_iff_iff]; simp [toList_eq_iff])
@[go_sem] theorem bin_sneq {a b : ByteArray} : binE env .neq t (.str a) (.str b) = some (.bool (decide (¬ a = b))) := nd (by
  simp only [binE, strE, Option.some.injEq, AV.bool.injEq]; rw [Bool.eq_iff_iff]; simp [toList_eq_iff])
@[go_sem] theorem bin_aeql {xs ys : List AV} : binE env .eql t (.agg xs) (.agg ys) = (eqF env 8 t (.agg xs) (.agg ys)).map .bool := nd rfl
@[go_sem] theorem bin_aneq {xs ys : List AV} : binE env .neq t (.agg xs) (.agg ys) = (eqF env 8 t (.agg xs) (.agg ys)).map fun b => .bool !b := nd rfl
@[go_sem] theorem un_not {b : Bool} : unE .not (.bool b) = some (.bool !b) := nd rfl
@[go_sem] theorem un_neg : unE .neg (.int k a) = some (.int k (k.wrap (0 - a))) := nd rfl
@[go_sem ↓] theorem not_dec {p : Prop} [Decidable p] : (!decide p) = decide (¬ p) := by simp
attribute [go_sem] IntWalk.i8_in IntWalk.i16_in IntWalk.i32_in IntWalk.i64_in IntWalk.u8_in IntWalk.u16_in IntWalk.u32_in IntWalk.u64_in
/-! #### conversions -/
@[go_sem] theorem conv_eq {s d x u} : WF (convE env s d x) os n Q u = (match convK env s d with
  | .toInt k => (match x with | .int _ m => WV (.int k (k.wrap m)) (fun v => Q v os n [] []) () | _ => False)
  | .strStr => (match x with | .str s => Q (.str s) os n [] [] | _ => False)
  | c => WF (match c with
      | .intStr => match x with
        | .int _ n => HM.ret (AV.str (Utf8.encode n))
        | _ => .fail
      | .strRunes => match x with
        | .str s => if (runesOf s).length ≤ 2 ^ 46 then (newOb (.row (runesOf s) 1 .mine)).bind fun o => .ret (.arr o 0 (runesOf s).length (runesOf s).length) else .fail
        | _ => .fail
      | .runesStr => (elemsOf x).bind fun es => match intsOf .i32 es with
        | some ns => .ret (.str (runesBytes ns))
        | none => .fail
      | .bytesStr => (elemsOf x).bind fun es => match intsOf .u8 es with
        | some ns => .ret (.str (bytesBytes ns))
        | none => .fail
      | _ => .fail) os n Q ()) := by
  unfold convE
  cases convK env s d <;> first
    | rfl
    | (cases x <;> first | exact WF_ret | exact WF_fail)
/-! #### elements -/
@[go_sem ↓] theorem elems_sl {α : Type} {es} {g : List AV → HM α} {Q : α → List Ob → Nat → List Nat → List Nat → Prop} {u} : WF ((elemsOf (.sl es)).bind g) os n Q u = WF (g es) os n Q () := nd rfl
@[go_sem ↓] theorem elems_lsl {α : Type} {es} {g : List AV → HM α} {Q : α → List Ob → Nat → List Nat → List Nat → Prop} {u} : WF ((elemsOf (.lsl es)).bind g) os n Q u = WF (g es) os n Q () := nd rfl
@[go_sem ↓] theorem elems_nils {α : Type} {g : List AV → HM α} {Q : α → List Ob → Nat → List Nat → List Nat → Prop} {u} : WF ((elemsOf .nils).bind g) os n Q u = WF (g []) os n Q () := nd rfl
@[go_sem ↓] theorem elems_arr {α : Type} {o off len ext} {g : List AV → HM α} {Q : α → List Ob → Nat → List Nat → List Nat → Prop} {u} : WF ((elemsOf (.arr o off len ext)).bind g) os n Q u =
    WRow (obAt os o) (fun es _ => ext = es.length ∧ off + len ≤ es.length ∧ WF (g ((es.drop off).take len)) os n (fun a os' n' ft wr => Q a os' n' (o :: ft) wr) ()) () := by
  show WF (.get o _) os n Q u = _
  rw [WF_get]
  cases obAt os o with
  | row es s l =>
    show WF (HM.bind (if _ then _ else _) g) _ _ _ () = (_ ∧ _ ∧ _)
    by_cases h : ext = es.length ∧ off + len ≤ es.length
    · rw [if_pos h, eq_true h.1, eq_true h.2, true_and, true_and]; rfl
    · rw [if_neg h]; exact nd_iff ⟨fun h => (by rw [show HM.bind HM.fail g = HM.fail from rfl, WF_fail] at h; exact h.elim), fun ⟨a, b, _⟩ => (h ⟨a, b⟩).elim⟩
  | _ => exact WF_fail
def WIf (p : Prop) (K : Prop) (_ : Hold K) : Prop := p ∧ K
@[go_sem] theorem WIf_eq {p K u} : WIf p K u = (p ∧ K) := nd rfl
theorem WF_if {α : Type} {p : Prop} [Decidable p] {m : HM α} {Q : α → List Ob → Nat → List Nat → List Nat → Prop} {u} : WF (if p then m else .fail) os n Q u = (p ∧ WF m os n Q ()) := by
  by_cases h : p
  · rw [if_pos h, eq_true h, true_and]
  · rw [if_neg h, eq_false h, false_and]; exact WF_fail
/-! #### make, slice -/
@[go_sem] theorem make_eq {t l c u} : WF (makeSliceE env t l c) os n Q u = WOpt (mkT env t) (fun p => WOpt (asNat l) (fun i => WOpt (asNat c) (fun m => i ≤ m ∧ roomOK m p.2.1 = true ∧ p.2.2.cells.length = p.1 ∧
      WNew n (.row (List.replicate i p.2.2) p.1 .mine) os (fun o os' => Q (.arr o 0 i i) os' (n + 1) [n] [n]) ()) ()) ()) () := by
  unfold makeSliceE mkT
  cases esize env t with
  | none => exact WF_fail
  | some p =>
    obtain ⟨e, size⟩ := p
    dsimp only
    cases env.ty e with
    | none => exact WF_fail
    | some ei =>
      dsimp only
      cases ei.zero with
      | none => exact WF_fail
      | some z =>
        cases asNat l with
        | none => exact WF_fail
        | some i =>
          cases asNat c with
          | none => exact WF_fail
          | some m =>
            dsimp only [Option.map, WOpt]
            by_cases h : i ≤ m ∧ roomOK m ei.bytes = true ∧ z.cells.length = size
            · rw [if_pos h, eq_true h.1, eq_true h.2.1, eq_true h.2.2, true_and, true_and, true_and]
              exact nd_iff (by simp [WF, newOb, HM.bind, HM.runF, WNew])
            · rw [if_neg h, WF_fail]; exact nd_iff ⟨False.elim, fun ⟨a, b, c, _⟩ => h ⟨a, b, c⟩⟩
@[go_sem] theorem room_ok {m b : Nat} (h : m * b ≤ 140737488355328 ∧ m ≤ 4611686018427387904) : roomOK m b = true := nd (by
  simp only [roomOK, Bool.and_eq_true, decide_eq_true_eq]; exact h)
@[go_sem] theorem slice_str {t s lo hi u} : WF (sliceE env t (.str s) lo hi) os n Q u = WOpt (asNatD 0 lo) (fun l => isStrT env t = true ∧ WOpt (asNatD s.size hi) (fun h => l ≤ h ∧ h ≤ s.size ∧ WV (.str (s.extract l h)) (fun v => Q v os n [] []) ()) ()) () := by
  unfold sliceE
  cases asNatD 0 lo with
  | none => exact WF_fail
  | some l =>
    dsimp only [WOpt]
    rw [WF_if]
    cases asNatD s.size hi with
    | none => rw [WF_fail]
    | some h =>
      dsimp only
      rw [WF_if, WF_ret, and_assoc]; rfl
@[go_sem] theorem slice_sl {t es lo hi u} : WF (sliceE env t (.sl es) lo hi) os n Q u = WOpt (asNatD 0 lo) (fun l => WOpt (esize env t) (fun p => WOpt (asNatD es.length hi) (fun h => l ≤ h ∧ h ≤ es.length ∧ fitsL p.2 es = true ∧ WV (.sl ((es.drop l).take (h - l))) (fun v => Q v os n [] []) ()) ()) ()) () := by
  unfold sliceE
  cases asNatD 0 lo with
  | none => exact WF_fail
  | some l =>
    dsimp only [WOpt]
    cases esize env t with
    | none => exact WF_fail
    | some p =>
      dsimp only
      cases asNatD es.length hi with
      | none => exact WF_fail
      | some h =>
        dsimp only
        rw [WF_if, WF_ret, and_assoc, and_assoc]; rfl
@[go_sem] theorem slice_lsl {t es lo hi u} : WF (sliceE env t (.lsl es) lo hi) os n Q u = WOpt (asNatD 0 lo) (fun l => WOpt (esize env t) (fun p => WOpt (asNatD es.length hi) (fun h => l ≤ h ∧ h ≤ es.length ∧ fitsL p.2 es = true ∧ WV (.lsl ((es.drop l).take (h - l))) (fun v => Q v os n [] []) ()) ()) ()) () := by
  unfold sliceE
  cases asNatD 0 lo with
  | none => exact WF_fail
  | some l =>
    dsimp only [WOpt]
    cases esize env t with
    | none => exact WF_fail
    | some p =>
      dsimp only
      cases asNatD es.length hi with
      | none => exact WF_fail
      | some h =>
        dsimp only
        rw [WF_if, WF_ret, and_assoc, and_assoc]; rfl
@[go_sem] theorem slice_nils {t lo hi u} : WF (sliceE env t .nils lo hi) os n Q u = WOpt (asNatD 0 lo) (fun l => isSlT env t = true ∧ WOpt (asNatD 0 hi) (fun h => l = 0 ∧ h = 0 ∧ Q .nils os n [] []) ()) () := by
  unfold sliceE
  cases asNatD 0 lo with
  | none => exact WF_fail
  | some l =>
    dsimp only [WOpt]
    rw [WF_if]
    cases asNatD 0 hi with
    | none => rw [WF_fail]
    | some h =>
      dsimp only
      rw [WF_if, WF_ret, and_assoc]
@[go_sem] theorem slice_arr {t o off len ext lo hi u} : WF (sliceE env t (.arr o off len ext) lo hi) os n Q u = WOpt (asNatD 0 lo) (fun l => WOpt (esize env t) (fun p => WOpt (asNatD len hi) (fun h => WRow (obAt os o) (fun es s => ext = es.length ∧ off + len ≤ es.length ∧ s = p.2 ∧ l ≤ h ∧ h ≤ len ∧ WV (.arr o (off + l) (h - l) ext) (fun v => Q v os n [o] []) ()) ()) ()) ()) () := by
  unfold sliceE
  cases asNatD 0 lo with
  | none => exact WF_fail
  | some l =>
    dsimp only [WOpt]
    cases esize env t with
    | none => exact WF_fail
    | some p =>
      dsimp only [subArr]
      rw [WF_get]
      cases hh : asNatD len hi with
      | none =>
        dsimp only
        cases obAt os o <;> exact WF_fail
      | some h =>
        dsimp only
        cases obAt os o with
        | row es s l' =>
          show WF (if _ then _ else _) _ _ _ () = (_ ∧ _ ∧ _ ∧ _ ∧ _ ∧ _)
          rw [WF_if, WF_ret, and_assoc, and_assoc, and_assoc, and_assoc]; rfl
        | _ => exact WF_fail
@[go_sem ↓] theorem asNatD_none {d} : asNatD d none = some d := nd rfl
@[go_sem ↓] theorem asNatD_some {d v} : asNatD d (some v) = asNat v := nd rfl
@[go_sem ↓] theorem map_none' {ρ : Operand → AV} : Option.map ρ none = none := nd rfl
@[go_sem ↓] theorem map_some' {ρ : Operand → AV} {x} : Option.map ρ (some x) = some (ρ x) := nd rfl
/-! #### length -/
@[go_sem] theorem len_str {t s u} : WF (lenE env t (.str s)) os n Q u = (match lenK env t with | .str => WV (.int .i64 s.size) (fun v => Q v os n [] []) () | _ => False) := by
  unfold lenE lenK
  cases env.ty t with
  | none => exact WF_fail
  | some ti => obtain ⟨d, size, bytes, z⟩ := ti; cases d <;> first | exact WF_ret | exact WF_fail
theorem len_go {t x u} {R : Prop} (hx : lenE env t x = match env.ty t with | some { d := .array n _, .. } => .ret (.int .i64 n) | some { d := .slice _, .. } => (lenOf x).bind fun n => .ret (.int .i64 n) | _ => .fail)
    (h : WF ((lenOf x).bind fun n => .ret (.int .i64 n)) os n Q u = R) : WF (lenE env t x) os n Q u = (match lenK env t with | .sl => R | .arr m => Q (.int .i64 m) os n [] [] | _ => False) := by
  rw [hx]
  unfold lenK
  cases env.ty t with
  | none => exact WF_fail
  | some ti => obtain ⟨d, size, bytes, z⟩ := ti; cases d <;> first | exact h | exact WF_ret | exact WF_fail
@[go_sem] theorem len_sl {t es u} : WF (lenE env t (.sl es)) os n Q u = (match lenK env t with | .sl => WV (.int .i64 es.length) (fun v => Q v os n [] []) () | .arr m => Q (.int .i64 m) os n [] [] | _ => False) := len_go rfl WF_ret
@[go_sem] theorem len_lsl {t es u} : WF (lenE env t (.lsl es)) os n Q u = (match lenK env t with | .sl => WV (.int .i64 es.length) (fun v => Q v os n [] []) () | .arr m => Q (.int .i64 m) os n [] [] | _ => False) := len_go rfl WF_ret
@[go_sem] theorem len_nils {t u} : WF (lenE env t .nils) os n Q u = (match lenK env t with | .sl => Q (.int .i64 0) os n [] [] | .arr m => Q (.int .i64 m) os n [] [] | _ => False) := len_go rfl WF_ret
@[go_sem] theorem len_arr {t o off len ext u} : WF (lenE env t (.arr o off len ext)) os n Q u = (match lenK env t with | .sl => WRow (obAt os o) (fun es _ => ext = es.length ∧ off + len ≤ es.length ∧ WV (.int .i64 len) (fun v => Q v os n [o] []) ()) () | .arr m => Q (.int .i64 m) os n [] [] | _ => False) := by
  refine len_go rfl ?_
  show WF (.get o _) os n Q u = _
  rw [WF_get]
  cases obAt os o with
  | row es s l =>
    show WF (HM.bind (if _ then _ else _) _) _ _ _ () = (_ ∧ _ ∧ _)
    by_cases h : ext = es.length ∧ off + len ≤ es.length
    · rw [if_pos h, eq_true h.1, eq_true h.2, true_and, true_and]; exact WF_ret
    · rw [if_neg h]; exact nd_iff ⟨fun h => (by rw [show HM.bind HM.fail _ = HM.fail from rfl, WF_fail] at h; exact h.elim), fun ⟨a, b, _⟩ => (h ⟨a, b⟩).elim⟩
  | _ => exact WF_fail
end
end Go.V
namespace Go.V
/-! ### Putting away, appending, a call's end -/
/-- nothing to be frozen -/
def AV.still1 : AV → Bool
  | .arr .. | .nils => false
  | _ => true
def AV.stillE : AV → Bool
  | .agg cs => cs.all AV.still1
  | v => v.still1
theorem freeze_still {v : AV} (h : v.still1 = true) : freeze v = .ret v := by cases v <;> first | rfl | simp [AV.still1] at h
theorem freezeCs_still : ∀ {cs : List AV}, cs.all AV.still1 = true → freezeCs cs = .ret cs
  | [], _ => rfl
  | c :: cs, h => by
    simp only [List.all_cons, Bool.and_eq_true] at h
    rw [freezeCs, freeze_still h.1, HM.bind, freezeCs_still h.2, HM.bind]
theorem freezeE_still {v : AV} (h : v.stillE = true) : freezeE v = .ret v := by
  cases v with
  | agg cs => rw [freezeE, freezeCs_still h]; rfl
  | _ => first | rfl | simp [AV.stillE, AV.still1] at h
theorem putEs_still : ∀ {es : List AV}, es.all AV.stillE = true → putEs false es = .ret es
  | [], _ => rfl
  | c :: cs, h => by
    simp only [List.all_cons, Bool.and_eq_true] at h
    rw [putEs, show putE false c = freezeE c from rfl, freezeE_still h.1, HM.bind, putEs_still h.2, HM.bind]
theorem putEs_nest : ∀ {es : List AV}, putEs true es = .ret es
  | [] => rfl
  | c :: cs => by rw [putEs, show putE true c = .ret c from rfl, HM.bind, putEs_nest, HM.bind]
section
variable {env : Env} {os : List Ob} {n : Nat} {Q : AV → List Ob → Nat → List Nat → List Nat → Prop} {QL : List AV → List Ob → Nat → List Nat → List Nat → Prop}
@[go_sem ↓] theorem still1_int {k x} : (AV.int k x).still1 = true := nd rfl
@[go_sem ↓] theorem still1_bool {x} : (AV.bool x).still1 = true := nd rfl
@[go_sem ↓] theorem still1_str {x} : (AV.str x).still1 = true := nd rfl
@[go_sem ↓] theorem still1_sl {x} : (AV.sl x).still1 = true := nd rfl
@[go_sem ↓] theorem still1_nilp : AV.nilp.still1 = true := nd rfl
@[go_sem ↓] theorem still1_nilm : AV.nilm.still1 = true := nd rfl
@[go_sem ↓] theorem still1_nilf : AV.nilf.still1 = true := nd rfl
@[go_sem ↓] theorem still1_fn {a b} : (AV.fn a b).still1 = true := nd rfl
@[go_sem ↓] theorem still1_arr {a b c d} : (AV.arr a b c d).still1 = false := nd rfl
@[go_sem ↓] theorem still1_nils : AV.nils.still1 = false := nd rfl
@[go_sem ↓] theorem stillE_agg {cs} : (AV.agg cs).stillE = cs.all AV.still1 := nd rfl
@[go_sem ↓] theorem stillE_int {k x} : (AV.int k x).stillE = true := nd rfl
@[go_sem ↓] theorem stillE_bool {x} : (AV.bool x).stillE = true := nd rfl
@[go_sem ↓] theorem stillE_str {x} : (AV.str x).stillE = true := nd rfl
@[go_sem ↓] theorem stillE_sl {x} : (AV.sl x).stillE = true := nd rfl
@[go_sem ↓] theorem stillE_nilp : AV.nilp.stillE = true := nd rfl
@[go_sem ↓] theorem stillE_arr {a b c d} : (AV.arr a b c d).stillE = false := nd rfl
@[go_sem ↓] theorem stillE_nils : AV.nils.stillE = false := nd rfl
@[go_sem ↓] theorem stillE_ints {k} {ns : List Int} : (ns.map (AV.int k)).all AV.stillE = true := nd (by simp [AV.stillE, AV.still1])
def WPut1 (nest b : Bool) (v : AV) (os : List Ob) (n : Nat) (Q : AV → List Ob → Nat → List Nat → List Nat → Prop) (_ : Hold (os, n, Q)) : Prop := if (nest || b) = true then Q v os n [] [] else WF (freezeE v) os n Q ()
@[go_sem] theorem WPut1_still {nest v u} : WPut1 nest true v os n Q u = Q v os n [] [] := nd_iff (by simp [WPut1])
@[go_sem] theorem WPut1_nest {b v u} : WPut1 true b v os n Q u = Q v os n [] [] := nd_iff (by simp [WPut1])
@[go_sem] theorem WPut1_not {v u} : WPut1 false false v os n Q u = WF (freezeE v) os n Q () := nd_iff (by simp [WPut1])
@[go_sem] theorem put1_eq {nest v u} : WF (putE nest v) os n Q u = WPut1 nest v.stillE v os n Q () := by
  unfold WPut1
  cases nest with
  | true => exact WF_ret
  | false =>
    by_cases h : v.stillE = true
    · rw [if_pos (by simp [h]), show putE false v = freezeE v from rfl, freezeE_still h]; exact WF_ret
    · rw [if_neg (by simp [h])]; rfl
def WPuts (nest b : Bool) (vs : List AV) (os : List Ob) (n : Nat) (Q : List AV → List Ob → Nat → List Nat → List Nat → Prop) (_ : Hold (os, n, Q)) : Prop := if (nest || b) = true then Q vs os n [] [] else WF (putEs false vs) os n Q ()
@[go_sem] theorem WPuts_still {nest v u} : WPuts nest true v os n QL u = QL v os n [] [] := nd_iff (by simp [WPuts])
@[go_sem] theorem WPuts_nest {b v u} : WPuts true b v os n QL u = QL v os n [] [] := nd_iff (by simp [WPuts])
@[go_sem] theorem WPuts_not {v vs u} : WPuts false false (v :: vs) os n QL u = WF (putE false v) os n (fun y os1 n1 f1 w1 => WF (putEs false vs) os1 n1 (fun ys os2 n2 f2 w2 => QL (y :: ys) os2 n2 (f1 ++ (f2 ++ [])) (w1 ++ (w2 ++ []))) ()) () := by
  unfold WPuts
  rw [if_neg (by simp), putEs, WF_bind]
  congr 1
  funext y os1 n1 f1 w1
  rw [WF_bind]
  congr 1
  funext ys os2 n2 f2 w2
  exact WF_ret
@[go_sem] theorem puts_eq {nest vs u} : WF (putEs nest vs) os n QL u = WPuts nest (vs.all AV.stillE) vs os n QL () := by
  unfold WPuts
  cases nest with
  | true => rw [putEs_nest, WF_ret, if_pos (by simp)]
  | false =>
    by_cases h : vs.all AV.stillE = true
    · rw [if_pos (by simp [h]), putEs_still h]; exact WF_ret
    · rw [if_neg (by simp only [h, Bool.or_false]; decide)]
@[go_sem] theorem src_sl {nest es u} : WF (srcE nest (.sl es)) os n QL u = WF (putEs nest es) os n QL () := nd rfl
@[go_sem] theorem src_lsl {nest es u} : WF (srcE nest (.lsl es)) os n QL u = WF (putEs nest es) os n QL () := nd rfl
@[go_sem] theorem src_nils {nest u} : WF (srcE nest .nils) os n QL u = QL [] os n [] [] := WF_ret
@[go_sem] theorem src_arr {nest o off len ext u} : WF (srcE nest (.arr o off len ext)) os n QL u = WRow (obAt os o) (fun es _ => ext = es.length ∧ off + len ≤ es.length ∧ WF (putEs nest ((es.drop off).take len)) os n (fun a os' n' ft wr => QL a os' n' (o :: ft) wr) ()) () := elems_arr
/-! #### freezing -/
@[go_sem] theorem fzEs_nil : fzEs [] = some [] := nd rfl
@[go_sem] theorem fzEs_cons {v vs} : fzEs (v :: vs) = (fzE v).bind fun v' => (fzEs vs).map (v' :: ·) := nd (by
  rw [fzEs]; cases fzE v <;> cases fzEs vs <;> rfl)
@[go_sem ↓] theorem fzE_agg {cs} : fzE (.agg cs) = (fzCs cs).map .agg := nd rfl
@[go_sem ↓] theorem fzE_int {k x} : fzE (.int k x) = some (.int k x) := nd rfl
@[go_sem ↓] theorem fzE_bool {x} : fzE (.bool x) = some (.bool x) := nd rfl
@[go_sem ↓] theorem fzE_str {x} : fzE (.str x) = some (.str x) := nd rfl
@[go_sem ↓] theorem fzE_nils : fzE .nils = some (.sl []) := nd rfl
@[go_sem] theorem fzE_sl {es} : fzE (.sl es) = if AV.clsL es = true then some (.sl es) else none := nd rfl
@[go_sem] theorem fzCs_nil : fzCs [] = some [] := nd rfl
@[go_sem] theorem fzCs_cons {v vs} : fzCs (v :: vs) = (fzC v).bind fun v' => (fzCs vs).map (v' :: ·) := nd (by
  rw [fzCs]; cases fzC v <;> cases fzCs vs <;> rfl)
@[go_sem ↓] theorem fzC_int {k x} : fzC (.int k x) = some (.int k x) := nd rfl
@[go_sem ↓] theorem fzC_bool {x} : fzC (.bool x) = some (.bool x) := nd rfl
@[go_sem ↓] theorem fzC_str {x} : fzC (.str x) = some (.str x) := nd rfl
@[go_sem ↓] theorem fzC_nils : fzC .nils = some (.sl []) := nd rfl
@[go_sem ↓] theorem fzC_nilp : fzC .nilp = some .nilp := nd rfl
@[go_sem] theorem fzC_sl {es} : fzC (.sl es) = if AV.clsL es = true then some (.sl es) else none := nd rfl
@[go_sem ↓] theorem clsL_ints {k} : ∀ {ns : List Int}, AV.clsL (ns.map (AV.int k)) = true
  | [] => rfl
  | n :: ns => by rw [List.map_cons, clsL_cons, clsL_ints]; rfl
@[go_sem ↓] theorem fzEs_ints {k} : ∀ {ns : List Int}, fzEs (ns.map (AV.int k)) = some (ns.map (AV.int k))
  | [] => rfl
  | n :: ns => by rw [List.map_cons, fzEs_cons, fzEs_ints]; rfl
@[go_sem ↓] theorem clsL_nil' : AV.clsL [] = true := nd rfl
@[go_sem ↓] theorem clsL_cons' {v vs} : AV.clsL (v :: vs) = (v.cls && AV.clsL vs) := nd clsL_cons
@[go_sem ↓] theorem cls_int {k x} : (AV.int k x).cls = true := nd rfl
@[go_sem ↓] theorem cls_bool {x} : (AV.bool x).cls = true := nd rfl
@[go_sem ↓] theorem cls_str {x} : (AV.str x).cls = true := nd rfl
@[go_sem ↓] theorem cls_sl {es} : (AV.sl es).cls = AV.clsL es := nd (by rw [AV.cls])
@[go_sem ↓] theorem cls_agg {es} : (AV.agg es).cls = AV.clsL es := nd (by rw [AV.cls])
@[go_sem ↓] theorem cls_nils : AV.nils.cls = true := nd rfl
@[go_sem ↓] theorem cls_nilp : AV.nilp.cls = true := nd rfl
@[go_sem ↓] theorem cls_nilm : AV.nilm.cls = true := nd rfl
@[go_sem ↓] theorem cls_nilf : AV.nilf.cls = true := nd rfl
def WRowL (b : Ob) (K : List AV → Nat → Lk → Prop) (_ : Hold K) : Prop := match b with | .row es s lk => K es s lk | _ => False
@[go_sem] theorem WRowL_eq {es s lk K u} : WRowL (.row es s lk) K u = K es s lk := nd rfl
noncomputable def freezeN (o off len ext : Nat) : HM AV := freeze (.arr o off len ext)
def isLent : Lk → Bool | .lent => true | _ => false
@[go_sem ↓] theorem isLent_mine : isLent .mine = false := nd rfl
@[go_sem ↓] theorem isLent_frozen : isLent .frozen = false := nd rfl
@[go_sem] theorem freeze_arr {o off len ext u} : WF (freeze (.arr o off len ext)) os n Q u = WRowL (obAt os o) (fun es s lk => WOr (fzEs es) (fun fs => ext = es.length ∧ off + len ≤ es.length ∧ isLent lk = false ∧ WSet (.row fs s .frozen) os o (fun os' => Q (.sl ((fs.drop off).take len)) os' n [o, o, o] [o]) ()) (WF (freezeN o off len ext) os n Q ()) ()) () := by
  show WF ((deepen o).bind fun _ => giveUp o off len ext) os n Q u = _
  cases hob : obAt os o with
  | row es s lk =>
    show _ = WOr _ _ _ ()
    cases hf : fzEs es with
    | none => rfl
    | some fs =>
      show _ = (_ ∧ _ ∧ _ ∧ _)
      rw [WF_bind]
      have hd : WF (deepen o) os n (fun a os1 n1 f1 w1 => WF (giveUp o off len ext) os1 n1 (fun b os2 n2 f2 w2 => Q b os2 n2 (f1 ++ f2) (w1 ++ w2)) ()) () = WF (giveUp o off len ext) os n (fun b os2 n2 f2 w2 => Q b os2 n2 (o :: f2) w2) () := by
        unfold deepen
        rw [WF_get, hob]
        cases lk with
        | mine =>
          show WF (if isData es = true then _ else _) _ _ _ () = _
          rw [if_pos (by simp [isData, hf]), WF_ret]; rfl
        | frozen => show WF (HM.ret ()) _ _ _ () = _; rw [WF_ret]; rfl
        | lent => show WF (HM.ret ()) _ _ _ () = _; rw [WF_ret]; rfl
      rw [hd]
      unfold giveUp
      rw [WF_get, hob]
      show WF (if _ then (match fzEs es with | some fs => _ | none => _) else _) _ _ _ () = _
      rw [hf]
      show WF (if ext = es.length ∧ off + len ≤ es.length ∧ lk ≠ .lent then HM.set o (.row fs s .frozen) (.ret (AV.sl ((fs.drop off).take len))) else .fail) _ _ _ () = _
      rw [WF_if, WF_set, WF_ret, and_assoc, and_assoc]
      have : (lk ≠ .lent) = (isLent lk = false) := by cases lk <;> simp [isLent]
      rw [this]; rfl
  | _ => unfold deepen; rw [WF_bind, WF_get, hob]; show WF (HM.ret ()) _ _ _ () = _; rw [WF_ret]; unfold giveUp; rw [WF_get, hob]; exact WF_fail
@[go_sem] theorem freezeE_arr {o off len ext u} : WF (freezeE (.arr o off len ext)) os n Q u = WF (freeze (.arr o off len ext)) os n Q () := nd rfl
@[go_sem] theorem freezeE_nils {u} : WF (freezeE .nils) os n Q u = Q (.sl []) os n [] [] := WF_ret
@[go_sem] theorem freeze_nils {u} : WF (freeze .nils) os n Q u = Q (.sl []) os n [] [] := WF_ret
@[go_sem] theorem freezeE_agg {cs u} : WF (freezeE (.agg cs)) os n Q u = WF (freezeCs cs) os n (fun cs os' n' ft wr => Q (.agg cs) os' n' (ft ++ []) (wr ++ [])) () := by
  show WF ((freezeCs cs).bind fun cs => .ret (.agg cs)) os n Q u = _
  rw [WF_bind]
  congr 1
  funext a b c d e
  exact WF_ret
def WFc (b : Bool) (v : AV) (os : List Ob) (n : Nat) (Q : AV → List Ob → Nat → List Nat → List Nat → Prop) (_ : Hold (os, n, Q)) : Prop := if b = true then Q v os n [] [] else WF (freeze v) os n Q ()
@[go_sem] theorem WFc_true {v u} : WFc true v os n Q u = Q v os n [] [] := nd rfl
@[go_sem] theorem WFc_false {v u} : WFc false v os n Q u = WF (freeze v) os n Q () := nd_iff (by simp [WFc])
@[go_sem] theorem freezeCs_nil {u} : WF (freezeCs []) os n QL u = QL [] os n [] [] := WF_ret
@[go_sem] theorem freezeCs_cons {v vs u} : WF (freezeCs (v :: vs)) os n QL u = WFc v.still1 v os n (fun y os1 n1 f1 w1 => WF (freezeCs vs) os1 n1 (fun ys os2 n2 f2 w2 => QL (y :: ys) os2 n2 (f1 ++ (f2 ++ [])) (w1 ++ (w2 ++ []))) ()) () := by
  rw [freezeCs, WF_bind]
  have : ∀ Q', WF (freeze v) os n Q' () = WFc v.still1 v os n Q' () := by
    intro Q'
    unfold WFc
    split
    · rename_i h; rw [freeze_still h]; exact WF_ret
    · rfl
  rw [this]
  congr 1
  funext y os1 n1 f1 w1
  rw [WF_bind]
  congr 1
  funext ys os2 n2 f2 w2
  exact WF_ret
/-! #### append, copy -/
@[go_sem] theorem append_nils {t xs u} : WF (appendE env t .nils xs) os n Q u = WOpt (apT env t) (fun p => fitsL p.1 xs = true ∧ roomOK xs.length p.2 = true ∧ WNew n (.row xs p.1 .mine) os (fun o os' => Q (.arr o 0 xs.length xs.length) os' (n + 1) [n] [n]) ()) () := by
  unfold appendE apT
  cases esize env t with
  | none => exact WF_fail
  | some p =>
    obtain ⟨e, size⟩ := p
    dsimp only
    cases env.ty e with
    | none => exact WF_fail
    | some ei =>
      dsimp only
      cases hz : zeroFits size ei.zero with
      | false => rw [if_neg (by simp), if_neg (by simp)]; exact WF_fail
      | true =>
        rw [if_pos rfl]
        show _ = (_ ∧ _ ∧ _)
        by_cases h : fitsL size xs = true
        · rw [if_pos (by simp [h]), eq_true h, true_and]
          show WF (if roomOK xs.length ei.bytes = true then _ else _) _ _ _ _ = _
          rw [WF_if]
          congr 1
          exact nd_iff (by simp [WF, newOb, HM.bind, HM.runF, WNew])
        · rw [if_neg (by simp [h]), eq_false h, false_and]; exact WF_fail
@[go_sem] theorem append_arr {t o len ext xs u} : WF (appendE env t (.arr o 0 len ext) xs) os n Q u = WOpt (apT env t) (fun p => fitsL p.1 xs = true ∧ WRowM (obAt os o) (fun es sz => ext = es.length ∧ len ≤ es.length ∧ sz = p.1 ∧ roomOK (len + xs.length) p.2 = true ∧
      WSet (.row (es.take len ++ xs ++ es.drop (len + xs.length)) p.1 .mine) os o (fun os' => WNat (es.take len ++ xs ++ es.drop (len + xs.length)).length (fun m => WV (.arr o 0 (len + xs.length) m) (fun v => Q v os' n [o, o] [o]) ()) ()) ()) ()) () := by
  unfold appendE apT
  cases esize env t with
  | none => exact WF_fail
  | some p =>
    obtain ⟨e, size⟩ := p
    dsimp only
    cases env.ty e with
    | none => exact WF_fail
    | some ei =>
      dsimp only
      cases hz : zeroFits size ei.zero with
      | false => rw [if_neg (by simp), if_neg (by simp)]; exact WF_fail
      | true =>
        rw [if_pos rfl]
        show _ = (_ ∧ _)
        by_cases h : fitsL size xs = true
        · rw [if_pos (by simp [h]), eq_true h, true_and]
          show WF (HM.get o _) os n Q u = _
          rw [WF_get]
          cases obAt os o with
          | row es sz l =>
            cases l with
            | mine =>
              show WF (if _ then _ else _) _ _ _ _ = (_ ∧ _ ∧ _ ∧ _ ∧ _)
              rw [WF_if, WF_set, WF_ret, and_assoc, and_assoc, and_assoc]; rfl
            | _ => exact WF_fail
          | _ => exact WF_fail
        · rw [if_neg (by simp [h]), eq_false h, false_and]; exact WF_fail
@[go_sem] theorem fitsL_nil {s} : fitsL s [] = true := nd rfl
@[go_sem] theorem fitsL_cons {s v vs} : fitsL s (v :: vs) = (v.cells.length == s && v.storable && fitsL s vs) := nd rfl
@[go_sem ↓] theorem fitsL_ints {k} {ns : List Int} : fitsL 1 (ns.map (AV.int k)) = true := nd (by simp [fitsL, AV.cells, AV.storable])
end
end Go.V
