/-
  Maps, conversions, calls: the evaluator agrees with the machine.
-/
import Derived.Test.YtbehbnmljjndiaaGreatDoorV3
import Derived.MapKept
import Derived.Laws.BytesString
import Derived.Laws.IdiomStrings
set_option linter.unusedVariables false
set_option linter.unusedSimpArgs false
namespace Go.V
section
variable {P : Program} {env : Env} {w w' : World} {m m' : Emb} {os os' : List Ob}

theorem zero_RV {z : AV} {v : Value} (h : zeroRel z v) : RV w m os z v := by
  cases z with
  | agg cs =>
    have h1 := zero_RVC (w := w) (m := m) (os := os) h
    obtain ⟨vs, rfl, _, _⟩ := h
    obtain ⟨h2, h3⟩ := RVC_agg.1 h1
    exact RV_agg.2 ⟨vs, rfl, h2, h3⟩
  | _ =>
    obtain ⟨h1, h2⟩ := h
    have h3 := (ofConst_RV (w := w) (m := m) (os := os) (v := v) (by rw [← h1]; exact h2)).1
    rw [← h1] at h3
    exact h3

theorem mapT_ok (ok : EnvOK P env) {t e : TypeId} {k : AV} {kv : Value} (hk : RV w m os k kv) (h : mapT env t k = some e) : ∃ kt d, P.underlying t = some (.map kt e) ∧ P.underlying kt = some d ∧ MapKept.IsKey d kv := by
  unfold mapT at h
  split at h
  · rename_i kt e' s b z hti
    obtain ⟨_, _, _, _, hu, _⟩ := ok.ty t _ hti
    cases hki : env.ty kt with
    | none => rw [hki] at h; simp at h
    | some ki =>
      rw [hki] at h
      dsimp only at h
      split at h
      case isFalse => simp at h
      rename_i hkt
      simp only [Option.some.injEq] at h
      subst h
      obtain ⟨_, _, _, _, hku, _⟩ := ok.ty kt _ hki
      unfold keyT at hkt
      split at hkt
      · rename_i hd
        simp only [beq_iff_eq] at hkt
        subst hkt
        rw [hd] at hku
        simp only [RV] at hk; subst hk
        exact ⟨kt, _, hu, hku, rfl⟩
      · rename_i hd
        rw [hd] at hku
        simp only [RV] at hk; subst hk
        exact ⟨kt, _, hu, hku, trivial⟩
      · rename_i hd
        rw [hd] at hku
        simp only [RV] at hk; subst hk
        exact ⟨kt, _, hu, hku, trivial⟩
      · simp at hkt
  · simp at h
theorem zeroT_ok (ok : EnvOK P env) {e : TypeId} {z : AV} (h : zeroT env e = some z) : ∃ v, (zeroValue e).run P w = .ok v w ∧ RV w m os z v := by
  unfold zeroT at h
  cases he : env.ty e with
  | none => rw [he] at h; simp at h
  | some ei =>
    rw [he] at h
    obtain ⟨inf, g1, _, _, _, g5⟩ := ok.ty e _ he
    obtain ⟨v, g6, g7⟩ := g5 z h
    exact ⟨v, by simp [zeroValue, typeInfo, g1, g6], zero_RV g7⟩

theorem eqK_ok {d : TypeDesc} {a b : AV} {av bv : Value} {c : Bool} (ha : RV w m os a av) (hb : RV w m os b bv) (hd : MapKept.IsKey d av) (h : eqK a b = some c) : Instr.sameNow d av bv = some c ∧ (c = true → a = b) := by
  unfold eqK at h
  split at h
  · split at h
    · rename_i hjk
      subst hjk
      simp only [Option.some.injEq] at h
      subst h
      simp only [RV] at ha hb
      subst ha hb
      cases d <;> first
        | exact hd.elim
        | (refine ⟨by simp [Instr.sameNow], fun h => by rw [eq_of_beq h]⟩)
    · simp at h
  · simp only [Option.some.injEq] at h
    subst h
    simp only [RV] at ha hb
    subst ha hb
    cases d <;> first
      | exact hd.elim
      | (refine ⟨by simp [Instr.sameNow], fun h => by rw [eq_of_beq h]⟩)
  · simp only [Option.some.injEq] at h
    subst h
    simp only [RV] at ha hb
    subst ha hb
    cases d <;> first
      | exact hd.elim
      | (refine ⟨by simp [Instr.sameNow], fun h => by rw [(MapKept.bytes_beq _ _).1 h]⟩)
  · simp at h

theorem ROM_get : ∀ {ents : List (AV × AV)} {es : List MapEntry} {j : Nat} {k v : AV}, ROM w m os ents es → ents[j]? = some (k, v) → ∃ me, es[j]? = some me ∧ RV w m os k me.key ∧ RV w m os v me.val
  | [], _, _, _, _, _, h => by simp at h
  | (k', v') :: r, _, 0, k, v, ⟨me, rest, rfl, _, h1, h2, _⟩, h => by
    simp only [List.getElem?_cons_zero, Option.some.injEq, Prod.mk.injEq] at h
    obtain ⟨rfl, rfl⟩ := h
    exact ⟨me, rfl, h1, h2⟩
  | _ :: r, _, j + 1, k, v, ⟨me, rest, rfl, _, _, _, h3⟩, h => by
    simp only [List.getElem?_cons_succ] at h ⊢
    exact ROM_get h3 h
theorem ROM_length : ∀ {ents : List (AV × AV)} {es : List MapEntry}, ROM w m os ents es → es.length = ents.length
  | [], _, h => by rw [ROM] at h; subst h; rfl
  | _ :: _, _, ⟨me, rest, rfl, _, _, _, h⟩ => by simp [ROM_length h]
theorem ROM_push {k v : AV} {me : MapEntry} (hk : isKey k = true) (h1 : RV w m os k me.key) (h2 : RV w m os v me.val) : ∀ {ents : List (AV × AV)} {es : List MapEntry}, ROM w m os ents es → ROM w m os (ents ++ [(k, v)]) (es ++ [me])
  | [], _, h => by rw [ROM] at h; subst h; exact ⟨me, [], rfl, hk, h1, h2, rfl⟩
  | (_, _) :: _, _, ⟨me', rest, rfl, g1, g2, g3, h⟩ => ⟨me', _, rfl, g1, g2, g3, ROM_push hk h1 h2 h⟩
theorem ROM_set {k v : AV} {me : MapEntry} (hk : isKey k = true) (h1 : RV w m os k me.key) (h2 : RV w m os v me.val) : ∀ {ents : List (AV × AV)} {es : List MapEntry} (j : Nat), ROM w m os ents es → ROM w m os (ents.set j (k, v)) (es.set j me)
  | [], _, _, h => by rw [ROM] at h; subst h; rw [List.set_nil, List.set_nil, ROM]
  | (_, _) :: _, _, 0, ⟨me', rest, rfl, g1, g2, g3, h⟩ => ⟨me, rest, rfl, hk, h1, h2, h⟩
  | (_, _) :: _, _, j + 1, ⟨me', rest, rfl, g1, g2, g3, h⟩ => ⟨me', _, rfl, g1, g2, g3, ROM_set hk h1 h2 j h⟩

theorem findK_ok {d : TypeDesc} {k : AV} {kv : Value} (hk : RV w m os k kv) (hd : MapKept.IsKey d kv) : ∀ {ents : List (AV × AV)} {es : List MapEntry} {i : Nat} {r : Option (Nat × AV)}, ROM w m os ents es → findK k i ents = some r →
    (r = none ∧ Instr.findNow d kv es i = some none) ∨
      ∃ j v me, r = some (i + j, v) ∧ ents[j]? = some (k, v) ∧ es[j]? = some me ∧ me.key = kv ∧ RV w m os v me.val ∧ Instr.findNow d kv es i = some (some (i + j, me.val))
  | [], es, i, r, h, hf => by
    rw [ROM] at h; subst h
    simp only [findK, Option.some.injEq] at hf
    exact .inl ⟨hf.symm, rfl⟩
  | (k', v') :: ents, _, i, r, ⟨me, rest, rfl, g1, g2, g3, h⟩, hf => by
    rw [findK] at hf
    cases he : eqK k k' with
    | none => rw [he] at hf; simp at hf
    | some c =>
      rw [he] at hf
      obtain ⟨q1, q2⟩ := eqK_ok hk g2 hd he
      cases c with
      | true =>
        simp only [Option.some.injEq] at hf
        subst hf
        have := q2 rfl
        subst this
        have hkv : me.key = kv := by
          cases k <;> simp only [eqK, reduceCtorEq] at he <;> simp only [RV] at hk g2 <;> rw [g2, hk]
        exact .inr ⟨0, v', me, rfl, rfl, rfl, hkv, g3, by simp [Instr.findNow, q1]⟩
      | false =>
        dsimp only at hf
        rcases findK_ok hk hd h hf with ⟨p1, p2⟩ | ⟨j, v, me', p1, p2, p3, p4, p5, p6⟩
        · exact .inl ⟨p1, by simp [Instr.findNow, q1, p2]⟩
        · refine .inr ⟨j + 1, v, me', by rw [p1]; congr 2; omega, p2, p3, p4, p5, ?_⟩
          simp only [Instr.findNow, q1, p6]
          congr 3; omega

theorem okV_RV {ok b : Bool} {a : AV} {v : Value} (h : RV w m os a v) : RV w m os (okV ok b a) (if ok then .tuple #[v, .bool b] else v) := by
  cases ok with
  | false => exact h
  | true =>
    show RV w m os (.tup [a, .bool b]) _
    simp only [RV]
    exact ⟨_, rfl, RVL_cons.2 ⟨v, _, rfl, h, RVL_cons.2 ⟨.bool b, [], rfl, by simp only [RV], by rw [RVL]⟩⟩⟩

theorem lookupE_ok (ok : EnvOK P env) (r : ORel env w m os) {t : TypeId} {x k : AV} {xv kv : Value} {co : Bool} (hx : RV w m os x xv) (hk : RV w m os k kv) :
    Does P env w m os (lookupE env t x k co) (Instr.lookup t xv kv co) := by
  unfold lookupE
  cases hm : mapT env t k with
  | none => exact Does.fail
  | some e =>
    obtain ⟨kt, d, hu, hku, hik⟩ := mapT_ok ok hk hm
    dsimp only
    cases hz : zeroT env e with
    | none => exact Does.fail
    | some z =>
      obtain ⟨zv, z1, z2⟩ := zeroT_ok (P := P) (w := w) (m := m) (os := os) ok hz
      dsimp only
      have hck := fun e => MapKept.run_checkKey (P := P) (w := w) hku hik e 9999
      split
      · simp only [RV] at hx
        subst hx
        refine Does.ret r ?_ (okV_RV z2)
        have hf := MapKept.run_findKey (P := P) (w := w) (l := []) (k := kv) (a := none) hku rfl
        simp only [Instr.lookup, Sem.run_bind, run_underlying hu, Result.andThen_ok, Sem.run_pure, hck, hf, z1]
      · rename_i o
        refine Does.look r fun n a os' n' hr => ?_
        simp only [RV] at hx
        obtain ⟨_, hx⟩ := hx
        have hro := r.obs o
        simp only [HM.runAt] at hr
        cases hob : obAt os o with
        | map ents lk =>
          rw [hob] at hx hr hro
          obtain ⟨b, h1, rfl⟩ := hx
          obtain ⟨b', es, clock, h2, h3, h4, _⟩ := hro
          rw [h1] at h2; injection h2 with h2; subst h2
          have hg := MapKept.run_getObj_map (P := P) h3
          dsimp only at hr
          cases hf : findK k 0 ents with
          | none => rw [hf] at hr; simp [HM.runAt] at hr
          | some fr =>
            rw [hf] at hr
            rcases findK_ok hk hik h4 hf with ⟨rfl, p2⟩ | ⟨j, v, me, rfl, p2, p3, p4, p5, p6⟩
            · simp only [HM.runAt, Option.some.injEq, Prod.mk.injEq] at hr
              obtain ⟨rfl, rfl, rfl⟩ := hr
              refine ⟨rfl, rfl, _, ?_, okV_RV z2⟩
              have hf := MapKept.run_findKey (P := P) (w := w) hku p2
              simp only [Instr.lookup, Sem.run_bind, run_underlying hu, Result.andThen_ok, Sem.run_pure, hg, hck, hf, z1]
            · simp only [HM.runAt, Option.some.injEq, Prod.mk.injEq] at hr
              obtain ⟨rfl, rfl, rfl⟩ := hr
              refine ⟨rfl, rfl, _, ?_, okV_RV p5⟩
              have hf := MapKept.run_findKey (P := P) (w := w) hku p6
              simp only [Instr.lookup, Sem.run_bind, run_underlying hu, Result.andThen_ok, Sem.run_pure, hg, hck, hf]
        | _ => rw [hob] at hr; simp [HM.runAt] at hr
      · exact Does.fail

/-- The world with a map turned. -/
def World.setMap (w : World) (b : Nat) (es : Array MapEntry) (clock : Nat) : World := { w with heap := w.heap.setIfInBounds b (.map es clock) }
theorem setMap_at {b : Nat} {x : Obj} {es : Array MapEntry} {clock : Nat} (h : w.heap[b]? = some x) : (World.setMap w b es clock).heap[b]? = some (.map es clock) := (MapKept.heap_set h).1
theorem setMap_other {b c : Nat} {es : Array MapEntry} {clock : Nat} (h : c ≠ b) : (World.setMap w b es clock).heap[c]? = w.heap[c]? := by
  show (w.heap.setIfInBounds b _)[c]? = _
  rw [Array.getElem?_setIfInBounds_ne (Ne.symm h)]
theorem setMap_size {b : Nat} {es : Array MapEntry} {clock : Nat} : (World.setMap w b es clock).heap.size = w.heap.size := Array.size_setIfInBounds

theorem write_map (r : ORel env w m os) {o b n : Nat} {es es' : Array MapEntry} {clock clock' : Nat} {ents ents' : List (AV × AV)} (hob : obAt os o = .map ents .mine) (hown : m.own b = .mine o) (hblk : m.blk o = some b)
    (hb : w.heap[b]? = some (.map es clock)) (hgo : ∀ (j : Nat) (me : MapEntry), es[j]? = some me → ∃ me', es'[j]? = some me' ∧ me'.born = me.born)
    (hrom : ROM w m os ents' es'.toList) (hborn : ∀ e ∈ es'.toList, e.born < clock') (hnd : (es'.toList.map (·.born)).Nodup) :
    Next env w m os n (World.setMap w b es' clock') m (setOb os o (.map ents' .mine)) n := by
  have hoth : ∀ c, m.own c ≠ .mine o → (World.setMap w b es' clock').heap[c]? = w.heap[c]? := fun c hc => setMap_other fun h => hc (h ▸ hown)
  have hcells : ∀ c k, cellsN w c = some k → cellsN (World.setMap w b es' clock') c = some k := by
    intro c k hk
    by_cases hc : c = b
    · subst hc; simp [cellsN, hb] at hk
    · simp only [cellsN, setMap_other hc] at hk ⊢; exact hk
  have g : Goes w m os (World.setMap w b es' clock') m (setOb os o (.map ents' .mine)) := by
    refine ⟨⟨Nat.le_of_eq setMap_size.symm, rfl, rfl, rfl, fun c _ hm => ⟨hoth c (hm o), rfl⟩, hcells⟩, fun p => ?_⟩
    rw [obAt_setOb]
    split
    · rename_i hp; subst hp; rw [hob]
      refine ⟨rfl, fun c es0 clock0 j me h1 h2 h3 => ?_⟩
      rw [hblk] at h1; injection h1 with h1; subst h1
      rw [hb] at h2; injection h2 with h2; injection h2 with h2 h2'; subst h2
      obtain ⟨me', h4, h5⟩ := hgo j me h3
      exact ⟨es', clock', me', setMap_at hb, h4, h5⟩
    · rename_i hp
      have : ∀ ob, obAt os p = ob → ObGo w (m.blk p) (World.setMap w b es' clock') (m.blk p) ob ob := by
        intro ob hob'
        cases ob <;> simp only [ObGo] <;> try trivial
        · exact ⟨trivial, Nat.le_refl _, fun _ => trivial⟩
        · refine ⟨trivial, fun c es0 clock0 j me h1 h2 h3 => ?_⟩
          by_cases hc : c = b
          · subst hc
            rw [hb] at h2; injection h2 with h2; injection h2 with h2 h2'; subst h2
            obtain ⟨me', h4, h5⟩ := hgo j me h3
            exact ⟨es', clock', me', setMap_at hb, h4, h5⟩
          · exact ⟨es0, clock0, me, (setMap_other hc).trans h2, h3, rfl⟩
      exact this _ rfl
  refine ⟨r.set g ⟨b, es', clock', hblk, setMap_at hb, hrom.go g r, hborn, hnd, hown⟩ (fun p hp => ⟨rfl, fun c h => ⟨hoth c (fun h' => ?_), h⟩⟩) (fun c p h => ?_) (fun c h => by rw [setMap_size]; exact r.frozen c h), g, Nat.le_refl _, fun p _ hf => ?_⟩
  · rw [h] at h'; injection h' with h'; exact hp h'
  · by_cases hpo : p = o
    · subst hpo
      obtain ⟨h1, h2, _⟩ := r.mine c p h
      exact .inr ⟨rfl, by rw [setMap_size]; exact h1, h2, rfl⟩
    · exact .inl ⟨hpo, h⟩
  · rw [obAt_setOb]; split
    · rename_i hp'; subst hp'; rw [hob] at hf; simp at hf
    · exact hf

theorem keyT_isKey {env : Env} {t e : TypeId} {k : AV} (h : mapT env t k = some e) : isKey k = true := by
  unfold mapT at h
  split at h
  · split at h
    · split at h
      · rename_i hkt
        unfold keyT at hkt
        split at hkt <;> first | rfl | simp at hkt
      · simp at h
    · simp at h
  · simp at h

theorem modify_toList (es : Array MapEntry) (j : Nat) (f : MapEntry → MapEntry) (me : MapEntry) (h : es[j]? = some me) : (es.modify j f).toList = es.toList.set j (f me) := by
  rw [Array.toList_modify]
  have h' : es.toList[j]? = some me := by rw [Array.getElem?_toList]; exact h
  apply List.ext_getElem?
  intro i
  rw [List.getElem?_modify, List.getElem?_set]
  by_cases hij : j = i
  · subst hij
    have hlt := (List.getElem?_eq_some_iff.1 h').1
    rw [h', if_pos rfl, if_pos hlt]
    simp
  · simp [hij]
theorem born_set (l : List MapEntry) (j : Nat) (me x : MapEntry) (h : l[j]? = some x) (hb : me.born = x.born) : (l.set j me).map (·.born) = l.map (·.born) := by
  rw [List.map_set, hb]
  apply List.ext_getElem?
  intro i
  rw [List.getElem?_set]
  by_cases hij : j = i
  · subst hij
    have hlt := (List.getElem?_eq_some_iff.1 h).1
    rw [if_pos rfl, List.length_map, if_pos hlt, List.getElem?_map, h]
    rfl
  · simp [hij]
theorem mem_set_born {l : List MapEntry} {j c : Nat} {me x : MapEntry} (h : l[j]? = some x) (hb : me.born = x.born) (hl : ∀ e ∈ l, e.born < c) : ∀ e ∈ l.set j me, e.born < c := by
  intro e he
  rcases List.mem_or_eq_of_mem_set he with h1 | rfl
  · exact hl e h1
  · rw [hb]; exact hl x (List.mem_of_getElem? h)

theorem mapUpdateE_ok (ok : EnvOK P env) (r : ORel env w m os) {nest : Bool} {t : TypeId} {x k y : AV} {xv kv yv : Value} (hx : RV w m os x xv) (hk : RV w m os k kv) (hy : RV w m os y yv) :
    DoesU P env w m os (mapUpdateE env nest t x k y) (Instr.mapUpdate t xv kv yv) := by
  unfold mapUpdateE
  cases hm : mapT env t k with
  | none => exact DoesU.fail
  | some e =>
    obtain ⟨kt, d, hu, hku, hik⟩ := mapT_ok ok hk hm
    dsimp only
    split
    case h_2 => exact DoesU.fail
    rename_i o
    refine DoesU.ghost (putE_ok r hy) fun m1 os1 v r1 g1 ⟨hv, _⟩ => ?_
    have hx := RV.go g1 r _ hx
    have hk := RV.go g1 r _ hk
    intro n a os' n' hr hfr
    simp only [RV] at hx
    obtain ⟨_, hx⟩ := hx
    have hro := r1.obs o
    simp only [HM.runAt] at hr
    have hck := MapKept.run_checkKey (P := P) (w := w) hku hik false 9999
    cases hob : obAt os1 o with
    | map ents lk =>
      rw [hob] at hx hr hro
      obtain ⟨b, h1, rfl⟩ := hx
      obtain ⟨b', es, clock, h2, h3, h4, h5, h6, h7⟩ := hro
      rw [h1] at h2; injection h2 with h2; subst h2
      cases lk with
      | mine =>
        have hg := MapKept.run_getObj_map (P := P) h3
        dsimp only at hr
        cases hf : findK k 0 ents with
        | none => rw [hf] at hr; simp [HM.runAt] at hr
        | some fr =>
          rw [hf] at hr
          rcases findK_ok hk hik h4 hf with ⟨rfl, p2⟩ | ⟨j, v', me, rfl, p2, p3, p4, p5, p6⟩
          · simp only [HM.runAt, Option.some.injEq, Prod.mk.injEq] at hr
            obtain ⟨rfl, rfl, rfl⟩ := hr
            have hf := MapKept.run_findKey (P := P) (w := w) hku p2
            refine ⟨m1, World.setMap w b (es.push { key := kv, val := yv, born := clock }) (clock + 1), ?_, write_map r1 hob h7 h1 h3 (fun j me hj => ?_) ?_ ?_ ?_, rfl⟩
            · simp only [Instr.mapUpdate, Sem.run_bind, run_underlying hu, Result.andThen_ok, hg, hck, hf, MapKept.run_setObj_map _ h3]
              rfl
            · exact ⟨me, by rw [Array.getElem?_push, if_neg (Nat.ne_of_lt (Array.getElem?_eq_some_iff.1 hj).1)]; exact hj, rfl⟩
            · rw [Array.toList_push]; exact ROM_push (keyT_isKey hm) hk hv h4
            · intro e he
              rw [Array.toList_push] at he
              rcases List.mem_append.1 he with h | h
              · exact Nat.lt_succ_of_lt (h5 e h)
              · simp only [List.mem_singleton] at h; subst h; exact Nat.lt_succ_self _
            · rw [Array.toList_push, List.map_append, List.nodup_append]
              refine ⟨h6, by simp, fun x hx y hy => ?_⟩
              obtain ⟨e, he, rfl⟩ := List.mem_map.1 hx
              simp only [List.map_cons, List.map_nil, List.mem_singleton] at hy
              subst hy
              exact Nat.ne_of_lt (h5 e he)
          · simp only [Nat.zero_add, HM.runAt, Option.some.injEq, Prod.mk.injEq] at hr p6
            obtain ⟨rfl, rfl, rfl⟩ := hr
            have hf := MapKept.run_findKey (P := P) (w := w) hku p6
            have hkt := MapKept.run_keyThatStays (P := P) (w := w) hik
            have p3' : es[j]? = some me := by rw [← Array.getElem?_toList]; exact p3
            have hml := modify_toList es j (fun e => { e with key := kv, val := yv }) me p3'
            refine ⟨m1, World.setMap w b (es.modify j fun e => { e with key := kv, val := yv }) clock, ?_, write_map r1 hob h7 h1 h3 (fun i me' hi => ?_) ?_ ?_ ?_, rfl⟩
            · simp only [Instr.mapUpdate, Sem.run_bind, run_underlying hu, Result.andThen_ok, hg, hck, hf, p3', Option.map_some, Option.getD_some, p4, hkt, MapKept.run_setObj_map _ h3]
              rfl
            · rw [Array.getElem?_modify]
              by_cases hji : j = i
              · subst hji; exact ⟨{ me' with key := kv, val := yv }, by rw [if_pos rfl, hi]; rfl, rfl⟩
              · exact ⟨me', by rw [if_neg hji]; exact hi, rfl⟩
            · rw [hml]; exact ROM_set (keyT_isKey hm) hk hv j h4
            · rw [hml]; exact mem_set_born p3 rfl h5
            · rw [hml, born_set es.toList j { me with key := kv, val := yv } me p3 rfl]; exact h6
      | _ => simp [HM.runAt] at hr
    | _ => rw [hob] at hr; simp [HM.runAt] at hr

theorem mapEntryE_ok (ok : EnvOK P env) (r : ORel env w m os) {t : TypeId} {x k : AV} {xv kv : Value} (hx : RV w m os x xv) (hk : RV w m os k kv) :
    Does P env w m os (mapEntryE env t x k) (Instr.mapEntry t xv kv) := by
  unfold mapEntryE
  cases hm : mapT env t k with
  | none => exact Does.fail
  | some e =>
    obtain ⟨kt, d, hu, hku, hik⟩ := mapT_ok ok hk hm
    dsimp only
    cases hz : zeroT env e with
    | none => exact Does.fail
    | some z =>
      obtain ⟨zv, z1, z2⟩ := zeroT_ok (P := P) (w := w) (m := m) (os := os) ok hz
      dsimp only
      split
      case h_2 => exact Does.fail
      rename_i o
      intro n a os' n' hr hfr
      simp only [RV] at hx
      obtain ⟨_, hx⟩ := hx
      have hro := r.obs o
      simp only [HM.runAt] at hr
      have hck := MapKept.run_checkKey (P := P) (w := w) hku hik false 9999
      cases hob : obAt os o with
      | map ents lk =>
        rw [hob] at hx hr hro
        obtain ⟨b, h1, rfl⟩ := hx
        obtain ⟨b', es, clock, h2, h3, h4, h5, h6, h7⟩ := hro
        rw [h1] at h2; injection h2 with h2; subst h2
        cases lk with
        | mine =>
          have hg := MapKept.run_getObj_map (P := P) h3
          dsimp only at hr
          cases hf : findK k 0 ents with
          | none => rw [hf] at hr; simp [HM.runAt] at hr
          | some fr =>
            rw [hf] at hr
            rcases findK_ok hk hik h4 hf with ⟨rfl, p2⟩ | ⟨j, v', me, rfl, p2, p3, p4, p5, p6⟩
            · simp only [HM.runAt, Option.some.injEq, Prod.mk.injEq] at hr
              obtain ⟨rfl, rfl, rfl⟩ := hr
              have hf := MapKept.run_findKey (P := P) (w := w) hku p2
              have hlen : ents.length = es.size := by rw [← ROM_length h4, Array.length_toList]
              have nx : Next env w m os n (World.setMap w b (es.push { key := kv, val := zv, born := clock }) (clock + 1)) m (setOb os o (.map (ents ++ [(k, z)]) .mine)) n := by
                refine write_map r hob h7 h1 h3 (fun j me hj => ?_) ?_ ?_ ?_
                · exact ⟨me, by rw [Array.getElem?_push, if_neg (Nat.ne_of_lt (Array.getElem?_eq_some_iff.1 hj).1)]; exact hj, rfl⟩
                · rw [Array.toList_push]; exact ROM_push (keyT_isKey hm) hk z2 h4
                · intro e he
                  rw [Array.toList_push] at he
                  rcases List.mem_append.1 he with h | h
                  · exact Nat.lt_succ_of_lt (h5 e h)
                  · simp only [List.mem_singleton] at h; subst h; exact Nat.lt_succ_self _
                · rw [Array.toList_push, List.map_append, List.nodup_append]
                  refine ⟨h6, by simp, fun x hx y hy => ?_⟩
                  obtain ⟨e, he, rfl⟩ := List.mem_map.1 hx
                  simp only [List.map_cons, List.map_nil, List.mem_singleton] at hy
                  subst hy
                  exact Nat.ne_of_lt (h5 e he)
              refine ⟨m, _, .tuple #[zv, .int .i64 clock], ?_, nx, ?_⟩
              · simp only [Instr.mapEntry, Sem.run_bind, run_underlying hu, Result.andThen_ok, hg, hck, hf, z1, MapKept.run_setObj_map _ h3]
                rfl
              · simp only [RV]
                refine ⟨_, rfl, RVL_cons.2 ⟨zv, _, rfl, by simp only [RV], RVL_cons.2 ⟨.int .i64 clock, [], rfl, ?_, by rw [RVL]⟩⟩⟩
                simp only [RV]
                refine ⟨⟨_, rfl⟩, ?_⟩
                rw [obAt_setOb, if_pos rfl]
                exact ⟨b, _, _, { key := kv, val := zv, born := clock }, h1, setMap_at h3, by rw [hlen]; exact Array.getElem?_push_size, rfl⟩
            · simp only [Nat.zero_add, HM.runAt, Option.some.injEq, Prod.mk.injEq] at hr p6
              obtain ⟨rfl, rfl, rfl⟩ := hr
              have hf := MapKept.run_findKey (P := P) (w := w) hku p6
              have hkt := MapKept.run_keyThatStays (P := P) (w := w) hik
              have p3' : es[j]? = some me := by rw [← Array.getElem?_toList]; exact p3
              have hsame : es.modify j (fun e => { e with key := kv }) = es := by
                apply Array.ext'
                rw [modify_toList es j (fun e => { e with key := kv }) me p3', ← p4]
                apply List.ext_getElem?
                intro i
                rw [List.getElem?_set]
                by_cases hji : j = i
                · subst hji
                  have hlt := (List.getElem?_eq_some_iff.1 p3).1
                  rw [if_pos rfl, if_pos hlt, p3]
                · rw [if_neg hji]
              have hw : ({ w with heap := w.heap.setIfInBounds b (.map es clock) } : World) = w := by
                have : w.heap.setIfInBounds b (.map es clock) = w.heap := by
                  apply Array.ext_getElem?
                  intro i
                  by_cases hi : i = b
                  · subst hi; rw [(MapKept.heap_set h3).1, h3]
                  · rw [(MapKept.heap_set h3).2 i hi]
                rw [this]
              refine ⟨m, w, .tuple #[me.val, .int .i64 me.born], ?_, .refl r, ?_⟩
              · simp only [Instr.mapEntry, Sem.run_bind, run_underlying hu, Result.andThen_ok, hg, hck, hf, p3', Option.map_some, Option.getD_some, p4, hkt, MapKept.run_setObj_map _ h3, hsame, hw]
                rfl
              · simp only [RV]
                refine ⟨_, rfl, RVL_cons.2 ⟨me.val, _, rfl, by simp only [RV], RVL_cons.2 ⟨.int .i64 me.born, [], rfl, ?_, by rw [RVL]⟩⟩⟩
                simp only [RV]
                refine ⟨⟨_, rfl⟩, ?_⟩
                rw [hob]
                exact ⟨b, es, clock, me, h1, h3, p3', rfl⟩
        | _ => simp [HM.runAt] at hr
      | _ => rw [hob] at hr; simp [HM.runAt] at hr

theorem nodup_inj {α : Type} : ∀ {l : List α}, l.Nodup → ∀ {i j : Nat} {x : α}, l[i]? = some x → l[j]? = some x → i = j
  | [], _, _, _, _, h, _ => by simp at h
  | a :: l, _, 0, 0, _, _, _ => rfl
  | a :: l, h, 0, j + 1, x, h1, h2 => by
    simp only [List.getElem?_cons_zero, Option.some.injEq, List.getElem?_cons_succ] at h1 h2
    subst h1
    exact absurd (List.mem_of_getElem? h2) (List.nodup_cons.1 h).1
  | a :: l, h, i + 1, 0, x, h1, h2 => by
    simp only [List.getElem?_cons_zero, Option.some.injEq, List.getElem?_cons_succ] at h1 h2
    subst h2
    exact absurd (List.mem_of_getElem? h1) (List.nodup_cons.1 h).1
  | a :: l, h, i + 1, j + 1, x, h1, h2 => by
    simp only [List.getElem?_cons_succ] at h1 h2
    rw [nodup_inj (List.nodup_cons.1 h).2 h1 h2]
theorem nodup_born_inj {l : List MapEntry} (h : (l.map (·.born)).Nodup) {i j : Nat} {x y : MapEntry} (hi : l[i]? = some x) (hj : l[j]? = some y) (hb : x.born = y.born) : i = j :=
  nodup_inj h (x := x.born) (by rw [List.getElem?_map, hi]; rfl) (by rw [List.getElem?_map, hj, hb]; rfl)

theorem entryStoreE_ok (r : ORel env w m os) {nest : Bool} {t : TypeId} {x s y : AV} {xv sv yv : Value} (hx : RV w m os x xv) (hs : RV w m os s sv) (hy : RV w m os y yv) :
    DoesU P env w m os (entryStoreE nest x s y) (Instr.entryStore t xv sv yv) := by
  unfold entryStoreE
  split
  case h_2 => exact DoesU.fail
  rename_i o o' j
  split
  case isFalse => exact DoesU.fail
  rename_i heq
  subst heq
  refine DoesU.ghost (putE_ok r hy) fun m1 os1 v r1 g1 ⟨hv, _⟩ => ?_
  have hx := RV.go g1 r _ hx
  have hs := RV.go g1 r _ hs
  intro n a os' n' hr hfr
  simp only [RV] at hx hs
  obtain ⟨_, hx⟩ := hx
  obtain ⟨_, hs⟩ := hs
  have hro := r1.obs o
  simp only [HM.runAt] at hr
  cases hob : obAt os1 o with
  | map ents lk =>
    rw [hob] at hx hr hro hs
    obtain ⟨b, h1, rfl⟩ := hx
    obtain ⟨b', es, clock, h2, h3, h4, h5, h6, h7⟩ := hro
    rw [h1] at h2; injection h2 with h2; subst h2
    obtain ⟨b2, es2, clock2, me, q1, q2, q3, rfl⟩ := hs
    rw [h1] at q1; injection q1 with q1; subst q1
    rw [h3] at q2; injection q2 with q2; injection q2 with q2 q2'; subst q2
    cases lk with
    | mine =>
      dsimp only at hr
      cases hj : ents[j]? with
      | none => rw [hj] at hr; simp [HM.runAt] at hr
      | some p =>
        obtain ⟨k, v0⟩ := p
        rw [hj] at hr
        simp only [HM.runAt, Option.some.injEq, Prod.mk.injEq] at hr
        obtain ⟨rfl, rfl, rfl⟩ := hr
        obtain ⟨me', p3, p4, p5⟩ := ROM_get h4 hj
        have q3' : es.toList[j]? = some me := by rw [Array.getElem?_toList]; exact q3
        rw [q3'] at p3; injection p3 with p3; subst p3
        have hkey : isKey k = true := by
          have : ∀ {ents : List (AV × AV)} {l : List MapEntry} {j : Nat}, ROM w m1 os1 ents l → ents[j]? = some (k, v0) → isKey k = true := by
            intro ents
            induction ents with
            | nil => intro l j _ h; simp at h
            | cons p ps ih =>
              intro l j h hj
              obtain ⟨me0, rest, _, g1, _, _, g4⟩ := h
              cases j with
              | zero => simp only [List.getElem?_cons_zero, Option.some.injEq] at hj; subst hj; exact g1
              | succ j => exact ih g4 (by simpa using hj)
          exact this h4 hj
        have hfi : es.findIdx? (fun e => (e.born : Int) == (me.born : Int)) = some j := by
          rw [Array.findIdx?_eq_some_iff_getElem]
          obtain ⟨hlt, hme⟩ := Array.getElem?_eq_some_iff.1 q3
          refine ⟨hlt, by rw [hme]; simp, fun i hi => ?_⟩
          simp only [Bool.not_eq_true, beq_eq_false_iff_ne, ne_eq]
          intro hb
          have hb' : (es[i]'(by omega)).born = me.born := Int.ofNat.inj hb
          have := nodup_born_inj h6 (i := i) (j := j) (x := es[i]'(by omega)) (y := me) (by rw [Array.getElem?_toList]; simp) q3' hb'
          omega
        have hml := modify_toList es j (fun e => { e with val := yv }) me q3
        refine ⟨m1, World.setMap w b (es.modify j fun e => { e with val := yv }) clock, ?_, write_map r1 hob h7 h1 h3 (fun i me' hi => ?_) ?_ ?_ ?_, rfl⟩
        · have hg := MapKept.run_getObj_map (P := P) h3
          simp only [Instr.entryStore, Sem.run_bind, Result.andThen_ok, hg, asInt, asIntOf, Sem.run_pure, hfi, MapKept.run_setObj_map _ h3]
          rfl
        · rw [Array.getElem?_modify]
          by_cases hji : j = i
          · subst hji; exact ⟨{ me' with val := yv }, by rw [if_pos rfl, hi]; rfl, rfl⟩
          · exact ⟨me', by rw [if_neg hji]; exact hi, rfl⟩
        · rw [hml]; exact ROM_set (me := { me with val := yv }) hkey p4 hv j h4
        · rw [hml]; exact mem_set_born q3' rfl h5
        · rw [hml, born_set es.toList j { me with val := yv } me q3' rfl]; exact h6
    | _ => simp [HM.runAt] at hr
  | _ => rw [hob] at hr; simp [HM.runAt] at hr

theorem newMap_ok (r : ORel env w m os) {t : TypeId} : Does P env w m os ((newOb (.map [] .mine)).bind fun o => .ret (.mp o)) (Instr.makeMap t none) := by
  intro n a os' n' hr hfr
  simp only [newOb, HM.bind, HM.runAt, Option.some.injEq, Prod.mk.injEq] at hr
  obtain ⟨rfl, rfl, rfl⟩ := hr
  have nx := new_own (ob := .map [] .mine) (x := .map #[] 0) r (hfr n (Nat.le_refl _) (by omega)) rfl (fun g =>
    ⟨w.heap.size, #[], 0, by simp [Emb.put], pushed_new, rfl, by simp, by simp, by simp [Owns, Emb.put]⟩)
  refine ⟨_, _, .map (some w.heap.size), ?_, nx, ?_⟩
  · simp only [Instr.makeMap, Sem.run_bind, run_newObj, Result.andThen, Sem.run_pure]
    rfl
  · simp only [RV]
    refine ⟨⟨_, rfl⟩, ?_⟩
    rw [obAt_setOb, if_pos rfl]
    exact ⟨w.heap.size, by simp [Emb.put], rfl⟩
end
end Go.V
namespace Go.V
section
variable {P : Program} {env : Env} {w w' : World} {m m' : Emb} {os os' : List Ob}

theorem runesFrom_ints (s : ByteArray) : ∀ (bound i : Nat) (acc : Array Value), (∀ v ∈ acc.toList, ∃ n, v = .int .i32 n) → ∀ v ∈ (Conv.runesFrom s bound i acc).toList, ∃ n, v = .int .i32 n
  | 0, _, acc, h => by unfold Conv.runesFrom; exact h
  | bound + 1, i, acc, h => by
    unfold Conv.runesFrom
    split
    · refine runesFrom_ints s bound _ _ fun v hv => ?_
      rw [Array.toList_push] at hv
      rcases List.mem_append.1 hv with h1 | h1
      · exact h v h1
      · simp only [List.mem_singleton] at h1; exact ⟨_, h1⟩
    · exact h
theorem RVE_ints {k : IntKind} : ∀ {l : List Value}, (∀ v ∈ l, ∃ n, v = .int k n) → RVE w m os 1 (l.map ofConst) l
  | [], _ => RVE_nil
  | v :: l, h => by
    obtain ⟨n, rfl⟩ := h v (by simp)
    exact RVE_cons.2 ⟨[.int k n], l, rfl, rfl, ⟨rfl, _, rfl, by simp only [ofConst, RV]⟩, RVE_ints fun u hu => h u (by simp [hu])⟩
theorem intsOf_ok {k : IntKind} {size : Nat} : ∀ {es : List AV} {ns : List Int} {l : List Value}, intsOf k es = some ns → RVE w m os size es l → ns.length = es.length ∧ (es ≠ [] → size = 1) ∧ l.take (es.length * size) = ns.map (Value.int k)
  | [], ns, l, h, _ => by simp only [intsOf, Option.some.injEq] at h; subst h; exact ⟨rfl, fun h => absurd rfl h, by simp⟩
  | e :: es, ns, l, h, hr => by
    obtain ⟨us, rest, rfl, h2, h3, h4⟩ := RVE_cons.1 hr
    cases e with
    | int j n =>
      simp only [intsOf] at h
      split at h
      case isFalse => simp at h
      rename_i hj
      subst hj
      simp only [Option.map_eq_some_iff] at h
      obtain ⟨ns', h5, rfl⟩ := h
      obtain ⟨h6, h7, h8⟩ := intsOf_ok h5 h4
      obtain ⟨_, v, rfl, hv⟩ := h3
      simp only [RV] at hv
      subst hv
      have hs : size = 1 := h2.symm
      subst hs
      refine ⟨by simp [h6], fun _ => rfl, ?_⟩
      rw [List.length_cons, Nat.mul_one, List.singleton_append, List.take_succ_cons, List.map_cons]
      rw [Nat.mul_one] at h8
      rw [h8]
    | _ => simp [intsOf] at h

theorem convK_ok (ok : EnvOK P env) {src dst : TypeId} : match convK env src dst with
    | .toInt k => ∃ d, P.underlying src = some d ∧ P.underlying dst = some (.int k)
    | .intStr => (∃ k, P.underlying src = some (.int k)) ∧ P.underlying dst = some .string
    | .strStr => P.underlying src = some .string ∧ P.underlying dst = some .string
    | .strRunes => ∃ e, P.underlying src = some .string ∧ P.underlying dst = some (.slice e) ∧ P.underlying e = some (.int .i32)
    | .runesStr => ∃ e, P.underlying src = some (.slice e) ∧ P.underlying dst = some .string ∧ P.underlying e = some (.int .i32)
    | .bytesStr => ∃ e, P.underlying src = some (.slice e) ∧ P.underlying dst = some .string ∧ P.underlying e = some (.int .u8)
    | .bad => True := by
  have hany : ∀ {t : TypeId} {ti : TyI}, env.ty t = some ti → ∃ d, P.underlying t = some d := by
    intro t ti h
    obtain ⟨_, _, _, _, hu, _⟩ := ok.ty t _ h
    cases hd : ti.d <;> rw [hd] at hu <;> simp only [TyD.ok] at hu
    case struct => obtain ⟨F, h, _⟩ := hu; exact ⟨_, h⟩
    case func => obtain ⟨a, b, c, h⟩ := hu; exact ⟨_, h⟩
    case other => obtain ⟨d, h, _⟩ := hu; exact ⟨_, h⟩
    all_goals exact ⟨_, hu⟩
  have hat : ∀ {t : TypeId} {ti : TyI} {d : TyD}, env.ty t = some ti → ti.d = d → d.ok P t := by
    intro t ti d h hd
    obtain ⟨_, _, _, _, hu, _⟩ := ok.ty t _ h
    rw [← hd]; exact hu
  unfold convK
  cases hs : env.ty src with
  | none => simp
  | some s =>
    cases hd : env.ty dst with
    | none => simp
    | some d =>
      dsimp only
      cases hdd : d.d <;> cases hsd : s.d <;> dsimp only <;> first
        | trivial
        | (obtain ⟨x, hx⟩ := hany hs; exact ⟨x, hx, hat hd hdd⟩)
        | exact ⟨⟨_, hat hs hsd⟩, hat hd hdd⟩
        | exact ⟨hat hs hsd, hat hd hdd⟩
        | (rename_i e
           cases he : env.ty e with
           | none => trivial
           | some ei =>
             obtain ⟨di, si, bi, zi⟩ := ei
             cases di <;> first
               | trivial
               | (rename_i ki
                  cases ki <;> first
                    | trivial
                    | exact ⟨_, hat hs hsd, hat hd hdd, hat he rfl⟩))

theorem convE_ok (ok : EnvOK P env) (r : ORel env w m os) {src dst : TypeId} {x : AV} {xv : Value} (hx : RV w m os x xv) : Does P env w m os (convE env src dst x) (convert src dst xv) := by
  have hk := convK_ok (P := P) ok (src := src) (dst := dst)
  unfold convE
  cases hc : convK env src dst <;> rw [hc] at hk <;> dsimp only at hk ⊢
  case bad => exact Does.fail
  case toInt k =>
    obtain ⟨d, h1, h2⟩ := hk
    split
    · simp only [RV] at hx; subst hx
      refine Does.ret r ?_ (by simp only [RV]; rfl)
      simp only [convert, Sem.run_bind, run_underlying h1, run_underlying h2, Result.andThen_ok]
      rfl
    · exact Does.fail
  case intStr =>
    obtain ⟨⟨k, h1⟩, h2⟩ := hk
    split
    · simp only [RV] at hx; subst hx
      refine Does.ret r ?_ (by simp only [RV]; rfl)
      simp only [convert, Sem.run_bind, run_underlying h1, run_underlying h2, Result.andThen_ok]
      rfl
    · exact Does.fail
  case strStr =>
    obtain ⟨h1, h2⟩ := hk
    split
    · simp only [RV] at hx; subst hx
      refine Does.ret r ?_ (by simp only [RV]; rfl)
      simp only [convert, Sem.run_bind, run_underlying h1, run_underlying h2, Result.andThen_ok]
      rfl
    · exact Does.fail
  case strRunes =>
    obtain ⟨e, h1, h2, h3⟩ := hk
    split
    case h_2 => exact Does.fail
    rename_i s
    split
    case isFalse => exact Does.fail
    rename_i hle
    simp only [RV] at hx; subst hx
    have hsz : (runesOf s).length = (Conv.runesFrom s s.size 0 #[]).size := by unfold runesOf; rw [List.length_map, Array.length_toList]
    have hrun := run_runes_of_string (P := P) w src dst e s h1 h2 h3 (by rw [← hsz]; exact hle)
    have hcap : (Conv.runesFrom s s.size 0 #[]).size ≤ grownCap w (Conv.runesFrom s s.size 0 #[]).size 0 e := by unfold grownCap Question.cut; dsimp only; omega
    refine newRow_ok (P := P) (T := e) (cap := grownCap w (Conv.runesFrom s s.size 0 #[]).size 0 e) r (.inr rfl) ?_ (by rw [hsz]; exact hrun) ?_ (by rw [hsz]; exact hcap)
    · rw [Array.toList_append]
      exact RVE_more (RVE_ints (runesFrom_ints s s.size 0 #[] (by simp)))
    · rw [Array.size_append, Array.size_replicate]; omega
  case runesStr =>
    obtain ⟨e, h1, h2, h3⟩ := hk
    intro n a os' n' hr hfr
    obtain ⟨es, os1, n1, k1, k2⟩ := runAt_bind.1 hr
    obtain ⟨rfl, rfl, size, hsh⟩ := elemsOf_ok r hx k1
    cases hi : intsOf .i32 es with
    | none => rw [hi] at k2; simp [HM.runAt] at k2
    | some ns =>
      rw [hi] at k2
      refine Does.ret (v := .string (runesBytes ns)) r ?_ (by simp only [RV]) n1 a os' n' k2 hfr
      rcases hsh with ⟨rfl, ad, cap, rfl⟩ | ⟨b, off, cap, cs, T, fr, rfl, q1, q2⟩
      · simp only [intsOf, Option.some.injEq] at hi; subst hi
        rw [run_convert_runes_string w src dst e _ _ _ h1 h3 h2]
        cases ad with
        | none => rfl
        | some ad => exact run_runesToString w ad 0 cap [] (by simp [loadCells, loadCellsFrom])
      · obtain ⟨c1, c2, c3⟩ := intsOf_ok hi q2
        rw [run_convert_runes_string w src dst e _ _ _ h1 h3 h2]
        refine run_runesToString w _ _ cap ns ?_
        by_cases hne : es = []
        · subst hne
          simp only [intsOf, Option.some.injEq] at hi; subst hi
          simp [loadCells, loadCellsFrom]
        · have := c2 hne
          subst this
          rw [Nat.mul_one] at c3
          have hld := run_loadCells_list (P := P) w ⟨b, off, none⟩ (ns.map (Value.int .i32)) (fun j v hj => by rw [← c3] at hj; exact cell_seg q1 j v hj)
          rw [List.length_map, c1] at hld
          exact hld
  case bytesStr =>
    obtain ⟨e, h1, h2, h3⟩ := hk
    intro n a os' n' hr hfr
    obtain ⟨es, os1, n1, k1, k2⟩ := runAt_bind.1 hr
    obtain ⟨rfl, rfl, size, hsh⟩ := elemsOf_ok r hx k1
    cases hi : intsOf .u8 es with
    | none => rw [hi] at k2; simp [HM.runAt] at k2
    | some ns =>
      rw [hi] at k2
      refine Does.ret (v := .string (bytesBytes ns)) r ?_ (by simp only [RV]) n1 a os' n' k2 hfr
      have hconv : ∀ ad l c, (convert src dst (.slice ad l c)).run P w = (Conv.bytesToString (.slice ad l c)).run P w := by
        intro ad l c
        simp [convert, run_underlying h1, run_underlying h2, run_underlying h3]
      rcases hsh with ⟨rfl, ad, cap, rfl⟩ | ⟨b, off, cap, cs, T, fr, rfl, q1, q2⟩
      · simp only [intsOf, Option.some.injEq] at hi; subst hi
        rw [hconv]
        cases ad with
        | none => rfl
        | some ad => exact run_bytesToString w ad 0 cap [] (by simp [loadCells, loadCellsFrom])
      · obtain ⟨c1, c2, c3⟩ := intsOf_ok hi q2
        rw [hconv]
        refine run_bytesToString w _ _ cap ns ?_
        by_cases hne : es = []
        · subst hne
          simp only [intsOf, Option.some.injEq] at hi; subst hi
          simp [loadCells, loadCellsFrom]
        · have := c2 hne
          subst this
          rw [Nat.mul_one] at c3
          have hld := run_loadCells_list (P := P) w ⟨b, off, none⟩ (ns.map (Value.int .u8)) (fun j v hj => by rw [← c3] at hj; exact cell_seg q1 j v hj)
          rw [List.length_map, c1] at hld
          exact hld
end
end Go.V
namespace Go.V
section
variable {P : Program} {env : Env} {w w' : World} {m m' : Emb} {os os' : List Ob}

mutual
theorem cls_rn {x : Bool} {f : Nat → Option Nat} : ∀ (v : AV), v.cls = true → v.rn x f = v
  | .int .., _ => by rw [AV.rn] <;> simp
  | .bool _, _ => by rw [AV.rn] <;> simp
  | .str _, _ => by rw [AV.rn] <;> simp
  | .nilp, _ => by rw [AV.rn] <;> simp
  | .nilm, _ => by rw [AV.rn] <;> simp
  | .nilf, _ => by rw [AV.rn] <;> simp
  | .nils, _ => by rw [AV.rn] <;> simp
  | .any, _ => by rw [AV.rn] <;> simp
  | .sl _, _ => by rw [AV.rn] <;> simp
  | .agg cs, h => by rw [AV.rn, clsL_rn cs (by rw [AV.cls] at h; exact h)]
  | .fn _ caps, h => by
    rw [AV.cls, List.isEmpty_iff] at h
    subst h
    rw [AV.rn, AV.rnL]
  | .arr .., h => by simp [AV.cls] at h
  | .ptr .., h => by simp [AV.cls] at h
  | .ep .., h => by simp [AV.cls] at h
  | .fp .., h => by simp [AV.cls] at h
  | .mp .., h => by simp [AV.cls] at h
  | .tup .., h => by simp [AV.cls] at h
  | .stamp .., h => by simp [AV.cls] at h
  | .und, h => by simp [AV.cls] at h
  | .lsl .., h => by simp [AV.cls] at h
  | .gone, h => by simp [AV.cls] at h
theorem clsL_rn {x : Bool} {f : Nat → Option Nat} : ∀ (vs : List AV), AV.clsL vs = true → AV.rnL x f vs = vs
  | [], _ => by rw [AV.rnL]
  | v :: vs, h => by
    rw [clsL_cons, Bool.and_eq_true] at h
    rw [AV.rnL, cls_rn v h.1, clsL_rn vs h.2]
end
theorem rn_plain {x : Bool} {f : Nat → Option Nat} (v : AV) : (v.rn x f).plain = v.plain := by
  cases v <;> rw [AV.rn] <;> try rfl
  all_goals first
    | (split <;> rfl)
    | simp
theorem rnL_plain {x : Bool} {f : Nat → Option Nat} : ∀ (vs : List AV), (AV.rnL x f vs).all AV.plain = vs.all AV.plain
  | [] => by rw [AV.rnL]
  | v :: vs => by rw [AV.rnL, List.all_cons, List.all_cons, rn_plain, rnL_plain vs]
theorem rnL_length {x : Bool} {f : Nat → Option Nat} : ∀ (vs : List AV), (AV.rnL x f vs).length = vs.length
  | [] => by rw [AV.rnL]
  | v :: vs => by rw [AV.rnL, List.length_cons, List.length_cons, rnL_length vs]

/-- Objects of one shape: references to the one can be references to the other. -/
def Alike : Ob → Ob → Prop
  | .var _ _ _, .var _ _ _ => True
  | .row es s _, .row es' s' _ => es'.length = es.length ∧ s' = s
  | .map _ _, .map _ _ => True
  | .dead, .dead => True
  | _, _ => False
theorem Alike.rn {x : Bool} {f : Nat → Option Nat} {b : Ob} (h : b ≠ .free) : Alike b (b.rn x f) := by
  cases b <;> simp only [Ob.rn, Alike] <;> first
    | trivial
    | exact ⟨rnL_length _, trivial⟩
    | exact absurd rfl h
theorem Alike.lend {x : Bool} {f : Nat → Option Nat} {b : Ob} (h : b ≠ .free) : Alike b (b.rn x f).lend := by
  cases b with
  | var e s l => cases l <;> simp only [Ob.rn, Ob.lend, Alike]
  | row es s l => cases l <;> simp only [Ob.rn, Ob.lend, Alike] <;> exact ⟨rnL_length _, trivial⟩
  | map es l => cases l <;> simp only [Ob.rn, Ob.lend, Alike]
  | dead => trivial
  | free => exact absurd rfl h

/-- The objects of one frame under the numbers of another. -/
structure Ren (x : Bool) (f : Nat → Option Nat) (w : World) (m : Emb) (os : List Ob) (m' : Emb) (os' : List Ob) : Prop where
  obj : ∀ o o', f o = some o' → obAt os o ≠ .free → m'.blk o' = m.blk o ∧ Alike (obAt os o) (obAt os' o')
  frozen : ∀ b, m.own b = .frozen → m'.own b = .frozen
  still : x = false → ∀ b, m.still b → m'.still b

theorem RArr.ren {x : Bool} {f : Nat → Option Nat} (g : Ren x f w m os m' os') {o o' off len ext : Nat} {v : Value} (hf : f o = some o') (h : RArr w m os o off len ext v) : RArr w m' os' o' off len ext v := by
  refine ⟨h.1, ?_⟩
  have h := h.2
  cases hob : obAt os o with
  | row es s lk =>
    obtain ⟨h1, h2⟩ := g.obj o o' hf (by rw [hob]; simp)
    rw [hob] at h h2
    cases hob' : obAt os' o' <;> rw [hob'] at h2 <;> simp only [Alike] at h2
    obtain ⟨h3, h4⟩ := h2
    subst h4
    dsimp only at h ⊢
    rw [h3, h1]
    exact h
  | dead =>
    obtain ⟨h1, h2⟩ := g.obj o o' hf (by rw [hob]; simp)
    rw [hob] at h2
    cases hob' : obAt os' o' <;> rw [hob'] at h2 <;> simp only [Alike] at h2
    trivial
  | _ => rw [hob] at h; exact h.elim
theorem RPtr.ren {x : Bool} {f : Nat → Option Nat} (g : Ren x f w m os m' os') {o o' i : Nat} {v : Value} (hf : f o = some o') (h : RPtr m os o i v) : RPtr m' os' o' i v := by
  refine ⟨h.1, ?_⟩
  have h := h.2
  cases hob : obAt os o with
  | var e s lk =>
    obtain ⟨h1, h2⟩ := g.obj o o' hf (by rw [hob]; simp)
    rw [hob] at h h2
    cases hob' : obAt os' o' <;> rw [hob'] at h2 <;> simp only [Alike] at h2
    dsimp only at h ⊢
    rw [h1]; exact h
  | dead =>
    obtain ⟨h1, h2⟩ := g.obj o o' hf (by rw [hob]; simp)
    rw [hob] at h2
    cases hob' : obAt os' o' <;> rw [hob'] at h2 <;> simp only [Alike] at h2
    trivial
  | _ => rw [hob] at h; exact h.elim
theorem REp.ren {x : Bool} {f : Nat → Option Nat} (g : Ren x f w m os m' os') {o o' j i ext : Nat} {v : Value} (hf : f o = some o') (h : REp m os o j i ext v) : REp m' os' o' j i ext v := by
  refine ⟨h.1, ?_⟩
  have h := h.2
  cases hob : obAt os o with
  | row es s lk =>
    obtain ⟨h1, h2⟩ := g.obj o o' hf (by rw [hob]; simp)
    rw [hob] at h h2
    cases hob' : obAt os' o' <;> rw [hob'] at h2 <;> simp only [Alike] at h2
    obtain ⟨h3, h4⟩ := h2
    subst h4
    dsimp only at h ⊢
    rw [h3, h1]
    exact h
  | dead =>
    obtain ⟨h1, h2⟩ := g.obj o o' hf (by rw [hob]; simp)
    rw [hob] at h2
    cases hob' : obAt os' o' <;> rw [hob'] at h2 <;> simp only [Alike] at h2
    trivial
  | _ => rw [hob] at h; exact h.elim
theorem RMp.ren {x : Bool} {f : Nat → Option Nat} (g : Ren x f w m os m' os') {o o' : Nat} {v : Value} (hf : f o = some o') (h : RMp m os o v) : RMp m' os' o' v := by
  refine ⟨h.1, ?_⟩
  have h := h.2
  cases hob : obAt os o with
  | map e lk =>
    obtain ⟨h1, h2⟩ := g.obj o o' hf (by rw [hob]; simp)
    rw [hob] at h h2
    cases hob' : obAt os' o' <;> rw [hob'] at h2 <;> simp only [Alike] at h2
    dsimp only at h ⊢
    rw [h1]; exact h
  | dead =>
    obtain ⟨h1, h2⟩ := g.obj o o' hf (by rw [hob]; simp)
    rw [hob] at h2
    cases hob' : obAt os' o' <;> rw [hob'] at h2 <;> simp only [Alike] at h2
    trivial
  | _ => rw [hob] at h; exact h.elim
theorem RStamp.ren {x : Bool} {f : Nat → Option Nat} (g : Ren x f w m os m' os') {o o' j : Nat} {v : Value} (hf : f o = some o') (h : RStamp w m os o j v) : RStamp w m' os' o' j v := by
  refine ⟨h.1, ?_⟩
  have h := h.2
  cases hob : obAt os o with
  | map e lk =>
    obtain ⟨h1, h2⟩ := g.obj o o' hf (by rw [hob]; simp)
    rw [hob] at h h2
    cases hob' : obAt os' o' <;> rw [hob'] at h2 <;> simp only [Alike] at h2
    dsimp only at h ⊢
    rw [h1]; exact h
  | dead =>
    obtain ⟨h1, h2⟩ := g.obj o o' hf (by rw [hob]; simp)
    rw [hob] at h2
    cases hob' : obAt os' o' <;> rw [hob'] at h2 <;> simp only [Alike] at h2
    trivial
  | _ => rw [hob] at h; exact h.elim

theorem RV_any {v : Value} : RV w m os .any v ↔ Value.plain v := by simp only [RV]
theorem RVC_ren_plain {x : Bool} {f : Nat → Option Nat} {e : AV} {l : List Value} (h : e.plain = true ∧ ∃ v, l = [v] ∧ RV w m os e v) (k : ∀ v, RV w m os e v → RV w m' os' (e.rn x f) v) : RVC w m' os' (e.rn x f) l := by
  obtain ⟨h1, v, h2, h3⟩ := h
  exact (RVC_plain ((rn_plain e).trans h1)).2 ⟨v, h2, k v h3⟩

mutual
theorem RV.ren {x : Bool} {f : Nat → Option Nat} (g : Ren x f w m os m' os') : ∀ (a : AV) {v : Value}, RV w m os a v → RV w m' os' (a.rn x f) v
  | .int _ _, _, h => by rw [cls_rn _ rfl]; simpa only [RV] using h
  | .bool _, _, h => by rw [cls_rn _ rfl]; simpa only [RV] using h
  | .str _, _, h => by rw [cls_rn _ rfl]; simpa only [RV] using h
  | .agg cs, _, h => by
    obtain ⟨vs, h1, h2, h3⟩ := RV_agg.1 h
    rw [AV.rn]
    exact RV_agg.2 ⟨vs, h1, (rnL_plain cs).trans h2, RVL.ren g cs h3⟩
  | .sl es, _, h => by
    obtain ⟨h0, a, cap, h1, hle, h2⟩ := RV_sl.1 h
    have : (AV.sl es).rn x f = .sl es := by rw [AV.rn] <;> simp
    rw [this]
    refine RV_sl.2 ⟨h0, a, cap, h1, hle, ?_⟩
    rcases h2 with h2 | ⟨b, off, cs, T, fr, size, h2, h3, h4, h5⟩
    · exact .inl h2
    · have h6 := RVE.ren g size es h5
      rw [clsL_rn es h0] at h6
      exact .inr ⟨b, off, cs, T, fr, size, h2, g.frozen b h3, h4, h6⟩
  | .lsl es, _, h => by
    obtain ⟨h0, a, cap, h1, hle, h2⟩ := RV_lsl.1 h
    cases x with
    | true =>
      have : (AV.lsl es).rn true f = .any := by rw [AV.rn]; rfl
      rw [this, RV_any, h1]; trivial
    | false =>
      have : (AV.lsl es).rn false f = .lsl es := by rw [AV.rn]; rfl
      rw [this]
      refine RV_lsl.2 ⟨h0, a, cap, h1, hle, ?_⟩
      rcases h2 with h2 | ⟨b, off, cs, T, fr, size, h2, h3, h4, h5⟩
      · exact .inl h2
      · have h6 := RVE.ren g size es h5
        rw [clsL_rn es h0] at h6
        exact .inr ⟨b, off, cs, T, fr, size, h2, g.still rfl b h3, h4, h6⟩
  | .gone, _, _ => by have : AV.gone.rn x f = .gone := by rw [AV.rn] <;> simp
                      rw [this]; simp only [RV]
  | .nils, _, h => by rw [cls_rn _ rfl]; simpa only [RV] using h
  | .arr o off len ext, _, h => by
    simp only [RV] at h
    rw [AV.rn]
    cases hf : f o with
    | none => obtain ⟨⟨a, l, c, rfl⟩, _⟩ := h; exact RV_any.2 trivial
    | some o' => simp only [RV]; exact h.ren g hf
  | .ptr o i, _, h => by
    simp only [RV] at h
    rw [AV.rn]
    cases hf : f o with
    | none => obtain ⟨⟨a, rfl⟩, _⟩ := h; exact RV_any.2 trivial
    | some o' => simp only [RV]; exact h.ren g hf
  | .ep o j i ext, _, h => by
    simp only [RV] at h
    rw [AV.rn]
    cases hf : f o with
    | none => obtain ⟨⟨a, rfl⟩, _⟩ := h; exact RV_any.2 trivial
    | some o' => simp only [RV]; exact h.ren g hf
  | .fp e i, _, h => by
    obtain ⟨h0, b, off, cs, T, fr, h1, h2, h3, vs, rest, h4, h5⟩ := RV_fp.1 h
    cases x with
    | true =>
      have : (AV.fp e i).rn true f = .any := by rw [AV.rn]; rfl
      rw [this, RV_any, h1]; trivial
    | false =>
      have : (AV.fp e i).rn false f = .fp e i := by rw [AV.rn]; rfl
      rw [this]
      have h6 := RVC.ren g e h5
      rw [cls_rn e h0] at h6
      exact RV_fp.2 ⟨h0, b, off, cs, T, fr, h1, g.still rfl b h2, h3, vs, rest, h4, h6⟩
  | .nilp, _, h => by rw [cls_rn _ rfl]; simpa only [RV] using h
  | .mp o, _, h => by
    simp only [RV] at h
    rw [AV.rn]
    cases hf : f o with
    | none => obtain ⟨⟨a, rfl⟩, _⟩ := h; exact RV_any.2 trivial
    | some o' => simp only [RV]; exact h.ren g hf
  | .nilm, _, h => by rw [cls_rn _ rfl]; simpa only [RV] using h
  | .fn fn cs, _, h => by
    simp only [RV] at h
    obtain ⟨vs, h1, h3⟩ := h
    rw [AV.rn]
    simp only [RV]
    exact ⟨vs, h1, RVL.ren g cs h3⟩
  | .nilf, _, h => by rw [cls_rn _ rfl]; simpa only [RV] using h
  | .tup cs, _, h => by
    simp only [RV] at h
    obtain ⟨vs, h1, h3⟩ := h
    rw [AV.rn]
    simp only [RV]
    exact ⟨vs, h1, RVL.ren g cs h3⟩
  | .stamp o j, _, h => by
    simp only [RV] at h
    rw [AV.rn]
    cases hf : f o with
    | none => obtain ⟨⟨n, rfl⟩, _⟩ := h; exact RV_any.2 trivial
    | some o' => simp only [RV]; exact h.ren g hf
  | .und, _, h => by have : AV.und.rn x f = .und := by rw [AV.rn] <;> simp
                     rw [this]; simpa only [RV] using h
  | .any, _, h => by rw [cls_rn _ rfl]; simpa only [RV] using h
termination_by a => (SizeOf.sizeOf a, 0)
decreasing_by all_goals (apply Prod.Lex.left; simp; try omega)
theorem RVL.ren {x : Bool} {f : Nat → Option Nat} (g : Ren x f w m os m' os') : ∀ (cs : List AV) {vs : List Value}, RVL w m os cs vs → RVL w m' os' (AV.rnL x f cs) vs
  | [], _, h => by rw [AV.rnL]; simpa only [RVL] using h
  | c :: cs, _, h => by
    obtain ⟨v, t, h1, h2, h3⟩ := RVL_cons.1 h
    rw [AV.rnL]
    exact RVL_cons.2 ⟨v, t, h1, RV.ren g c h2, RVL.ren g cs h3⟩
termination_by cs => (SizeOf.sizeOf cs, 0)
decreasing_by all_goals (apply Prod.Lex.left; simp; try omega)
theorem RVC.ren {x : Bool} {f : Nat → Option Nat} (g : Ren x f w m os m' os') : ∀ (e : AV) {vs : List Value}, RVC w m os e vs → RVC w m' os' (e.rn x f) vs
  | .agg ds, _, h => by rw [AV.rn]; exact RVC_agg.2 ⟨(rnL_plain ds).trans h.1, RVL.ren g ds h.2⟩
  | .int k n, _, h => RVC_ren_plain h fun _ hv => RV.ren g (.int k n) hv
  | .bool b, _, h => RVC_ren_plain h fun _ hv => RV.ren g (.bool b) hv
  | .str b, _, h => RVC_ren_plain h fun _ hv => RV.ren g (.str b) hv
  | .sl es, _, h => RVC_ren_plain h fun _ hv => RV.ren g (.sl es) hv
  | .lsl es, _, h => RVC_ren_plain h fun _ hv => RV.ren g (.lsl es) hv
  | .gone, _, ⟨h, _⟩ => by simp [AV.plain] at h
  | .nils, _, h => RVC_ren_plain h fun _ hv => RV.ren g .nils hv
  | .arr o a b c, _, h => RVC_ren_plain h fun _ hv => RV.ren g (.arr o a b c) hv
  | .ptr o i, _, h => RVC_ren_plain h fun _ hv => RV.ren g (.ptr o i) hv
  | .ep o j i ext, _, h => RVC_ren_plain h fun _ hv => RV.ren g (.ep o j i ext) hv
  | .fp e i, _, h => RVC_ren_plain h fun _ hv => RV.ren g (.fp e i) hv
  | .nilp, _, h => RVC_ren_plain h fun _ hv => RV.ren g .nilp hv
  | .mp o, _, h => RVC_ren_plain h fun _ hv => RV.ren g (.mp o) hv
  | .nilm, _, h => RVC_ren_plain h fun _ hv => RV.ren g .nilm hv
  | .fn fn cs, _, h => RVC_ren_plain h fun _ hv => RV.ren g (.fn fn cs) hv
  | .nilf, _, h => RVC_ren_plain h fun _ hv => RV.ren g .nilf hv
  | .tup cs, _, ⟨h, _⟩ => by simp [AV.plain] at h
  | .stamp o j, _, h => RVC_ren_plain h fun _ hv => RV.ren g (.stamp o j) hv
  | .und, _, ⟨h, _⟩ => by simp [AV.plain] at h
  | .any, _, h => RVC_ren_plain h fun _ hv => RV.ren g .any hv
termination_by e => (SizeOf.sizeOf e, 1)
decreasing_by all_goals first | (apply Prod.Lex.left; simp; done) | (apply Prod.Lex.right; decide)
theorem RVE.ren {x : Bool} {f : Nat → Option Nat} (g : Ren x f w m os m' os') : ∀ (size : Nat) (es : List AV) {vs : List Value}, RVE w m os size es vs → RVE w m' os' size (AV.rnL x f es) vs
  | _, [], _, _ => by rw [AV.rnL]; exact RVE_nil
  | size, e :: es, l, h => by
    obtain ⟨vs, rest, h1, h2, h3, h4⟩ := RVE_cons.1 h
    rw [AV.rnL]
    exact RVE_cons.2 ⟨vs, rest, h1, h2, RVC.ren g e h3, RVE.ren g size es h4⟩
termination_by _ es => (SizeOf.sizeOf es, 0)
decreasing_by all_goals (apply Prod.Lex.left; simp; try omega)
end
end
end Go.V
namespace Go.V
section
variable {P : Program} {env : Env} {w w' : World} {m m' : Emb} {os os' : List Ob}

/-! ### Looking -/
def refsAt (os : List Ob) : List Nat → List Nat
  | [] => []
  | o :: r => (obAt os o).refs ++ refsAt os r
theorem gather1_run {n : Nat} : ∀ (l : List Nat), (gather1 l).runAt os n = some (refsAt os l, os, n)
  | [] => rfl
  | o :: r => by
    show ((HM.get o .ret).bind fun b => (gather1 r).bind fun l => HM.ret (b.refs ++ l)).runAt os n = _
    simp only [HM.bind, HM.runAt]
    rw [runAt_bind]
    exact ⟨_, _, _, gather1_run r, rfl⟩
theorem dedup_nodup : ∀ (xs acc : List Nat), acc.Nodup → (dedup xs acc).Nodup ∧ ∃ r, dedup xs acc = acc ++ r
  | [], acc, h => by rw [dedup]; exact ⟨h, [], by simp⟩
  | x :: xs, acc, h => by
    rw [dedup]
    split
    · exact dedup_nodup xs acc h
    · rename_i hx
      have hx' : x ∉ acc := by simpa using hx
      obtain ⟨h1, r, h2⟩ := dedup_nodup xs (acc ++ [x]) (by rw [List.nodup_append]; exact ⟨h, by simp, fun a ha b hb => by simp only [List.mem_singleton] at hb; subst hb; exact fun he => hx' (he ▸ ha)⟩)
      exact ⟨h1, x :: r, by rw [h2]; simp⟩
theorem gather_run {k : Nat} : ∀ (n : Nat) (acc : List Nat), acc.Nodup → ∃ l r, (gather n acc).runAt os k = some (l, os, k) ∧ l = acc ++ r ∧ l.Nodup
  | 0, acc, h => ⟨acc, [], rfl, by simp, h⟩
  | n + 1, acc, h => by
    obtain ⟨h1, r, h2⟩ := dedup_nodup (refsAt os acc) acc h
    have hrun : (gather (n + 1) acc).runAt os k = (if (dedup (refsAt os acc) acc).length = acc.length then (HM.ret acc) else gather n (dedup (refsAt os acc) acc) : HM (List Nat)).runAt os k := by
      show ((gather1 acc).bind fun l => match dedup l acc with | acc' => if acc'.length = acc.length then HM.ret acc else gather n acc').runAt os k = _
      cases he : ((gather1 acc).bind fun l => match dedup l acc with | acc' => if acc'.length = acc.length then HM.ret acc else gather n acc').runAt os k with
      | none =>
        cases he2 : (if (dedup (refsAt os acc) acc).length = acc.length then (HM.ret acc) else gather n (dedup (refsAt os acc) acc) : HM (List Nat)).runAt os k with
        | none => rfl
        | some p =>
          exfalso
          have := (runAt_bind (x := gather1 acc) (f := fun l => match dedup l acc with | acc' => if acc'.length = acc.length then HM.ret acc else gather n acc')).2 ⟨_, _, _, gather1_run acc, he2⟩
          rw [he] at this; simp at this
      | some p =>
        obtain ⟨a, os1, n1, h3, h4⟩ := runAt_bind.1 he
        rw [gather1_run acc] at h3
        simp only [Option.some.injEq, Prod.mk.injEq] at h3
        obtain ⟨rfl, rfl, rfl⟩ := h3
        exact h4.symm
    rw [hrun]
    split
    · exact ⟨acc, [], rfl, by simp, h⟩
    · obtain ⟨l, r', h3, h4, h5⟩ := gather_run n (dedup (refsAt os acc) acc) h1
      exact ⟨l, r ++ r', h3, by rw [h4, h2, List.append_assoc], h5⟩
theorem getObs_run {n : Nat} : ∀ (l : List Nat), (getObs l).runAt os n = some (l.map (obAt os), os, n)
  | [] => rfl
  | o :: r => by
    show ((HM.get o .ret).bind fun b => (getObs r).bind fun l => HM.ret (b :: l)).runAt os n = _
    simp only [HM.bind, HM.runAt]
    rw [runAt_bind]
    exact ⟨_, _, _, getObs_run r, rfl⟩

/-! ### A part of the objects, under numbers of its own -/
theorem idxOf_some {l : List Nat} {o i : Nat} (h : l.idxOf? o = some i) : l[i]? = some o := by
  unfold List.idxOf? at h
  rw [List.findIdx?_eq_some_iff_getElem] at h
  obtain ⟨h1, h2, _⟩ := h
  rw [List.getElem?_eq_getElem h1]
  simpa using h2
theorem idxOf_at {l : List Nat} (hn : l.Nodup) {o i : Nat} (h : l[i]? = some o) : l.idxOf? o = some i := by
  cases hi : l.idxOf? o with
  | none =>
    rw [List.idxOf?_eq_none_iff] at hi
    exact absurd (List.mem_of_getElem? h) hi
  | some j => rw [nodup_inj hn h (idxOf_some hi)]
theorem obAt_map {g : Nat → Ob} : ∀ (l : List Nat) (i : Nat), obAt (l.map g) i = match l[i]? with | some o => g o | none => .free
  | [], i => by cases i <;> rfl
  | o :: r, 0 => rfl
  | o :: r, i + 1 => by rw [List.map_cons, obAt, obAt_map r i]; rfl
theorem obAt_append : ∀ (a b : List Ob) (i : Nat), obAt (a ++ b) i = if i < a.length then obAt a i else obAt b (i - a.length)
  | [], b, i => by simp
  | x :: a, b, 0 => by simp [obAt]
  | x :: a, b, i + 1 => by
    rw [List.cons_append, obAt, obAt_append a b i, obAt, List.length_cons]
    simp only [Nat.add_lt_add_iff_right, Nat.add_sub_add_right]
theorem obAt_ge : ∀ (a : List Ob) (i : Nat), a.length ≤ i → obAt a i = .free
  | [], i, _ => by cases i <;> rfl
  | x :: a, 0, h => by simp at h
  | x :: a, i + 1, h => by rw [obAt]; exact obAt_ge a i (by simpa using h)

theorem ROM.ren {x : Bool} {f : Nat → Option Nat} (g : Ren x f w m os m' os') : ∀ {ents : List (AV × AV)} {es : List MapEntry}, ROM w m os ents es → ROM w m' os' (rnV x f ents) es
  | [], _, h => by rw [rnV]; exact h
  | (k, v) :: _, _, ⟨me, rest, h1, h2, h3, h4, h5⟩ => by
    rw [rnV]
    refine ⟨me, rest, h1, h2, ?_, RV.ren g v h4, ROM.ren g h5⟩
    have hk : k.cls = true := by cases k <;> first | rfl | simp [isKey] at h2
    have := RV.ren g k h3
    rw [cls_rn k hk] at this
    exact this
/-- An object under another number. -/
theorem RO.ren {x : Bool} {f : Nat → Option Nat} (g : Ren x f w m os m' os') {o o' : Nat} (hblk : m'.blk o' = m.blk o) {ob : Ob} (hown : ∀ b lk, m.blk o = some b → Owns m o b lk → ob.lk = some lk → Owns m' o' b lk) (h : RO w m os o ob) : RO w m' os' o' (ob.rn x f) := by
  cases ob with
  | var e size lk =>
    obtain ⟨b, cs, T, fr, h1, h2, h3, h4, h5, h6⟩ := h
    exact ⟨b, cs, T, fr, hblk.trans h1, h2, h3, h4, RVC.ren g e h5, hown b lk h1 h6 rfl⟩
  | row es size lk =>
    rcases h with ⟨h1, h2⟩ | ⟨b, cs, T, fr, h1, h2, h3, h4, h6⟩
    · subst h1; exact .inl ⟨by rw [AV.rnL], hblk.trans h2⟩
    · exact .inr ⟨b, cs, T, fr, hblk.trans h1, h2, h3, RVE.ren g size es h4, hown b lk h1 h6 rfl⟩
  | map ents lk =>
    obtain ⟨b, es, clock, h1, h2, h3, h4, h5, h6⟩ := h
    exact ⟨b, es, clock, hblk.trans h1, h2, h3.ren g, h4, h5, hown b lk h1 h6 rfl⟩
  | dead => trivial
  | free => trivial
/-- Some objects, under numbers of their own; of some of them (`lend`) the blocks are somebody else's from now on. -/
def Emb.sub (m : Emb) (keep : List Nat) (lend : Nat → Bool) : Emb := {
  own b := match m.own b with
    | .mine o => if lend o then .foreign else match keep.idxOf? o with | some o' => .mine o' | none => .foreign
    | x => x
  blk i := match keep[i]? with | some o => m.blk o | none => none }
def subOb (f : Nat → Option Nat) (lend : Nat → Bool) (os : List Ob) (o : Nat) : Ob := if lend o then ((obAt os o).rn false f).lend else (obAt os o).rn false f

theorem sub_ren {keep : List Nat} {lend : Nat → Bool} : Ren false keep.idxOf? w m os (m.sub keep lend) (keep.map (subOb keep.idxOf? lend os)) := {
  obj o o' h hne := by
    have h1 := idxOf_some h
    refine ⟨by simp [Emb.sub, h1], ?_⟩
    rw [obAt_map, h1]
    dsimp only
    unfold subOb
    split
    · exact Alike.lend hne
    · exact Alike.rn hne
  frozen b h := by simp [Emb.sub, h]
  still _ b h o := by
    simp only [Emb.sub]
    split
    · rename_i p hp; exact absurd hp (h p)
    · rename_i hx; intro he; exact hx o he }
theorem Ob.lend_lk {b : Ob} (h : b.lend.lk = some .mine) : False := by
  cases b with
  | var e s l => cases l <;> simp [Ob.lend, Ob.lk] at h
  | row e s l => cases l <;> simp [Ob.lend, Ob.lk] at h
  | map e l => cases l <;> simp [Ob.lend, Ob.lk] at h
  | dead => simp [Ob.lend, Ob.lk] at h
  | free => simp [Ob.lend, Ob.lk] at h
theorem rn_lk {x : Bool} {f : Nat → Option Nat} (b : Ob) : (b.rn x f).lk = b.lk := by cases b <;> rfl

theorem sub_rel {keep : List Nat} {lend : Nat → Bool} (hn : keep.Nodup) (r : ORel env w m os) : ORel env w (m.sub keep lend) (keep.map (subOb keep.idxOf? lend os)) := by
  have g := sub_ren (w := w) (m := m) (os := os) (keep := keep) (lend := lend)
  refine ⟨fun o' => ?_, fun b o' h => ?_, fun b h => ?_, fun x e h => ?_⟩
  · rw [obAt_map]
    cases hk : keep[o']? with
    | none => trivial
    | some o =>
      have hi := idxOf_at hn hk
      have hblk : (m.sub keep lend).blk o' = m.blk o := by simp [Emb.sub, hk]
      have hro := r.obs o
      generalize keep.map (subOb keep.idxOf? lend os) = L at g ⊢
      show RO w (m.sub keep lend) L o' (subOb keep.idxOf? lend os o)
      unfold subOb
      by_cases hl : lend o = true
      · rw [if_pos hl]
        have own1 : ∀ b, m.own b = .mine o → (m.sub keep lend).own b = .foreign := fun b hb => by simp [Emb.sub, hb, hl]
        have own2 : ∀ b x, m.own b = x → (∀ p, x ≠ .mine p) → (m.sub keep lend).own b = x := fun b x hb hx => by
          simp only [Emb.sub]
          rw [hb]
          cases x with
          | mine p => exact absurd rfl (hx p)
          | _ => rfl
        cases hob : obAt os o with
        | var e size lk =>
          rw [hob] at hro
          obtain ⟨b, cs, T, fr, h1, h2, h3, h4, h5, h6⟩ := hro
          cases lk with
          | mine => exact ⟨b, cs, T, fr, hblk.trans h1, h2, h3, h4, RVC.ren g e h5, own1 b h6⟩
          | frozen => exact ⟨b, cs, T, fr, hblk.trans h1, h2, h3, h4, RVC.ren g e h5, own2 b _ h6 (by simp)⟩
          | lent => exact ⟨b, cs, T, fr, hblk.trans h1, h2, h3, h4, RVC.ren g e h5, own2 b _ h6 (by simp)⟩
        | row es size lk =>
          rw [hob] at hro
          rcases hro with ⟨h1, h2⟩ | ⟨b, cs, T, fr, h1, h2, h3, h4, h6⟩
          · subst h1
            have : ((Ob.row [] size lk).rn false keep.idxOf?).lend = .row [] size (match lk with | .mine => .lent | x => x) := by cases lk <;> simp [Ob.rn, AV.rnL, Ob.lend]
            rw [this]
            exact .inl ⟨rfl, hblk.trans h2⟩
          · cases lk with
            | mine => exact .inr ⟨b, cs, T, fr, hblk.trans h1, h2, h3, RVE.ren g size es h4, own1 b h6⟩
            | frozen => exact .inr ⟨b, cs, T, fr, hblk.trans h1, h2, h3, RVE.ren g size es h4, own2 b _ h6 (by simp)⟩
            | lent => exact .inr ⟨b, cs, T, fr, hblk.trans h1, h2, h3, RVE.ren g size es h4, own2 b _ h6 (by simp)⟩
        | map ents lk =>
          rw [hob] at hro
          obtain ⟨b, es, clock, h1, h2, h3, h4, h5, h6⟩ := hro
          cases lk with
          | mine => exact ⟨b, es, clock, hblk.trans h1, h2, h3.ren g, h4, h5, own1 b h6⟩
          | frozen => exact ⟨b, es, clock, hblk.trans h1, h2, h3.ren g, h4, h5, own2 b _ h6 (by simp)⟩
          | lent => exact ⟨b, es, clock, hblk.trans h1, h2, h3.ren g, h4, h5, own2 b _ h6 (by simp)⟩
        | dead => trivial
        | free => trivial
      · rw [if_neg hl]
        refine RO.ren g hblk (fun b lk h1 h2 _ => ?_) hro
        cases lk with
        | mine => have h2 : m.own b = .mine o := h2; simp [Owns, Emb.sub, h2, hl, hi]
        | frozen => have h2 : m.own b = .frozen := h2; simp [Owns, Emb.sub, h2]
        | lent => have h2 : m.own b = .foreign := h2; simp [Owns, Emb.sub, h2]
  · simp only [Emb.sub] at h
    split at h
    · rename_i p hp
      split at h
      · simp at h
      · rename_i hl
        split at h
        · rename_i i hi
          injection h with h
          subst h
          obtain ⟨h1, h2, h3⟩ := r.mine b p hp
          have hk := idxOf_some hi
          refine ⟨h1, by simp [Emb.sub, hk, h2], ?_⟩
          rw [obAt_map, hk]
          dsimp only
          unfold subOb
          rw [if_neg hl, rn_lk]
          exact h3
        · simp at h
    · rename_i hx; exact absurd h (hx o')
  · simp only [Emb.sub] at h
    split at h
    · split at h
      · simp at h
      · split at h <;> simp at h
    · exact r.frozen b h
  · obtain ⟨h0, h1, cs, T, fr, h2, h3⟩ := r.glob x e h
    have h4 := RVC.ren g e h3
    rw [cls_rn e h0] at h4
    exact ⟨h0, g.frozen _ h1, cs, T, fr, h2, h4⟩
theorem sub_kept {keep : List Nat} {lend : Nat → Bool} : Kept m w (m.sub keep lend) w := by
  refine ⟨Nat.le_refl _, rfl, rfl, rfl, fun b _ h => ⟨rfl, ?_⟩, fun _ _ h => h⟩
  show (match m.own b with | .mine o => _ | x => x) = m.own b
  cases hb : m.own b with
  | mine p => exact absurd hb (h p)
  | _ => rfl

/-- What is handed on: slots. -/
def RT (w : World) (m : Emb) (os : List Ob) (tm : List (Nat × AV)) (tmps : Array Value) : Prop := ∀ t, RV w m os (getT tm t) (tmps.getD t undef)
theorem RV_gone {v : Value} : RV w m os .gone v := by simp only [RV]
theorem getT_rnT {x : Bool} {f : Nat → Option Nat} : ∀ (tm : List (Nat × AV)) (t : Nat), getT (rnT x f tm) t = (getT tm t).rn x f
  | [], t => by rw [rnT, getT, AV.rn] <;> simp
  | (k, v) :: r, t => by
    rw [rnT, getT_cons0, getT_cons0]
    split
    · rfl
    · exact getT_rnT r t
theorem getT_live {tm : List (Nat × AV)} : ∀ (live : List Nat) (t : Nat), getT (live.map fun t => (t, getT tm t)) t = getT tm t ∨ getT (live.map fun t => (t, getT tm t)) t = .gone
  | [], t => .inr rfl
  | k :: r, t => by
    rw [List.map_cons, getT_cons0]
    split
    · rename_i h; subst h; exact .inl rfl
    · exact getT_live r t
theorem RT.ren {f : Nat → Option Nat} (g : Ren false f w m os m' os') {tm : List (Nat × AV)} {tmps : Array Value} (h : RT w m os tm tmps) : RT w m' os' (rnT false f tm) tmps := fun t => by
  rw [getT_rnT]; exact RV.ren g _ (h t)
theorem RT.go (g : Goes w m os w' m' os') (r : ORel env w m os) {tm : List (Nat × AV)} {tmps : Array Value} (h : RT w m os tm tmps) : RT w' m' os' tm tmps := fun t => RV.go g r _ (h t)
theorem RT.live {tm : List (Nat × AV)} {tmps : Array Value} {live : List Nat} (h : RT w m os tm tmps) : RT w m os (live.map fun t => (t, getT tm t)) tmps := fun t => by
  rcases getT_live (tm := tm) live t with h1 | h1 <;> rw [h1]
  · exact h t
  · exact RV_gone

/-- How a frame stands behind some code: its first `k` objects went on; what else there was may have been left. -/
structure Went (env : Env) (k : Nat) (w : World) (m : Emb) (os : List Ob) (w' : World) (m' : Emb) (os' : List Ob) : Prop where
  rel : ORel env w' m' os'
  kept : Kept m w m' w'
  obj : ∀ o, o < k → ObGo w (m.blk o) w' (m'.blk o) (obAt os o) (obAt os' o)
  len : k ≤ os'.length
theorem Went.refl {k : Nat} (r : ORel env w m os) (hk : k ≤ os.length) : Went env k w m os w m os := ⟨r, .refl _ _, fun _ _ => .refl _ _ _, hk⟩
theorem Went.trans {k : Nat} {w1 w2 : World} {m1 m2 : Emb} {os1 os2 : List Ob} (h : Went env k w m os w1 m1 os1) (g : Went env k w1 m1 os1 w2 m2 os2) : Went env k w m os w2 m2 os2 :=
  ⟨g.rel, h.kept.trans g.kept, fun o ho => (h.obj o ho).trans (g.obj o ho), g.len⟩

theorem dedup_sub : ∀ (xs acc : List Nat), ∃ r, dedup xs acc = acc ++ r
  | [], acc => ⟨[], by rw [dedup]; simp⟩
  | x :: xs, acc => by
    rw [dedup]; split
    · exact dedup_sub xs acc
    · obtain ⟨r, h⟩ := dedup_sub xs (acc ++ [x]); exact ⟨x :: r, by rw [h]; simp⟩
theorem range_at {k o : Nat} (h : o < k) (r : List Nat) : (List.range k ++ r)[o]? = some o := by
  rw [List.getElem?_append_left (by simpa using h), List.getElem?_range h]

theorem Ob.sub_plain {f : Nat → Option Nat} {o : Nat} : subOb f (fun _ => false) os o = (obAt os o).rn false f := rfl
/-- The frame is cleaned. -/
theorem norm_ok {k : Nat} {live : List Nat} {fr fr' : Fr} {tmps : Array Value} (r : ORel env w m fr.objs) (ht : RT w m fr.objs fr.tmps tmps) (hn : fr.norm k live = some fr') :
    ∃ m', Went env k w m fr.objs w m' fr'.objs ∧ RT w m' fr'.objs fr'.tmps tmps := by
  unfold Fr.norm at hn
  have hnd : (dedup (AV.refsL (live.map (getT fr.tmps))) (List.range k)).Nodup := (dedup_nodup _ _ List.nodup_range).1
  obtain ⟨r0, hr0⟩ := dedup_sub (AV.refsL (live.map (getT fr.tmps))) (List.range k)
  obtain ⟨keep, r1, h1, h2, h3⟩ := gather_run (os := fr.objs) (k := fr.objs.length) 8 _ hnd
  simp only [HM.run, h1, Option.some.injEq] at hn
  subst hn
  have hkeep : keep = List.range k ++ (r0 ++ r1) := by rw [h2, hr0, List.append_assoc]
  have g := sub_ren (w := w) (m := m) (os := fr.objs) (keep := keep) (lend := fun _ => false)
  refine ⟨m.sub keep fun _ => false, ⟨sub_rel h3 r, sub_kept, fun o ho => ?_, ?_⟩, (ht.live (live := live)).ren g⟩
  · have hko : keep[o]? = some o := by rw [hkeep]; exact range_at ho _
    have hi := idxOf_at h3 hko
    have hob : obAt (keep.map (subOb keep.idxOf? (fun _ => false) fr.objs)) o = (obAt fr.objs o).rn false keep.idxOf? := by rw [obAt_map, hko]; rfl
    have hblk : (m.sub keep fun _ => false).blk o = m.blk o := by simp [Emb.sub, hko]
    show ObGo w (m.blk o) w ((m.sub keep fun _ => false).blk o) (obAt fr.objs o) (obAt (keep.map (subOb keep.idxOf? (fun _ => false) fr.objs)) o)
    rw [hob, hblk]
    cases obAt fr.objs o with
    | var e s l => exact rfl
    | row es s l => exact ⟨rfl, by rw [rnL_length]; exact Nat.le_refl _, fun _ => rfl⟩
    | map es l => exact ⟨rfl, fun b es clock j me _ h1 h2 => ⟨es, clock, me, h1, h2, rfl⟩⟩
    | dead => trivial
    | free => trivial
  · show k ≤ (keep.map _).length
    rw [List.length_map, hkeep, List.length_append, List.length_range]; omega
end
end Go.V
namespace Go.V
section
variable {P : Program} {env : Env} {w w' : World} {m m' : Emb} {os os' : List Ob}

theorem putObs_run {n : Nat} : ∀ (l : List (Nat × Ob)) (os : List Ob), (putObs l).runAt os n = some ((), l.foldl (fun os x => setOb os x.1 x.2) os, n)
  | [], _ => rfl
  | (o, b) :: r, os => by
    show ((HM.set o b (.ret ())).bind fun _ => putObs r).runAt os n = _
    simp only [HM.bind, HM.runAt]
    exact putObs_run r _
theorem newObs_run : ∀ (l : List Ob) (os : List Ob) (n : Nat), ∃ os', (newObs l).runAt os n = some (List.range' n l.length, os', n + l.length) ∧ ∀ p, p < n ∨ n + l.length ≤ p → obAt os' p = obAt os p
  | [], os, n => ⟨os, rfl, fun _ _ => rfl⟩
  | b :: r, os, n => by
    obtain ⟨os', h1, h2⟩ := newObs_run r (setOb os n b) (n + 1)
    refine ⟨os', ?_, fun p hp => ?_⟩
    · show ((HM.new b .ret).bind fun o => (newObs r).bind fun l => HM.ret (o :: l)).runAt os n = _
      simp only [HM.bind, HM.runAt]
      rw [runAt_bind]
      refine ⟨_, _, _, h1, ?_⟩
      simp only [HM.runAt, List.length_cons, List.range'_succ]
      rw [show n + 1 + r.length = n + (r.length + 1) by omega]
    · rw [h2 p (by rw [List.length_cons] at hp; omega), obAt_setOb, if_neg (by rw [List.length_cons] at hp; omega)]
theorem obAt_fold : ∀ (ks : List Nat) (bs : List Ob) (os : List Ob), ks.Nodup → ks.length = bs.length →
    (∀ i o, ks[i]? = some o → obAt ((ks.zip bs).foldl (fun os x => setOb os x.1 x.2) os) o = obAt bs i) ∧ ∀ o, o ∉ ks → obAt ((ks.zip bs).foldl (fun os x => setOb os x.1 x.2) os) o = obAt os o
  | [], bs, os, _, _ => ⟨fun i o h => by simp at h, fun o _ => rfl⟩
  | k :: ks, [], os, _, h => by simp at h
  | k :: ks, b :: bs, os, hn, hl => by
    obtain ⟨h1, h2⟩ := List.nodup_cons.1 hn
    obtain ⟨h3, h4⟩ := obAt_fold ks bs (setOb os k b) h2 (by simpa using hl)
    refine ⟨fun i o hi => ?_, fun o ho => ?_⟩
    · rw [List.zip_cons_cons, List.foldl_cons]
      cases i with
      | zero =>
        simp only [List.getElem?_cons_zero, Option.some.injEq] at hi
        subst hi
        rw [h4 k h1, obAt_setOb, if_pos rfl]; rfl
      | succ i => exact h3 i o (by simpa using hi)
    · rw [List.zip_cons_cons, List.foldl_cons, h4 o fun h => ho (by simp [h]), obAt_setOb, if_neg fun h => ho (by simp [h])]

theorem freezeArgs_ok {n : Nat} : ∀ {ms : List Mode} {as : List AV} {vs : List Value} {m : Emb} {os : List Ob}, ORel env w m os → RVL w m os as vs → Ghost env w (freezeArgs ms as) m os fun m' os' bs => RVL w m' os' bs vs
  | _, [], vs, _, _, r, h => .ret r h
  | ms, a :: as, vs, m, os, r, h => by
    obtain ⟨v, t, h1, h2, h3⟩ := RVL_cons.1 h
    have hx : Ghost env w (if ms.headD .asis = .frozen then freezeE a else .ret a) m os fun m' os' b => RV w m' os' b v := by
      split
      · exact (freezeE_ok r h2).mono fun _ _ _ _ _ h => h.1
      · exact .ret r h2
    refine hx.bind fun m1 os1 b r1 g1 h4 => ?_
    refine (freezeArgs_ok (n := n) r1 (h3.go g1 r)).bind fun m2 os2 bs r2 g2 h6 => ?_
    exact .ret r2 (RVL_cons.2 ⟨v, t, h1, RV.go g2 r1 _ h4, h6⟩)

/-- What is lent: in a frame that does not turn these arrays. -/
theorem lendC_ok (r : ORel env w m os) {a b : AV} {v : Value} {n n' : Nat} (h : RV w m os a v) (hr : (lendC a).runAt os n = some (b, os', n')) : os' = os ∧ n' = n ∧ b.plain = a.plain ∧
    ∀ {f : Nat → Option Nat} {m' : Emb} {os'' : List Ob}, Ren false f w m os m' os'' → (∀ o ∈ a.arrs1, ∀ b, m.own b = .mine o → m'.still b) → RV w m' os'' (b.rn false f) v := by
  have lsl : ∀ {es : List AV} {f : Nat → Option Nat}, (AV.lsl es).rn false f = .lsl es := by intro es f; rw [AV.rn]; rfl
  cases a with
  | arr o off len ext =>
    simp only [lendC] at hr
    obtain ⟨es, os1, n1, k1, k2⟩ := runAt_bind.1 hr
    obtain ⟨rfl, rfl, size, hsh⟩ := elemsOf_ok r h k1
    cases hfz : fzEs es with
    | none => rw [hfz] at k2; simp [HM.runAt] at k2
    | some fs =>
      rw [hfz] at k2
      simp only [HM.runAt, Option.some.injEq, Prod.mk.injEq] at k2
      obtain ⟨rfl, rfl, rfl⟩ := k2
      refine ⟨rfl, rfl, rfl, fun {f m' os''} g hs => ?_⟩
      rw [lsl]
      have hfl : fs.length = es.length ∧ AV.clsL fs = true := by
        rcases hsh with ⟨rfl, _⟩ | ⟨b, off', cap, cs, T, fr, _, _, h4⟩
        · simp only [fzEs, Option.some.injEq] at hfz; subst hfz; exact ⟨rfl, by rw [AV.clsL]⟩
        · obtain ⟨_, h5, h6⟩ := fzEs_ok hfz h4; exact ⟨h5, h6⟩
      -- the block and its owner
      simp only [RV] at h
      obtain ⟨_, h⟩ := h
      have hro := r.obs o
      simp only [elemsOf, HM.runAt] at k1
      cases hob : obAt os1 o with
      | row es0 s lk =>
        rw [hob] at h k1 hro
        dsimp only at k1
        split at k1
        case isFalse => simp [HM.runAt] at k1
        rename_i hc
        simp only [HM.runAt, Option.some.injEq, Prod.mk.injEq] at k1
        have hes := k1.1
        have hlen : es.length = len := by rw [← hes, List.length_take, List.length_drop]; omega
        rcases (h.2 hc.1 (by omega)).facts (by omega) with ⟨b, p, cap, N, c1, rfl, hp0, c3, c4, c5, c6⟩ | ⟨_, _, h0, _, a, rfl⟩
        · refine RV_lsl.2 ⟨hfl.2, _, cap, by rw [hfl.1, hlen], by rw [hfl.1, hlen]; exact c6, ?_⟩
          by_cases hl0 : len = 0
          · exact .inl (List.length_eq_zero_iff.1 (by rw [hfl.1, hlen, hl0]))
          · have hp := hp0 (by omega)
            subst hp
            rcases hro with ⟨e0, _⟩ | ⟨b', cs, T, fr, c7, c8, _, c9, hown⟩
            · subst e0; rw [List.length_nil] at hc; omega
            · rw [c1] at c7; injection c7 with c7; subst c7
              have hst : m'.still b := by
                cases lk with
                | mine => exact hs o (by simp [AV.arrs1]) b hown
                | frozen => intro p; rw [g.frozen b hown]; simp
                | lent => exact g.still rfl b (fun p => by have h2 : m.own b = .foreign := hown; rw [h2]; simp)
              have hre : RVE w m os1 s es (cs.toList.drop (off * s)) := by rw [← hes]; exact (c9.drop off (by omega)).take len
              obtain ⟨h5, _, _⟩ := fzEs_ok hfz hre
              have h6 := RVE.ren g s fs h5
              rw [clsL_rn fs hfl.2] at h6
              exact .inr ⟨b, off * s, cs, T, fr, s, rfl, hst, c8, h6⟩
        · refine RV_lsl.2 ⟨hfl.2, a, 0, by rw [hfl.1, hlen, h0], by rw [hfl.1, hlen, h0]; exact Nat.le_refl _, .inl (List.length_eq_zero_iff.1 (by rw [hfl.1, hlen, h0]))⟩
      | _ => rw [hob] at k1; simp [HM.runAt] at k1
  | sl es =>
    simp only [lendC, HM.runAt, Option.some.injEq, Prod.mk.injEq] at hr
    obtain ⟨rfl, rfl, rfl⟩ := hr
    refine ⟨rfl, rfl, rfl, fun {f m' os''} g _ => ?_⟩
    rw [lsl]
    obtain ⟨h0, a, cap, h1, hle, h2⟩ := RV_sl.1 h
    refine RV_lsl.2 ⟨h0, a, cap, h1, hle, ?_⟩
    rcases h2 with h2 | ⟨b, off, cs, T, fr, size, h2, h3, h4, h5⟩
    · exact .inl h2
    · have h6 := RVE.ren g size es h5
      rw [clsL_rn es h0] at h6
      exact .inr ⟨b, off, cs, T, fr, size, h2, fun p => by rw [g.frozen b h3]; simp, h4, h6⟩
  | nils =>
    simp only [lendC, HM.runAt, Option.some.injEq, Prod.mk.injEq] at hr
    obtain ⟨rfl, rfl, rfl⟩ := hr
    refine ⟨rfl, rfl, rfl, fun {f m' os''} g _ => ?_⟩
    rw [lsl]
    obtain ⟨a, rfl⟩ := RV_nils.1 h
    exact RV_lsl.2 ⟨by rw [AV.clsL], a, 0, rfl, Nat.le_refl _, .inl rfl⟩
  | _ =>
    simp only [lendC, HM.runAt, Option.some.injEq, Prod.mk.injEq] at hr
    obtain ⟨rfl, rfl, rfl⟩ := hr
    exact ⟨rfl, rfl, rfl, fun g _ => RV.ren g _ h⟩
theorem lendCs_ok : ∀ {as bs : List AV} {vs : List Value} {os os' : List Ob} {n n' : Nat}, ORel env w m os → RVL w m os as vs → (lendCs as).runAt os n = some (bs, os', n') → os' = os ∧ n' = n ∧ bs.all AV.plain = as.all AV.plain ∧
    ∀ {f : Nat → Option Nat} {m' : Emb} {os'' : List Ob}, Ren false f w m os m' os'' → (∀ o ∈ as.flatMap AV.arrs1, ∀ b, m.own b = .mine o → m'.still b) → RVL w m' os'' (AV.rnL false f bs) vs
  | [], bs, vs, _, _, _, _, r, h, hr => by
    simp only [lendCs, HM.runAt, Option.some.injEq, Prod.mk.injEq] at hr
    obtain ⟨rfl, rfl, rfl⟩ := hr
    exact ⟨rfl, rfl, rfl, fun g _ => RVL.ren g [] h⟩
  | a :: as, bs, vs, _, _, _, _, r, h, hr => by
    obtain ⟨v, t, rfl, h2, h3⟩ := RVL_cons.1 h
    rw [lendCs] at hr
    obtain ⟨b, os1, n1, k1, k2⟩ := runAt_bind.1 hr
    obtain ⟨rfl, rfl, p1, p2⟩ := lendC_ok r h2 k1
    obtain ⟨bs', os2, n2, k3, k4⟩ := runAt_bind.1 k2
    obtain ⟨rfl, rfl, p3, p4⟩ := lendCs_ok r h3 k3
    simp only [HM.runAt, Option.some.injEq, Prod.mk.injEq] at k4
    obtain ⟨rfl, rfl, rfl⟩ := k4
    refine ⟨rfl, rfl, by rw [List.all_cons, List.all_cons, p1, p3], fun g hs => ?_⟩
    rw [AV.rnL]
    exact RVL_cons.2 ⟨v, t, rfl, p2 g fun o ho => hs o (by simp [ho]), p4 g fun o ho => hs o (by rw [List.flatMap_cons, List.mem_append]; exact .inr ho)⟩
theorem lendE_ok (r : ORel env w m os) {a b : AV} {v : Value} {n n' : Nat} (h : RV w m os a v) (hr : (lendE a).runAt os n = some (b, os', n')) : os' = os ∧ n' = n ∧
    ∀ {f : Nat → Option Nat} {m' : Emb} {os'' : List Ob}, Ren false f w m os m' os'' → (∀ o ∈ a.arrs, ∀ b, m.own b = .mine o → m'.still b) → RV w m' os'' (b.rn false f) v := by
  cases a with
  | agg cs =>
    obtain ⟨vs, rfl, h1, h2⟩ := RV_agg.1 h
    simp only [lendE] at hr
    obtain ⟨bs, os1, n1, k1, k2⟩ := runAt_bind.1 hr
    obtain ⟨rfl, rfl, p3, p4⟩ := lendCs_ok r h2 k1
    simp only [HM.runAt, Option.some.injEq, Prod.mk.injEq] at k2
    obtain ⟨rfl, rfl, rfl⟩ := k2
    refine ⟨rfl, rfl, fun g hs => ?_⟩
    rw [AV.rn]
    exact RV_agg.2 ⟨vs, rfl, (rnL_plain _).trans (p3.trans h1), p4 g hs⟩
  | _ => obtain ⟨p1, p2, _, p4⟩ := lendC_ok r h hr; exact ⟨p1, p2, p4⟩
theorem lendArgs_ok : ∀ {ms : List Mode} {as bs : List AV} {vs : List Value} {os os' : List Ob} {n n' : Nat}, ORel env w m os → RVL w m os as vs → (lendArgs ms as).runAt os n = some (bs, os', n') → os' = os ∧ n' = n ∧
    ∀ {f : Nat → Option Nat} {m' : Emb} {os'' : List Ob}, Ren false f w m os m' os'' → (∀ o ∈ (lentOf ms as).flatMap AV.arrs, ∀ b, m.own b = .mine o → m'.still b) → RVL w m' os'' (AV.rnL false f bs) vs
  | _, [], bs, vs, _, _, _, _, r, h, hr => by
    simp only [lendArgs, HM.runAt, Option.some.injEq, Prod.mk.injEq] at hr
    obtain ⟨rfl, rfl, rfl⟩ := hr
    exact ⟨rfl, rfl, fun g _ => RVL.ren g [] h⟩
  | ms, a :: as, bs, vs, _, _, _, _, r, h, hr => by
    obtain ⟨v, t, rfl, h2, h3⟩ := RVL_cons.1 h
    rw [lendArgs] at hr
    obtain ⟨b, os1, n1, k1, k2⟩ := runAt_bind.1 hr
    by_cases hm : ms.headD .asis = .lent
    · rw [if_pos hm] at k1
      obtain ⟨rfl, rfl, p2⟩ := lendE_ok r h2 k1
      obtain ⟨bs', os2, n2, k3, k4⟩ := runAt_bind.1 k2
      obtain ⟨rfl, rfl, p4⟩ := lendArgs_ok r h3 k3
      simp only [HM.runAt, Option.some.injEq, Prod.mk.injEq] at k4
      obtain ⟨rfl, rfl, rfl⟩ := k4
      refine ⟨rfl, rfl, fun g hs => ?_⟩
      rw [AV.rnL]
      rw [lentOf, if_pos hm] at hs
      exact RVL_cons.2 ⟨v, t, rfl, p2 g fun o ho => hs o (by rw [List.flatMap_cons, List.mem_append]; exact .inl ho), p4 g fun o ho => hs o (by rw [List.flatMap_cons, List.mem_append]; exact .inr ho)⟩
    · rw [if_neg hm] at k1
      simp only [HM.runAt, Option.some.injEq, Prod.mk.injEq] at k1
      obtain ⟨rfl, rfl, rfl⟩ := k1
      obtain ⟨bs', os2, n2, k3, k4⟩ := runAt_bind.1 k2
      obtain ⟨rfl, rfl, p4⟩ := lendArgs_ok r h3 k3
      simp only [HM.runAt, Option.some.injEq, Prod.mk.injEq] at k4
      obtain ⟨rfl, rfl, rfl⟩ := k4
      refine ⟨rfl, rfl, fun g hs => ?_⟩
      rw [AV.rnL]
      rw [lentOf, if_neg hm] at hs
      exact RVL_cons.2 ⟨v, t, rfl, RV.ren g a h2, p4 g hs⟩
end
end Go.V
namespace Go.V
section
variable {P : Program} {env : Env} {w w' : World} {m m' : Emb} {os os' : List Ob}

def trOwn (own : List Nat) (k : Nat) (news : List Nat) : Own → Own
  | .mine i => match outOf own k news i with | some o => .mine o | none => .foreign
  | x => x
/-- How the objects lie behind a call. -/
def Emb.back (m : Emb) (size : Nat) (own : List Nat) (k : Nat) (news : List Nat) (mc : Emb) : Emb := {
  own b := if b < size then (match m.own b with | .mine o => if own.contains o then trOwn own k news (mc.own b) else .mine o | x => x) else trOwn own k news (mc.own b)
  blk o := match own.idxOf? o with | some i => mc.blk i | none => match news.idxOf? o with | some j => mc.blk (k + j) | none => m.blk o }
theorem range'_at {n c j : Nat} (h : j < c) : (List.range' n c)[j]? = some (n + j) := by rw [List.getElem?_range' h]; simp
theorem outOf_cases {own : List Nat} {k n c i o : Nat} (h : outOf own k (List.range' n c) i = some o) : own[i]? = some o ∨ (k ≤ i ∧ i - k < c ∧ o = n + (i - k)) := by
  unfold outOf at h
  split at h
  · exact .inl h
  · split at h
    · simp at h
    · have hlt : i - k < c := by have := (List.getElem?_eq_some_iff.1 h).1; simpa using this
      rw [range'_at hlt] at h
      injection h with h
      exact .inr ⟨by omega, hlt, h.symm⟩

theorem notLent_lk {b : Ob} (h : b.notLent = true) : b.lk ≠ some .lent := by
  cases b with
  | var e s l => cases l <;> simp [Ob.lk, Ob.notLent] at h ⊢
  | row e s l => cases l <;> simp [Ob.lk, Ob.notLent] at h ⊢
  | map e l => cases l <;> simp [Ob.lk, Ob.notLent] at h ⊢
  | dead => simp [Ob.lk]
  | free => simp [Ob.lk]

theorem back_ok {own lent : List Nat} {n c : Nat} {mc' : Emb} {objs2 : List Ob} (r : ORel env w m os)
    (hn : (own ++ lent).Nodup) (hfree : ∀ o ∈ own, obAt os o ≠ .free)
    (wf : Went env (own ++ lent).length w (m.sub (own ++ lent) lent.contains) ((own ++ lent).map (subOb (own ++ lent).idxOf? lent.contains os)) w' mc' objs2)
    (hnl : ∀ i, i < own.length ∨ (own ++ lent).length ≤ i → (obAt objs2 i).notLent = true) (hc : objs2.length = (own ++ lent).length + c) (hfr : Fresh os n (n + c))
    (h1 : ∀ i o, own[i]? = some o → obAt os' o = (obAt objs2 i).rn true (outOf own (own ++ lent).length (List.range' n c)))
    (h2 : ∀ j, j < c → obAt os' (n + j) = (obAt objs2 ((own ++ lent).length + j)).rn true (outOf own (own ++ lent).length (List.range' n c)))
    (h3 : ∀ o, o ∉ own → (o < n ∨ n + c ≤ o) → obAt os' o = obAt os o) :
    Next env w m os n w' (m.back w.heap.size own (own ++ lent).length (List.range' n c) mc') os' (n + c) ∧
    Ren true (outOf own (own ++ lent).length (List.range' n c)) w' mc' objs2 (m.back w.heap.size own (own ++ lent).length (List.range' n c) mc') os' := by
  have hno := (List.nodup_append.1 hn).1
  have hdis : ∀ o, o ∈ own → o ∉ lent := fun o ho hl => (List.nodup_append.1 hn).2.2 o ho o hl rfl
  generalize hmc : m.sub (own ++ lent) lent.contains = mc at wf
  generalize hob2 : (own ++ lent).map (subOb (own ++ lent).idxOf? lent.contains os) = objsC at wf
  have hnfree : ∀ j, j < c → obAt os (n + j) = .free := fun j hj => hfr (n + j) (by omega) (by omega)
  have hsep : ∀ j, j < c → n + j ∉ own := fun j hj ho => hfree _ ho (hnfree j hj)
  -- the blocks that are not handed over
  have still : ∀ b, (∀ o ∈ own, m.own b ≠ .mine o) → mc.still b ∧ (m.own b = .frozen → mc.own b = .frozen) := by
    intro b hb
    subst hmc
    refine ⟨fun p => ?_, fun h => by simp [Emb.sub, h]⟩
    simp only [Emb.sub]
    cases hx : m.own b with
    | mine o =>
      dsimp only
      have ho : o ∉ own := fun ho => hb o ho hx
      by_cases hl : lent.contains o = true
      · rw [if_pos hl]; simp
      · rw [if_neg hl]
        have : (own ++ lent).idxOf? o = none := by
          rw [List.idxOf?_eq_none_iff]
          intro hm
          rcases List.mem_append.1 hm with h | h
          · exact ho h
          · exact hl (by simpa using h)
        rw [this]; simp
    | frozen => simp
    | foreign => simp
  have keep : ∀ b, b < w.heap.size → (∀ o ∈ own, m.own b ≠ .mine o) → w'.heap[b]? = w.heap[b]? ∧ mc'.still b ∧ (mc'.own b = .frozen → m.own b = .frozen) := by
    intro b hb ho
    obtain ⟨q1, q2⟩ := wf.kept.block b hb (still b ho).1
    refine ⟨q1, fun p => by rw [q2]; exact (still b ho).1 p, fun h => ?_⟩
    rw [q2] at h
    subst hmc
    simp only [Emb.sub] at h
    cases hx : m.own b with
    | mine o =>
      rw [hx] at h
      dsimp only at h
      split at h
      · simp at h
      · split at h <;> simp at h
    | frozen => rfl
    | foreign => rw [hx] at h; simp at h
  -- the new places of blocks
  have backOwn : ∀ b i o, mc'.own b = .mine i → outOf own (own ++ lent).length (List.range' n c) i = some o → (m.back w.heap.size own (own ++ lent).length (List.range' n c) mc').own b = .mine o := by
    intro b i o hb ho
    simp only [Emb.back]
    split
    · rename_i hlt
      by_cases hx : ∃ p ∈ own, m.own b = .mine p
      · obtain ⟨p, hp, hp2⟩ := hx
        rw [hp2]
        dsimp only
        rw [if_pos (by simpa using hp), hb]
        simp only [trOwn, ho]
      · exact absurd hb ((keep b hlt fun p hp h => hx ⟨p, hp, h⟩).2.1 i)
    · rw [hb]; simp only [trOwn, ho]
  have backFrozen : ∀ b, mc'.own b = .frozen → (m.back w.heap.size own (own ++ lent).length (List.range' n c) mc').own b = .frozen := by
    intro b hb
    simp only [Emb.back]
    split
    · rename_i hlt
      by_cases hx : ∃ p ∈ own, m.own b = .mine p
      · obtain ⟨p, hp, hp2⟩ := hx
        rw [hp2]
        dsimp only
        rw [if_pos (by simpa using hp), hb]
        rfl
      · rw [(keep b hlt fun p hp h => hx ⟨p, hp, h⟩).2.2 hb]
    · rw [hb]; rfl
  have backBlk1 : ∀ i o, own[i]? = some o → (m.back w.heap.size own (own ++ lent).length (List.range' n c) mc').blk o = mc'.blk i := by
    intro i o h
    simp only [Emb.back, idxOf_at hno h]
  have backBlk2 : ∀ j, j < c → (m.back w.heap.size own (own ++ lent).length (List.range' n c) mc').blk (n + j) = mc'.blk ((own ++ lent).length + j) := by
    intro j hj
    have e1 : own.idxOf? (n + j) = none := by rw [List.idxOf?_eq_none_iff]; exact hsep j hj
    have e2 : (List.range' n c).idxOf? (n + j) = some j := idxOf_at List.nodup_range' (range'_at hj)
    simp only [Emb.back, e1, e2]
  have backBlk3 : ∀ o, o ∉ own → (o < n ∨ n + c ≤ o) → (m.back w.heap.size own (own ++ lent).length (List.range' n c) mc').blk o = m.blk o := by
    intro o ho hor
    have e1 : own.idxOf? o = none := by rw [List.idxOf?_eq_none_iff]; exact ho
    have e2 : (List.range' n c).idxOf? o = none := by
      rw [List.idxOf?_eq_none_iff]
      intro hm
      have := List.mem_range'_1.1 hm
      omega
    simp only [Emb.back, e1, e2]
  have backMine : ∀ b o, o ∉ own → m.own b = .mine o → (m.back w.heap.size own (own ++ lent).length (List.range' n c) mc').own b = .mine o := by
    intro b o ho hb
    have hlt := (r.mine b o hb).1
    simp only [Emb.back]
    rw [if_pos hlt, hb]
    dsimp only
    rw [if_neg (by simpa using ho)]
  have ren : Ren true (outOf own (own ++ lent).length (List.range' n c)) w' mc' objs2 (m.back w.heap.size own (own ++ lent).length (List.range' n c) mc') os' := by
    refine ⟨fun i o hio hne => ?_, backFrozen, fun h => by simp at h⟩
    rcases outOf_cases hio with h | ⟨hk, hj, rfl⟩
    · rw [backBlk1 i o h, h1 i o h]
      exact ⟨rfl, Alike.rn hne⟩
    · rw [backBlk2 _ hj, h2 _ hj]
      have : (own ++ lent).length + (i - (own ++ lent).length) = i := by omega
      rw [this]
      exact ⟨rfl, Alike.rn hne⟩
  -- the objects that are not handed over
  have objC : ∀ i o, own[i]? = some o → obAt objsC i = (obAt os o).rn false (own ++ lent).idxOf? ∧ mc.blk i = m.blk o ∧ i < (own ++ lent).length := by
    intro i o h
    have hlt := (List.getElem?_eq_some_iff.1 h).1
    have hko : (own ++ lent)[i]? = some o := by rw [List.getElem?_append_left hlt]; exact h
    subst hmc hob2
    refine ⟨?_, by simp [Emb.sub, hko], by rw [List.length_append]; omega⟩
    rw [obAt_map, hko]
    dsimp only
    unfold subOb
    rw [if_neg]
    simpa using hdis o (List.mem_of_getElem? h)
  have goes : Goes w m os w' (m.back w.heap.size own (own ++ lent).length (List.range' n c) mc') os' := by
    refine ⟨⟨wf.kept.size, wf.kept.os, wf.kept.tape, wf.kept.output, fun b hb hst => ?_, wf.kept.cells⟩, fun o => ?_⟩
    · refine ⟨(keep b hb fun o _ => hst o).1, ?_⟩
      have e : ∀ x, m.own b = x → (match x with | .mine o => if own.contains o then trOwn own (own ++ lent).length (List.range' n c) (mc'.own b) else .mine o | x => x) = x := by
        intro x hx
        cases x with
        | mine o => exact absurd hx (hst o)
        | frozen => rfl
        | foreign => rfl
      show (if b < w.heap.size then _ else _) = _
      rw [if_pos hb]
      exact e _ rfl
    · by_cases ho : o ∈ own
      · obtain ⟨i, hi⟩ := List.getElem?_of_mem ho
        obtain ⟨q1, q2, q3⟩ := objC i o hi
        have hg := wf.obj i q3
        rw [q1, q2] at hg
        rw [h1 i o hi, backBlk1 i o hi]
        revert hg
        cases obAt os o <;> cases obAt objs2 i <;> simp only [Ob.rn, ObGo] <;> intro hg <;> first
          | trivial
          | exact hg
          | exact hg.elim
          | (obtain ⟨a1, a2, a3⟩ := hg
             rw [rnL_length] at a2 a3
             rw [rnL_length]
             exact ⟨a1, a2, a3⟩)
      · by_cases hor : o < n ∨ n + c ≤ o
        · rw [h3 o ho hor, backBlk3 o ho hor]
          have hro := r.obs o
          cases hob : obAt os o with
          | var e s l => exact rfl
          | row e s l => exact ⟨rfl, Nat.le_refl _, fun _ => rfl⟩
          | map ents lk =>
            rw [hob] at hro
            obtain ⟨b', es', clock', k1, k2, _, _, _, k6⟩ := hro
            refine ⟨rfl, fun b es clock j me hb he hj => ?_⟩
            rw [k1] at hb; injection hb with hb; subst hb
            refine ⟨es, clock, me, ?_, hj, rfl⟩
            rw [(keep b' (lt_of_heap k2) fun p hp hpb => ?_).1]
            · exact he
            · cases lk with
              | mine => have k6 : m.own b' = .mine o := k6; rw [k6] at hpb; injection hpb with hpb; exact ho (hpb ▸ hp)
              | frozen => have k6 : m.own b' = .frozen := k6; rw [k6] at hpb; simp at hpb
              | lent => have k6 : m.own b' = .foreign := k6; rw [k6] at hpb; simp at hpb
          | dead => trivial
          | free => trivial
        · have : obAt os o = .free := hfr o (by omega) (by omega)
          rw [this]; trivial
  have relObj : ∀ i o, outOf own (own ++ lent).length (List.range' n c) i = some o → (obAt objs2 i).notLent = true → (m.back w.heap.size own (own ++ lent).length (List.range' n c) mc').blk o = mc'.blk i →
      RO w' (m.back w.heap.size own (own ++ lent).length (List.range' n c) mc') os' o ((obAt objs2 i).rn true (outOf own (own ++ lent).length (List.range' n c))) := by
    intro i o hio hnl hblk
    refine RO.ren ren hblk (fun b lk hb how hlk => ?_) (wf.rel.obs i)
    cases lk with
    | mine => exact backOwn b i o how hio
    | frozen => exact backFrozen b how
    | lent => exact absurd hlk (notLent_lk hnl)
  have out1 : ∀ i o, own[i]? = some o → outOf own (own ++ lent).length (List.range' n c) i = some o := by
    intro i o h
    unfold outOf
    rw [if_pos (List.getElem?_eq_some_iff.1 h).1]; exact h
  have out2 : ∀ j, j < c → outOf own (own ++ lent).length (List.range' n c) ((own ++ lent).length + j) = some (n + j) := by
    intro j hj
    unfold outOf
    rw [if_neg (by rw [List.length_append]; omega), if_neg (by omega), show (own ++ lent).length + j - (own ++ lent).length = j by omega, range'_at hj]
  refine ⟨⟨⟨fun o => ?_, fun b o h => ?_, fun b h => ?_, fun x e h => ?_⟩, goes, by omega, fun p hp hf => ?_⟩, ren⟩
  · by_cases ho : o ∈ own
    · obtain ⟨i, hi⟩ := List.getElem?_of_mem ho
      rw [h1 i o hi]
      exact relObj i o (out1 i o hi) (hnl i (.inl (List.getElem?_eq_some_iff.1 hi).1)) (backBlk1 i o hi)
    · by_cases hor : o < n ∨ n + c ≤ o
      · rw [h3 o ho hor]
        refine (r.obs o).go goes r (backBlk3 o ho hor) fun b hb => ⟨?_, backMine b o ho hb⟩
        exact (keep b (r.mine b o hb).1 fun p hp hpb => by rw [hb] at hpb; injection hpb with hpb; exact ho (hpb ▸ hp)).1
      · obtain ⟨j, hj, rfl⟩ : ∃ j, j < c ∧ o = n + j := ⟨o - n, by omega, by omega⟩
        rw [h2 j hj]
        exact relObj _ _ (out2 j hj) (hnl _ (.inr (by omega))) (backBlk2 j hj)
  · -- an own block
    have fromC : ∀ i, mc'.own b = .mine i → outOf own (own ++ lent).length (List.range' n c) i = some o → b < w'.heap.size ∧ (m.back w.heap.size own (own ++ lent).length (List.range' n c) mc').blk o = some b ∧ (obAt os' o).lk = some .mine := by
      intro i hi hio
      obtain ⟨a1, a2, a3⟩ := wf.rel.mine b i hi
      rcases outOf_cases hio with h | ⟨hk, hj, rfl⟩
      · rw [backBlk1 i o h, h1 i o h, rn_lk]; exact ⟨a1, a2, a3⟩
      · rw [backBlk2 _ hj, h2 _ hj, rn_lk, show (own ++ lent).length + (i - (own ++ lent).length) = i by omega]; exact ⟨a1, a2, a3⟩
    have fromTr : trOwn own (own ++ lent).length (List.range' n c) (mc'.own b) = .mine o → b < w'.heap.size ∧ (m.back w.heap.size own (own ++ lent).length (List.range' n c) mc').blk o = some b ∧ (obAt os' o).lk = some .mine := by
      intro ht
      cases hx : mc'.own b with
      | mine i =>
        rw [hx] at ht
        simp only [trOwn] at ht
        cases hio : outOf own (own ++ lent).length (List.range' n c) i with
        | none => rw [hio] at ht; simp at ht
        | some p =>
          rw [hio] at ht
          injection ht with ht
          subst ht
          exact fromC i hx hio
      | frozen => rw [hx] at ht; simp [trOwn] at ht
      | foreign => rw [hx] at ht; simp [trOwn] at ht
    have h' := h
    simp only [Emb.back] at h'
    split at h'
    · cases hx : m.own b with
      | mine p =>
        rw [hx] at h'
        dsimp only at h'
        split at h'
        · exact fromTr h'
        · rename_i hp
          injection h' with h'
          subst h'
          have hp' : p ∉ own := by simpa using hp
          obtain ⟨a1, a2, a3⟩ := r.mine b p hx
          have hor : p < n ∨ n + c ≤ p := by
            rcases Nat.lt_or_ge p n with q | q
            · exact .inl q
            · rcases Nat.lt_or_ge p (n + c) with q2 | q2
              · have := hfr p q q2; rw [this] at a3; simp [Ob.lk] at a3
              · exact .inr q2
          rw [backBlk3 p hp' hor, h3 p hp' hor]
          exact ⟨Nat.lt_of_lt_of_le a1 wf.kept.size, a2, a3⟩
      | frozen => rw [hx] at h'; simp at h'
      | foreign => rw [hx] at h'; simp at h'
    · exact fromTr h'
  · have fromTr : trOwn own (own ++ lent).length (List.range' n c) (mc'.own b) = .frozen → b < w'.heap.size := by
      intro ht
      cases hx : mc'.own b with
      | mine i => rw [hx] at ht; simp only [trOwn] at ht; split at ht <;> simp at ht
      | frozen => exact wf.rel.frozen b hx
      | foreign => rw [hx] at ht; simp [trOwn] at ht
    simp only [Emb.back] at h
    split at h
    · rename_i hlt; exact Nat.lt_of_lt_of_le hlt wf.kept.size
    · exact fromTr h
  · obtain ⟨g0, g1, cs, T, fr, g2, g3⟩ := r.glob x e h
    obtain ⟨g4, g5⟩ := goes.frozen r g1
    exact ⟨g0, g4, cs, T, fr, g5.trans g2, g3.go goes r⟩
  · have hpo : p ∉ own := fun ho => hfree p ho hf
    rw [h3 p hpo (.inr hp)]; exact hf

/-- The contracts of functions, of an evaluator. -/
def CallsV (P : Program) (env : Env) (run : FuncId → List AV → List Ob → Option (AV × List Ob)) : Prop :=
  ∀ f args objs v objs', run f args objs = some (v, objs') → ∀ (w : World) (m : Emb) (argv : Array Value), RVL w m objs args argv.toList → ORel env w m objs →
    Calls P f argv w fun e w' => ∃ m' vv, e = .returned vv ∧ Went env objs.length w m objs w' m' objs' ∧ RV w' m' objs' v vv

theorem disj_spec {a b : List Nat} (h : disj a b = true) : ∀ x ∈ a, x ∉ b := by
  intro x hx hb
  unfold disj at h
  rw [List.all_eq_true] at h
  have := h x hx
  simp at this
  exact this hb

theorem callE_ok {run : FuncId → List AV → List Ob → Option (AV × List Ob)} (hc : CallsV P env run) (hknown : ∀ g args objs r, run g args objs = some r → (env.fn g).isSome = true) (r : ORel env w m os) {f : FuncId} {args : List AV} {argv : Array Value} (ha : RVL w m os args argv.toList)
    {n n' : Nat} {a : AV} (hr : (callE env run f args).runAt os n = some (a, os', n')) (hfr : Fresh os n n') :
    (Calls P f argv w fun e w' => ∃ m' vv, e = .returned vv ∧ Next env w m os n w' m' os' n' ∧ RV w' m' os' a vv) ∧ (env.fn f).isSome = true := by
  unfold callE at hr
  obtain ⟨args0, os0, n0, k1, hr1⟩ := runAt_bind.1 hr
  obtain ⟨m0, nx0, ha0⟩ := freezeArgs_ok (n := n) r ha n args0 os0 n0 k1 (hfr.mono (runAt_le hr1))
  have hfr0 := nx0.fresh hfr
  obtain ⟨args1, os1, n1, k2, hr2⟩ := runAt_bind.1 hr1
  obtain ⟨rfl, rfl, hlend⟩ := lendArgs_ok nx0.rel ha0 k2
  obtain ⟨own, os2, n2, k3, hr3⟩ := runAt_bind.1 hr2
  obtain ⟨own', _, q1, _, hno⟩ := gather_run (os := os1) (k := n1) 8 (dedup (AV.refsL (ownOf (env.pol.mode f) args1)) []) (dedup_nodup _ _ List.nodup_nil).1
  rw [q1] at k3
  simp only [Option.some.injEq, Prod.mk.injEq] at k3
  obtain ⟨rfl, rfl, rfl⟩ := k3
  obtain ⟨lent, os2, n2, k3, hr4⟩ := runAt_bind.1 hr3
  obtain ⟨lent', _, q2, _, hnl⟩ := gather_run (os := os1) (k := n1) 8 (dedup (AV.refsL (lentOf (env.pol.mode f) args1)) []) (dedup_nodup _ _ List.nodup_nil).1
  rw [q2] at k3
  simp only [Option.some.injEq, Prod.mk.injEq] at k3
  obtain ⟨rfl, rfl, rfl⟩ := k3
  obtain ⟨obs, os2, n2, k3, hr5⟩ := runAt_bind.1 hr4
  rw [getObs_run] at k3
  simp only [Option.some.injEq, Prod.mk.injEq] at k3
  obtain ⟨rfl, rfl, rfl⟩ := k3
  obtain ⟨obl, os2, n2, k3, hr6⟩ := runAt_bind.1 hr5
  rw [getObs_run] at k3
  simp only [Option.some.injEq, Prod.mk.injEq] at k3
  obtain ⟨rfl, rfl, rfl⟩ := k3
  split at hr6
  case isFalse => simp [HM.runAt] at hr6
  rename_i hcond
  rw [Bool.and_eq_true] at hcond
  obtain ⟨hdis, hobs⟩ := hcond
  have hdis := disj_spec hdis
  have hobs' : ∀ o ∈ own', obAt os1 o ≠ .free := by
    intro o ho hf
    rw [List.all_eq_true] at hobs
    have := hobs (obAt os1 o) (List.mem_map_of_mem ho)
    rw [hf] at this
    simp [Ob.isOb] at this
  have hn : (own' ++ lent').Nodup := by
    rw [List.nodup_append]
    exact ⟨hno, hnl, fun a ha b hb he => hdis a ha (he ▸ List.mem_append.2 (.inl hb))⟩
  have hobjs' : (own'.map (obAt os1)).map (Ob.rn false (own' ++ lent').idxOf?) ++ (lent'.map (obAt os1)).map (fun b => (b.rn false (own' ++ lent').idxOf?).lend) = (own' ++ lent').map (subOb (own' ++ lent').idxOf? lent'.contains os1) := by
    rw [List.map_append, List.map_map, List.map_map]
    congr 1
    · apply List.map_congr_left
      intro o ho
      simp only [Function.comp, subOb]
      rw [if_neg]
      simpa using fun hl => hdis o ho (List.mem_append.2 (.inl hl))
    · apply List.map_congr_left
      intro o ho
      simp only [Function.comp, subOb]
      rw [if_pos]
      simpa using ho
  rw [hobjs'] at hr6
  cases hrun : run f (AV.rnL false (own' ++ lent').idxOf? args1) ((own' ++ lent').map (subOb (own' ++ lent').idxOf? lent'.contains os1)) with
  | none => rw [hrun] at hr6; simp [HM.runAt] at hr6
  | some p =>
    obtain ⟨v, objs2⟩ := p
    rw [hrun] at hr6
    dsimp only at hr6
    have g := sub_ren (w := w) (m := m0) (os := os1) (keep := own' ++ lent') (lend := lent'.contains)
    have hargs := hlend g (fun o ho b hb p => by
      have hnot : o ∉ own' := fun h => hdis o h (List.mem_append.2 (.inr ho))
      simp only [Emb.sub, hb]
      by_cases hl : lent'.contains o = true
      · rw [if_pos hl]; simp
      · rw [if_neg hl]
        have : (own' ++ lent').idxOf? o = none := by
          rw [List.idxOf?_eq_none_iff]
          intro hm
          rcases List.mem_append.1 hm with h | h
          · exact hnot h
          · exact hl (by simpa using h)
        rw [this]; simp)
    have hcall := hc f _ _ v objs2 hrun w (m0.sub (own' ++ lent') lent'.contains) argv hargs (sub_rel hn nx0.rel)
    refine ⟨hcall.mono ?_, hknown _ _ _ _ hrun⟩
    rintro e w' ⟨mc', vv, rfl, wf, hv⟩
    split at hr6
    case isFalse => simp [HM.runAt] at hr6
    rename_i hnlent
    rw [List.length_map] at wf
    obtain ⟨news, os3, n3, k4, hr7⟩ := runAt_bind.1 hr6
    obtain ⟨os3', k5, k6⟩ := newObs_run ((objs2.drop (own' ++ lent').length).map fun _ => Ob.dead) os1 n1
    rw [k5] at k4
    simp only [Option.some.injEq, Prod.mk.injEq] at k4
    obtain ⟨rfl, rfl, rfl⟩ := k4
    obtain ⟨_, os4, n4, k7, hr8⟩ := runAt_bind.1 hr7
    rw [putObs_run] at k7
    simp only [Option.some.injEq, Prod.mk.injEq] at k7
    obtain ⟨_, rfl, rfl⟩ := k7
    simp only [HM.runAt, Option.some.injEq, Prod.mk.injEq] at hr8
    obtain ⟨rfl, rfl, rfl⟩ := hr8
    have hlen : ((objs2.drop (own' ++ lent').length).map fun _ => Ob.dead).length = objs2.length - (own' ++ lent').length := by rw [List.length_map, List.length_drop]
    rw [hlen] at hfr0 k6 ⊢
    generalize hcnt : objs2.length - (own' ++ lent').length = c at hfr0 k6 ⊢
    have hlc : objs2.length = (own' ++ lent').length + c := by have := wf.len; omega
    have hol : own'.length ≤ objs2.length := by rw [hlc, List.length_append]; omega
    have hfree3 : ∀ j, j < c → n1 + j ∉ own' := fun j hj ho => hobs' _ ho (hfr0 (n1 + j) (by omega) (by omega))
    have hnod : (own' ++ List.range' n1 c).Nodup := by
      rw [List.nodup_append]
      refine ⟨hno, List.nodup_range', fun a ha b hb he => ?_⟩
      subst he
      obtain ⟨h4, h5⟩ := List.mem_range'_1.1 hb
      exact hfree3 (a - n1) (by omega) (by rw [show n1 + (a - n1) = a by omega]; exact ha)
    have hzl : (own' ++ List.range' n1 c).length = ((objs2.take own'.length ++ objs2.drop (own' ++ lent').length).map (Ob.rn true (outOf own' (own' ++ lent').length (List.range' n1 c)))).length := by
      simp only [List.length_append, List.length_range', List.length_map, List.length_take, List.length_drop] at hlc hcnt ⊢
      omega
    obtain ⟨z1, z2⟩ := obAt_fold _ _ os3' hnod hzl
    have hat : ∀ i, obAt ((objs2.take own'.length ++ objs2.drop (own' ++ lent').length).map (Ob.rn true (outOf own' (own' ++ lent').length (List.range' n1 c)))) i =
        (obAt (objs2.take own'.length ++ objs2.drop (own' ++ lent').length) i).rn true (outOf own' (own' ++ lent').length (List.range' n1 c)) := by
      intro i
      generalize objs2.take own'.length ++ objs2.drop (own' ++ lent').length = L
      induction L generalizing i with
      | nil => cases i <;> rfl
      | cons x xs ih => cases i with
        | zero => rfl
        | succ i => exact ih i
    have htk : ∀ i, i < own'.length → obAt (objs2.take own'.length ++ objs2.drop (own' ++ lent').length) i = obAt objs2 i := by
      intro i hi
      have hsplit : objs2 = objs2.take own'.length ++ objs2.drop own'.length := (List.take_append_drop _ _).symm
      rw [obAt_append, if_pos (by rw [List.length_take]; omega)]
      conv => rhs; rw [hsplit]
      rw [obAt_append, if_pos (by rw [List.length_take]; omega)]
    have hdp : ∀ j, obAt (objs2.take own'.length ++ objs2.drop (own' ++ lent').length) (own'.length + j) = obAt objs2 ((own' ++ lent').length + j) := by
      intro j
      have hsplit : objs2 = objs2.take (own' ++ lent').length ++ objs2.drop (own' ++ lent').length := (List.take_append_drop _ _).symm
      rw [obAt_append, if_neg (by rw [List.length_take]; omega), List.length_take, Nat.min_eq_left hol, show own'.length + j - own'.length = j by omega]
      conv => rhs; rw [hsplit]
      rw [obAt_append, if_neg (by rw [List.length_take]; omega), List.length_take, Nat.min_eq_left (by omega), show (own' ++ lent').length + j - (own' ++ lent').length = j by omega]
    have hnl2 : ∀ i, i < own'.length ∨ (own' ++ lent').length ≤ i → (obAt objs2 i).notLent = true := by
      have hall : ∀ (L : List Ob), L.all Ob.notLent = true → ∀ i, (obAt L i).notLent = true := by
        intro L
        induction L with
        | nil => intro _ i; cases i <;> rfl
        | cons x xs ih =>
          intro h i
          rw [List.all_cons, Bool.and_eq_true] at h
          cases i with
          | zero => exact h.1
          | succ i => exact ih h.2 i
      intro i hi
      rcases hi with hi | hi
      · rw [← htk i hi]; exact hall _ hnlent i
      · have := hdp (i - (own' ++ lent').length)
        rw [show (own' ++ lent').length + (i - (own' ++ lent').length) = i by omega] at this
        rw [← this]; exact hall _ hnlent _
    obtain ⟨nx, gr⟩ := back_ok (os' := ((own' ++ List.range' n1 c).zip ((objs2.take own'.length ++ objs2.drop (own' ++ lent').length).map (Ob.rn true (outOf own' (own' ++ lent').length (List.range' n1 c))))).foldl (fun os x => setOb os x.1 x.2) os3')
      (n := n1) (c := c) nx0.rel hn hobs' wf hnl2 hlc hfr0
      (fun i o hi => by
        have hlt := (List.getElem?_eq_some_iff.1 hi).1
        rw [z1 i o (by rw [List.getElem?_append_left hlt]; exact hi), hat, htk i hlt])
      (fun j hj => by
        rw [z1 (own'.length + j) (n1 + j) (by rw [List.getElem?_append_right (by omega), show own'.length + j - own'.length = j by omega, range'_at hj]), hat, hdp])
      (fun o ho hor => by
        rw [z2 o (fun hm => by
          rcases List.mem_append.1 hm with h | h
          · exact ho h
          · have := List.mem_range'_1.1 h; omega), k6 o hor])
    exact ⟨_, vv, rfl, nx0.trans nx, RV.ren gr v hv⟩
end
end Go.V
