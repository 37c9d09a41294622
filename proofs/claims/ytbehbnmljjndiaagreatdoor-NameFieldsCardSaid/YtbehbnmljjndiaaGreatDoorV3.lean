/-
  Slices, appends, indices, operations: the evaluator agrees with the machine.
-/
import Derived.Test.YtbehbnmljjndiaaGreatDoorV2
import Derived.Deep.Upon
import Derived.Laws.StructEq
import Derived.Laws.Tables
set_option linter.unusedVariables false
set_option linter.unusedSimpArgs false
namespace Go.V
section
variable {P : Program} {env : Env} {w w' : World} {m m' : Emb} {os os' : List Ob}

theorem putE_RVC {nest : Bool} {e : AV} {l : List Value} (r : ORel env w m os) (h : RVC w m os e l) : Ghost env w (putE nest e) m os fun m' os' a => RVC w m' os' a l := by
  cases nest with
  | true => exact .ret r h
  | false =>
    rcases RVC_cases h with ⟨cs, rfl⟩ | hp
    · have h := RVC_agg.1 h
      exact (freezeCs_ok r h.2).bind fun m1 os1 a r1 g1 ⟨h4, h5⟩ => .ret r1 (RVC_agg.2 ⟨h5.trans h.1, h4⟩)
    · obtain ⟨v, h1, h2⟩ := (RVC_plain hp).1 h
      have : putE false e = freeze e := by cases e <;> first | rfl | simp [AV.plain] at hp
      rw [this]
      exact (freeze_ok r h2).mono fun m1 os1 a r1 g1 ⟨h4, h5⟩ => (RVC_plain (h5.trans hp)).2 ⟨v, h1, h4⟩
theorem putEs_RVE {nest : Bool} {size : Nat} : ∀ {es : List AV} {l : List Value} {m : Emb} {os : List Ob}, ORel env w m os → RVE w m os size es l →
    Ghost env w (putEs nest es) m os fun m' os' as => RVE w m' os' size as l ∧ as.length = es.length
  | [], l, _, _, r, h => .ret r ⟨h, rfl⟩
  | e :: es, l, m, os, r, h => by
    obtain ⟨us, t, h1, h2, h3, h0⟩ := RVE_cons.1 h
    refine (putE_RVC r h3).bind fun m1 os1 a r1 g1 h4 => ?_
    refine (putEs_RVE r1 (h0.go g1 r)).bind fun m2 os2 as r2 g2 ⟨h6, h7⟩ => ?_
    exact .ret r2 ⟨RVE_cons.2 ⟨us, t, h1, h2, h4.go g2 r1, h6⟩, by simp [h7]⟩

theorem RVE_size {size size' : Nat} {es : List AV} {l : List Value} (h : RVE w m os size' es l) (hf : fitsL size es = true) (hne : es ≠ []) : size' = size := by
  cases es with
  | nil => exact absurd rfl hne
  | cons e es =>
    obtain ⟨us, t, h1, h2, h3, _⟩ := RVE_cons.1 h
    simp only [fitsL, List.all_cons, Bool.and_eq_true, beq_iff_eq] at hf
    have := RVC_length h3
    omega
/-- the elements' cells and what lies behind them -/
theorem RVE_split {size : Nat} : ∀ {es : List AV} {l : List Value}, RVE w m os size es l → ∃ rest, l = l.take (es.length * size) ++ rest ∧ RVE w m os size es (l.take (es.length * size)) ∧ (l.take (es.length * size)).length = es.length * size
  | [], l, _ => ⟨l, by simp, RVE_nil, by simp⟩
  | e :: es, l, h => by
    obtain ⟨us, t, h1, h2, h3, h4⟩ := RVE_cons.1 h
    obtain ⟨rest, h5, h6, h7⟩ := RVE_split h4
    subst h1
    have e1 : (e :: es).length * size = us.length + es.length * size := by rw [List.length_cons, Nat.succ_mul]; omega
    rw [e1, List.take_length_add_append]
    refine ⟨rest, by rw [List.append_assoc, ← h5], RVE_cons.2 ⟨us, _, rfl, h2, h3, h6⟩, by rw [List.length_append, h7]⟩
theorem RVE_one {size : Nat} : ∀ {es : List AV} {l : List Value}, RVE w m os size es l → ∀ v ∈ l.take (es.length * size), v.oneCell' = true
  | [], l, _, v, hv => by simp at hv
  | e :: es, l, h, v, hv => by
    obtain ⟨us, t, h1, h2, h3, h4⟩ := RVE_cons.1 h
    subst h1
    have e1 : (e :: es).length * size = us.length + es.length * size := by rw [List.length_cons, Nat.succ_mul]; omega
    rw [e1, List.take_length_add_append] at hv
    rcases List.mem_append.1 hv with h5 | h5
    · obtain ⟨h6, h7⟩ := RVC_cells h3
      exact RVL_one h6 h7 v h5
    · exact RVE_one h4 v h5
theorem RVE_append {size : Nat} {bs : List AV} {k : List Value} (hb : RVE w m os size bs k) : ∀ {as : List AV} {l : List Value}, RVE w m os size as l → l.length = as.length * size → RVE w m os size (as ++ bs) (l ++ k)
  | [], l, _, hl => by
    have : l = [] := List.length_eq_zero_iff.1 (by simpa using hl)
    subst this; exact hb
  | a :: as, l, h, hl => by
    obtain ⟨us, t, h1, h2, h3, h4⟩ := RVE_cons.1 h
    subst h1
    rw [List.length_append, List.length_cons, Nat.succ_mul] at hl
    rw [List.cons_append, List.append_assoc]
    exact RVE_cons.2 ⟨us, _, rfl, h2, h3, RVE_append hb h4 (by omega)⟩
theorem RVE_more {size : Nat} {k : List Value} : ∀ {as : List AV} {l : List Value}, RVE w m os size as l → RVE w m os size as (l ++ k)
  | [], _, _ => RVE_nil
  | a :: as, l, h => by
    obtain ⟨us, t, h1, h2, h3, h4⟩ := RVE_cons.1 h
    subst h1
    rw [List.append_assoc]
    exact RVE_cons.2 ⟨us, _, rfl, h2, h3, RVE_more h4⟩

theorem cell_seg {b off : Nat} {cs : Array Value} {T : TypeId} {fr : Nat × Nat} {k : Nat} (h : w.heap[b]? = some (.cells cs T fr)) :
    ∀ j u, ((cs.toList.drop off).take k)[j]? = some u → w.cell? ((⟨b, off, none⟩ : Addr).add j) = some u := by
  intro j u hj
  rw [cell_add h]
  rw [List.getElem?_take] at hj
  split at hj
  · rw [List.getElem?_drop] at hj
    rw [← Array.getElem?_toList]; exact hj
  · simp at hj

/-- What a slice shows: its elements' cells, at its address. -/
def Shown (w : World) (m : Emb) (os : List Ob) (size : Nat) (es : List AV) (v : Value) : Prop :=
  (es = [] ∧ ∃ a cap, v = .slice a 0 cap) ∨
    ∃ b off cap cs T fr, v = .slice (some ⟨b, off, none⟩) es.length cap ∧ w.heap[b]? = some (.cells cs T fr) ∧ RVE w m os size es (cs.toList.drop off)
theorem elemsOf_ok {x : AV} {v : Value} {n n' : Nat} {es : List AV} (r : ORel env w m os) (h : RV w m os x v) (he : (elemsOf x).runAt os n = some (es, os', n')) :
    os' = os ∧ n' = n ∧ ∃ size, Shown w m os size es v := by
  cases x with
  | sl fs =>
    obtain ⟨_, a, cap, rfl, _, h1⟩ := RV_sl.1 h
    simp only [elemsOf, HM.runAt, Option.some.injEq, Prod.mk.injEq] at he
    obtain ⟨rfl, rfl, rfl⟩ := he
    refine ⟨rfl, rfl, ?_⟩
    rcases h1 with rfl | ⟨b, off, cs, T, fr, size, rfl, _, h2, h3⟩
    · exact ⟨0, .inl ⟨rfl, a, cap, rfl⟩⟩
    · exact ⟨size, .inr ⟨b, off, cap, cs, T, fr, rfl, h2, h3⟩⟩
  | lsl fs =>
    obtain ⟨_, a, cap, rfl, _, h1⟩ := RV_lsl.1 h
    simp only [elemsOf, HM.runAt, Option.some.injEq, Prod.mk.injEq] at he
    obtain ⟨rfl, rfl, rfl⟩ := he
    refine ⟨rfl, rfl, ?_⟩
    rcases h1 with rfl | ⟨b, off, cs, T, fr, size, rfl, _, h2, h3⟩
    · exact ⟨0, .inl ⟨rfl, a, cap, rfl⟩⟩
    · exact ⟨size, .inr ⟨b, off, cap, cs, T, fr, rfl, h2, h3⟩⟩
  | nils =>
    obtain ⟨a, rfl⟩ := RV_nils.1 h
    simp only [elemsOf, HM.runAt, Option.some.injEq, Prod.mk.injEq] at he
    obtain ⟨rfl, rfl, rfl⟩ := he
    exact ⟨rfl, rfl, 0, .inl ⟨rfl, a, 0, rfl⟩⟩
  | arr o off len ext =>
    simp only [RV] at h
    obtain ⟨_, h⟩ := h
    have hr := r.obs o
    simp only [elemsOf, HM.runAt] at he
    cases hob : obAt os o with
    | row fs s lk =>
      rw [hob] at h he hr
      dsimp only at he
      split at he
      · rename_i hc
        simp only [HM.runAt, Option.some.injEq, Prod.mk.injEq] at he
        obtain ⟨rfl, rfl, rfl⟩ := he
        refine ⟨rfl, rfl, s, ?_⟩
        have hlen : ((fs.drop off).take len).length = len := by rw [List.length_take, List.length_drop]; omega
        rcases (h.2 hc.1 (by omega)).facts (by omega) with ⟨b, p, cap, n, h1, rfl, hp0, _, _, _, hlc⟩ | ⟨_, _, h0, _, a, rfl⟩
        · rcases hr with ⟨h2, _⟩ | ⟨b', cs, T, fr, h2, h3, _, h4, _⟩
          · subst h2
            have : len = 0 := by simp at hc; omega
            subst this
            exact .inl ⟨by simp, _, cap, rfl⟩
          · rw [h1] at h2; injection h2 with h2; subst h2
            by_cases hl0 : len = 0
            · subst hl0
              exact .inl ⟨by simp, _, cap, rfl⟩
            · have := hp0 (by omega)
              subst this
              exact .inr ⟨b, off * s, cap, cs, T, fr, by rw [hlen], h3, (h4.drop off (by omega)).take len⟩
        · subst h0
          exact .inl ⟨by simp, a, 0, rfl⟩
      · simp [HM.runAt] at he
    | _ => rw [hob] at he; simp [HM.runAt] at he
  | _ => simp [elemsOf, HM.runAt] at he

theorem firstCells_str (size : Nat) (s : ByteArray) (w' : World) : (Builtin.firstCells size s.size (.string s)).run P w' = .ok (byteCells s).toArray w' := firstCells_string s w'
theorem RVE_bytes : ∀ (l : List UInt8), RVE w m os 1 (l.map fun b => .int .u8 b.toNat) (l.map fun b => .int .u8 b.toNat)
  | [] => RVE_nil
  | b :: l => RVE_cons.2 ⟨[.int .u8 b.toNat], _, rfl, rfl, ⟨rfl, _, rfl, by simp only [RV]⟩, RVE_bytes l⟩

/-- What is appended. -/
theorem srcE_ok (ok : EnvOK P env) {nest : Bool} {tx : TypeId} {x : AV} {v : Value} (r : ORel env w m os) (hk : srcT env tx = true) (hx : RV w m os x v) :
    Ghost env w (srcE nest x) m os fun m' os' xs => ∀ size, fitsL size xs = true → ∃ news, Src P size tx v xs.length news w ∧ RVE w m' os' size xs news ∧ news.length = xs.length * size := by
  have hkind : (∃ e', P.underlying tx = some (.slice e')) ∨ P.underlying tx = some .string := by
    unfold srcT at hk
    split at hk
    · rename_i e s b z hti
      obtain ⟨_, _, _, _, h, _⟩ := ok.ty tx _ hti
      exact .inl ⟨_, h⟩
    · rename_i s b z hti
      obtain ⟨_, _, _, _, h, _⟩ := ok.ty tx _ hti
      exact .inr h
    · simp at hk
  have slices : (x = .nils ∨ (∃ es, x = .sl es) ∨ (∃ es, x = .lsl es) ∨ ∃ o off len ext, x = .arr o off len ext) → Ghost env w ((elemsOf x).bind fun xs => putEs nest xs) m os fun m' os' xs => ∀ size, fitsL size xs = true → ∃ news, Src P size tx v xs.length news w ∧ RVE w m' os' size xs news ∧ news.length = xs.length * size := by
    intro _ n a os' n' hr hfr
    obtain ⟨es, os1, n1, h1, h2⟩ := runAt_bind.1 hr
    obtain ⟨rfl, rfl, size0, hsh⟩ := elemsOf_ok r hx h1
    rcases hsh with ⟨rfl, a', cap, rfl⟩ | ⟨b, off, cap, cs, T, fr, rfl, h3, h4⟩
    · simp only [putEs, HM.runAt, Option.some.injEq, Prod.mk.injEq] at h2
      obtain ⟨rfl, rfl, rfl⟩ := h2
      refine ⟨m, .refl r, fun size _ => ⟨[], ⟨hkind, fun _ => rfl, ?_, ?_, by simp, fun _ h => by simp at h⟩, RVE_nil, by simp⟩⟩
      · cases a' <;> simp [Builtin.firstCells, loadCells, loadCellsFrom]
      · cases a' <;> simp [Builtin.firstCells, loadCells, loadCellsFrom]
    · obtain ⟨m', nx, h5, h6⟩ := putEs_RVE r h4 _ a os' n' h2 hfr
      refine ⟨m', nx, fun size hf => ?_⟩
      obtain ⟨rest, h7, h8, h9⟩ := RVE_split h5
      by_cases hne : a = []
      · subst hne
        have : es = [] := List.length_eq_zero_iff.1 h6.symm
        subst this
        refine ⟨[], ⟨hkind, fun _ => rfl, ?_, ?_, by simp, fun _ h => by simp at h⟩, RVE_nil, by simp⟩
        · simp [Builtin.firstCells, loadCells, loadCellsFrom]
        · simp [Builtin.firstCells, loadCells, loadCellsFrom]
      · have hs := RVE_size h5 hf hne
        subst hs
        rw [h6] at h8 h9
        refine ⟨_, ?_, h8, by rw [h6]; exact h9⟩
        have hone := RVE_one h5
        rw [h6] at hone
        have hseg := cell_seg (off := off) (k := es.length * size0) h3
        rw [h6]
        refine ⟨hkind, fun _ => rfl, ?_, ?_, h9, hone⟩
        · exact run_firstCells_some w size0 es.length _ es.length cap _ h9 hseg
        · exact run_firstCells_some w.drew size0 es.length _ es.length cap _ h9 (fun j u hj => by have := hseg j u hj; simpa using this)
  cases x with
  | str b =>
    simp only [RV] at hx
    subst hx
    refine .ret r fun size hf => ?_
    have hlen : (b.data.toList.map fun b => AV.int .u8 b.toNat).length = b.size := by rw [List.length_map]; rfl
    have hbl := byteCells_length b
    by_cases hb : b.size = 0
    · have hnil : byteCells b = [] := List.length_eq_zero_iff.1 (hbl.trans hb)
      have hd : b.data.toList = [] := List.length_eq_zero_iff.1 hb
      refine ⟨[], ⟨hkind, fun _ => ?_, ?_, ?_, ?_, fun _ h => by simp at h⟩, ?_, ?_⟩
      · rw [hlen]; rfl
      · rw [hlen, ← hnil]; exact firstCells_str _ _ _
      · rw [hlen, ← hnil]; exact firstCells_str _ _ _
      · rw [hlen, hb]; simp
      · rw [hd]; exact RVE_nil
      · rw [hlen, hb]; simp
    · have hs : size = 1 := by
        have hne : (b.data.toList.map fun b => AV.int .u8 b.toNat) ≠ [] := fun h => hb (by rw [← hlen, h]; rfl)
        exact (RVE_size (RVE_bytes (w := w) (m := m) (os := os) b.data.toList) hf hne).symm
      subst hs
      refine ⟨byteCells b, ⟨hkind, fun _ => by rw [hlen]; rfl, by rw [hlen]; exact firstCells_str _ _ _, by rw [hlen]; exact firstCells_str _ _ _, by rw [hbl, hlen, Nat.mul_one], fun u hu => ?_⟩, RVE_bytes _, by rw [hbl, hlen, Nat.mul_one]⟩
      obtain ⟨_, _, rfl⟩ := List.mem_map.1 hu
      rfl
  | sl es => exact slices (.inr (.inl ⟨_, rfl⟩))
  | lsl es => exact slices (.inr (.inr (.inl ⟨_, rfl⟩)))
  | nils => exact slices (.inl rfl)
  | arr o off len ext => exact slices (.inr (.inr (.inr ⟨_, _, _, _, rfl⟩)))
  | _ => intro n a os' n' hr _; simp [srcE, elemsOf, HM.bind, HM.runAt] at hr
end
end Go.V
namespace Go.V
section
variable {P : Program} {env : Env} {w w' : World} {m m' : Emb} {os os' : List Ob}

/-- There is room: the cells behind the length are turned. -/
theorem run_append_row (t tx ty e : TypeId) (i : TypeInfo) (ht : P.underlying t = some (.slice e)) (hi : P.info? e = some i) (b sLen sCap : Nat) (T : TypeId) (cur : Array Value) (hg : w.heap[b]? = some (.cells cur T (0, 0)))
    (x : Value) (n : Nat) (news : List Value) (hs : Src P i.size tx x n news w) (hroom : sLen + n ≤ sCap) (hfit : sLen * i.size + news.length ≤ cur.size) :
    (Builtin.append_ #[t, tx] ty #[.slice (some ⟨b, 0, none⟩) sLen sCap, x]).run P w =
      .ok (.slice (some ⟨b, 0, none⟩) (sLen + n) sCap) (w.setRow b (cur.toList.take (sLen * i.size) ++ news ++ cur.toList.drop (sLen * i.size + news.length)).toArray) := by
  have hst := run_storeCells_at P b (sLen * i.size) T news 0 cur w hg (by simpa using hfit) hs.one
  simp only [Nat.add_zero] at hst
  rcases hs.kind with ⟨e', hk⟩ | hk <;> simp [Builtin.append_, run_underlying ht, run_underlying hk, sizeOf, typeInfo, hi, hs.len, hroom, hs.cells, Addr.add_lit, hst]

def Emb.move (m : Emb) (o b : Nat) : Emb := { own := fun c => if c = b then .mine o else if m.own c = .mine o then .foreign else m.own c, blk := fun p => if p = o then some b else m.blk p }

/-- An object gets a block that is new. -/
theorem move_own (r : ORel env w m os) {o n : Nat} {x : Obj} {ob : Ob} (hlk : ob.lk = some .mine) (hnf : obAt os o ≠ .free)
    (hgo : ObGo w (m.blk o) (World.pushed w x) (some w.heap.size) (obAt os o) ob)
    (ho : Goes w m os (World.pushed w x) (m.move o w.heap.size) (setOb os o ob) → RO (World.pushed w x) (m.move o w.heap.size) (setOb os o ob) o ob) :
    Next env w m os n (World.pushed w x) (m.move o w.heap.size) (setOb os o ob) n := by
  have hsz : (World.pushed w x).heap.size = w.heap.size + 1 := Array.size_push ..
  have g : Goes w m os (World.pushed w x) (m.move o w.heap.size) (setOb os o ob) := by
    refine ⟨⟨by omega, rfl, rfl, rfl, fun c hc hm => ⟨pushed_old hc, ?_⟩, fun c k hk => ?_⟩, fun p => ?_⟩
    · simp only [Emb.move]; rw [if_neg (Nat.ne_of_lt hc), if_neg (hm o)]
    · have hc : c < w.heap.size := by
        unfold cellsN at hk
        split at hk
        · rename_i h; exact lt_of_heap h
        · simp at hk
      simp only [cellsN, pushed_old hc] at hk ⊢
      exact hk
    · rw [obAt_setOb]
      split
      · rename_i hp; subst hp
        have : (m.move p w.heap.size).blk p = some w.heap.size := by simp [Emb.move]
        rw [this]; exact hgo
      · rename_i hp
        have hblk : (m.move o w.heap.size).blk p = m.blk p := by simp only [Emb.move]; rw [if_neg hp]
        rw [hblk]
        have : ∀ ob, obAt os p = ob → ObGo w (m.blk p) (World.pushed w x) (m.blk p) ob ob := by
          intro ob hob
          cases ob <;> simp only [ObGo] <;> try trivial
          · exact ⟨trivial, Nat.le_refl _, fun _ => trivial⟩
          · refine ⟨trivial, fun c es clock j me _ h1 h2 => ?_⟩
            exact ⟨es, clock, me, (pushed_old (lt_of_heap h1)).trans h1, h2, rfl⟩
        exact this _ rfl
  refine ⟨r.set g (ho g) (fun p hp => ⟨by simp only [Emb.move]; rw [if_neg hp], fun c h => ?_⟩) (fun c p h => ?_) (fun c h => ?_), g, Nat.le_refl _, fun p hp hf => ?_⟩
  · have hc := (r.mine c p h).1
    refine ⟨pushed_old hc, ?_⟩
    simp only [Emb.move]
    rw [if_neg (Nat.ne_of_lt hc), if_neg, h]
    rw [h]; intro h'; injection h' with h'; exact hp h'
  · simp only [Emb.move] at h
    split at h
    · rename_i hc
      injection h with h
      subst h hc
      exact .inr ⟨rfl, by omega, by simp [Emb.move], hlk⟩
    · split at h
      · simp at h
      · rename_i hc
        exact .inl ⟨fun hp => hc (hp ▸ h), h⟩
  · simp only [Emb.move] at h
    split at h
    · simp at h
    · split at h
      · simp at h
      · have := r.frozen c h; omega
  · rw [obAt_setOb]; split
    · rename_i hp'; subst hp'; exact absurd hf hnf
    · exact hf

theorem roomOK_spec {need bytes : Nat} (h : roomOK need bytes = true) : need * bytes ≤ 140737488355328 ∧ need ≤ 4611686018427387904 := by
  simp only [roomOK, Bool.and_eq_true, decide_eq_true_eq] at h
  exact h

theorem zeroFits_spec (ok : EnvOK P env) {e : TypeId} {ei : TyI} {size : Nat} (h1 : env.ty e = some ei) (h : zeroFits size ei.zero = true) : ∃ inf zv, P.info? e = some inf ∧ inf.size = ei.size ∧ inf.bytes = ei.bytes ∧ inf.zero = some zv ∧ zv.cells.size = size := by
  obtain ⟨inf, g1, g2, g3, _, g5⟩ := ok.ty e _ h1
  cases hz : ei.zero with
  | none => rw [hz] at h; simp [zeroFits] at h
  | some z =>
    rw [hz] at h
    simp only [zeroFits, beq_iff_eq] at h
    obtain ⟨zv, g6, g7⟩ := g5 z hz
    refine ⟨inf, zv, g1, g2, g3, g6, ?_⟩
    have := RVC_length (zero_RVC (w := default) (m := ⟨fun _ => .foreign, fun _ => none⟩) (os := []) g7)
    rw [← Array.length_toList, this, h]

theorem appendE_ok (ok : EnvOK P env) (r : ORel env w m os) {t tx ty : TypeId} {s : AV} {xs : List AV} {sv xv : Value} (hsv : RV w m os s sv)
    (hsrc : ∀ size, fitsL size xs = true → ∃ news, Src P size tx xv xs.length news w ∧ RVE w m os size xs news ∧ news.length = xs.length * size) :
    Does P env w m os (appendE env t s xs) (Builtin.append_ #[t, tx] ty #[sv, xv]) := by
  unfold appendE
  split
  case h_2 => exact Does.fail
  rename_i e size hes
  obtain ⟨hu, ei, h1, h2⟩ := esize_ok ok hes
  rw [h1]
  dsimp only
  split
  case isFalse => exact Does.fail
  rename_i hcond
  simp only [Bool.and_eq_true] at hcond
  obtain ⟨hfits, hzf⟩ := hcond
  obtain ⟨inf, zv, g1, g2, g3, g6, hzl⟩ := zeroFits_spec ok h1 hzf
  have hsz : inf.size = size := g2.trans h2
  obtain ⟨news, hS, hne, hnl⟩ := hsrc size hfits
  split
  · -- nil
    split
    · rename_i hroom
      obtain ⟨hr1, hr2⟩ := roomOK_spec hroom
      obtain ⟨a, rfl⟩ := RV_nils.1 hsv
      by_cases h0 : xs = []
      · subst h0
        have hrun := run_append_nothing w t tx ty e inf hu g1 a 0 0 (Nat.le_refl _) xv (by
          have hn0 : news = [] := List.length_eq_zero_iff.1 (by simpa using hnl)
          subst hn0; rw [hsz]; exact hS)
        intro n a' os' n' hr hfr
        obtain ⟨o, os1, n1, k1, k2⟩ := runAt_bind.1 hr
        obtain ⟨m', nx, _, k3⟩ := newRow0_ok r n o os1 n1 k1 (hfr.mono (runAt_le k2))
        simp only [HM.runAt, Option.some.injEq, Prod.mk.injEq] at k2
        obtain ⟨rfl, rfl, rfl⟩ := k2
        exact ⟨m', w, _, hrun, nx, k3 a⟩
      · have hpos : 0 < xs.length := List.length_pos_iff.2 h0
        have hrun := run_append_grow_src w t tx ty e inf zv hu g1 g6 a 0 0 [] (by cases a <;> simp [Builtin.firstCells, loadCells, loadCellsFrom]) xv xs.length news (by rw [hsz]; exact hS) (by omega) (by omega)
          (by rw [g3]; exact growslice_fits (by omega) (by simpa using hr1))
        simp only [Nat.zero_add, List.nil_append] at hrun
        have hcap : xs.length ≤ grownCap w xs.length 0 e := by unfold grownCap Question.cut; dsimp only; omega
        refine newRow_ok (P := P) (T := e) (cap := grownCap w xs.length 0 e) r (.inr rfl) ?_ hrun ?_ hcap
        · rw [Array.toList_append]; exact RVE_more hne
        · rw [Array.size_append, size_zeroCells, hzl, List.size_toArray, hnl, ← Nat.add_mul, Nat.add_sub_cancel' hcap]; exact Nat.le_refl _
    · exact Does.fail
  · -- an array
    rename_i o len ext
    intro n a os' n' hr hfr
    simp only [HM.runAt] at hr
    have hro := r.obs o
    simp only [RV] at hsv
    obtain ⟨_, hsv⟩ := hsv
    cases hob : obAt os o with
    | row es sz lk =>
      rw [hob] at hr hro hsv
      cases lk with
      | mine =>
        dsimp only at hr
        split at hr
        case isFalse => simp [HM.runAt] at hr
        rename_i hc
        obtain ⟨hext, hlen, hszz, hroom⟩ := hc
        subst hszz
        obtain ⟨hr1, hr2⟩ := roomOK_spec hroom
        simp only [HM.runAt, Option.some.injEq, Prod.mk.injEq] at hr
        obtain ⟨rfl, rfl, rfl⟩ := hr
        have hfacts := (hsv.2 hext (by omega)).facts (by omega)
        have hnfree : obAt os o ≠ .free := by rw [hob]; simp
        -- the array is laid anew
        have grow : ∀ (base : Option Addr) (cap : Nat) (olds : List Value), sv = .slice base len cap → (Builtin.firstCells inf.size len (.slice base len cap)).run P w.drew = .ok olds.toArray w.drew →
            RVE w m os sz (es.take len) olds → olds.length = len * sz → cap < len + xs.length → es.drop (len + xs.length) = [] → es.length < len + xs.length →
            ∃ m' w' v, (Builtin.append_ #[t, tx] ty #[sv, xv]).run P w = .ok v w' ∧ Next env w m os n w' m' (setOb os o (.row (es.take len ++ xs ++ es.drop (len + xs.length)) sz .mine)) n ∧
              RV w' m' (setOb os o (.row (es.take len ++ xs ++ es.drop (len + xs.length)) sz .mine)) (.arr o 0 (len + xs.length) (es.take len ++ xs ++ es.drop (len + xs.length)).length) v := by
          intro base cap olds hb hold hoe hol hcap hdrop hlt
          subst hb
          have hrun := run_append_grow_src w t tx ty e inf zv hu g1 g6 base len cap olds hold xv xs.length news (by rw [hsz]; exact hS) hcap (by omega) (by rw [g3]; exact growslice_fits hcap hr1)
          have hc2 : len + xs.length ≤ grownCap w (len + xs.length) cap e := by unfold grownCap Question.cut; dsimp only; omega
          rw [hdrop, List.append_nil]
          have htl : (es.take len).length = len := by rw [List.length_take]; omega
          have hlen2 : (es.take len ++ xs).length = len + xs.length := by rw [List.length_append, htl]
          have nx0 : Next env w m os n w.drew m os n := Next.drew r
          have hcells : RVE w m os sz (es.take len ++ xs) (((olds ++ news).toArray ++ Builtin.zeroCells zv.cells (grownCap w (len + xs.length) cap e - (len + xs.length))).toList) := by
            rw [Array.toList_append]
            exact RVE_more (RVE_append hne hoe (by rw [htl]; exact hol))
          have hsize : ((olds ++ news).toArray ++ Builtin.zeroCells zv.cells (grownCap w (len + xs.length) cap e - (len + xs.length))).size = grownCap w (len + xs.length) cap e * sz := by
            rw [Array.size_append, size_zeroCells, hzl, List.size_toArray, List.length_append, hol, hnl, ← Nat.add_mul, ← Nat.add_mul, Nat.add_sub_cancel' hc2]
          generalize ((olds ++ news).toArray ++ Builtin.zeroCells zv.cells (grownCap w (len + xs.length) cap e - (len + xs.length))) = C at hrun hcells hsize
          have nx := move_own (n := n) (o := o) (x := .cells C e (0, 0)) (ob := .row (es.take len ++ xs) sz .mine) nx0.rel rfl hnfree
            (by rw [hob]; exact ⟨rfl, by omega, fun h => by omega⟩)
            (fun g => .inr ⟨w.heap.size, _, e, (0, 0), by simp [Emb.move], pushed_new (w := w.drew), rfl, (hcells.go nx0.goes r).go g nx0.rel, by simp [Owns, Emb.move]⟩)
          refine ⟨_, _, _, hrun, nx0.trans nx, ?_⟩
          simp only [RV]
          refine ⟨⟨_, _, _, rfl⟩, ?_⟩
          rw [obAt_setOb, if_pos rfl]
          refine ⟨Nat.le_refl _, fun _ _ => .inl ⟨w.heap.size, 0, grownCap w (len + xs.length) cap e, C.size, by simp [Emb.move], rfl, fun _ => (Nat.zero_mul _).symm, ?_, ?_, by omega, hc2⟩⟩
          · simp only [cellsN]
            rw [show (World.alloc w.drew (.cells C e)).heap[w.heap.size]? = _ from pushed_new (w := w.drew)]
          · rw [hsize, Nat.zero_add]; exact Nat.le_refl _
        rcases hfacts with ⟨b, p, cap, N, k1, rfl, hp0, k3, k4, k5, k6⟩ | ⟨k1, _, rfl, rfl, a, rfl⟩
        · rcases hro with ⟨k7, k8⟩ | ⟨b', cs, T, fr, k7, k8, rfl, k9, hown⟩
          · rw [k1] at k8; simp at k8
          · rw [k1] at k7; injection k7 with k7; subst k7
            have hcsz : cs.size = N := by simpa [cellsN, k8] using k3
            have hel : es.length ≤ cap := by omega
            obtain ⟨rest, q1, q2, q3⟩ := RVE_split (k9.take (es := es) (len))
            have htl : (es.take len).length = len := by rw [List.length_take]; omega
            rw [htl] at q1 q2 q3
            by_cases hc0 : cap = 0
            · subst hc0
              have hes : es = [] := List.length_eq_zero_iff.1 (by omega)
              have hl0 : len = 0 := by omega
              subst hes hl0
              by_cases h0 : xs = []
              · subst h0
                have hn0 : news = [] := List.length_eq_zero_iff.1 (by simpa using hnl)
                subst hn0
                have hrun := run_append_nothing w t tx ty e inf hu g1 (some ⟨b, p, none⟩) 0 0 (Nat.le_refl _) xv (by rw [hsz]; exact hS)
                have nx : Next env w m os n w m (setOb os o (.row [] sz .mine)) n := reread r hob rfl (fun _ _ _ _ _ _ _ => RVE_nil)
                refine ⟨m, w, _, hrun, by simpa using nx, ?_⟩
                simp only [RV]
                refine ⟨⟨_, _, _, rfl⟩, ?_⟩
                rw [obAt_setOb, if_pos rfl]
                exact ⟨by simp, fun _ _ => .inl ⟨b, p, 0, N, k1, rfl, fun h => absurd rfl h, k3, k4, by simp, Nat.le_refl _⟩⟩
              · have hpos : 0 < xs.length := List.length_pos_iff.2 h0
                exact grow (some ⟨b, p, none⟩) 0 [] rfl (by simp [Builtin.firstCells, loadCells, loadCellsFrom]) RVE_nil (by simp) (by omega) (by simp) (by simpa using hpos)
            have := hp0 hc0
            rw [Nat.zero_mul] at this
            subst this
            by_cases hroom2 : len + xs.length ≤ cap
            · have hfit : len * inf.size + news.length ≤ cs.size := by
                rw [hsz, hnl, ← Nat.add_mul, hcsz]
                refine Nat.le_trans (Nat.mul_le_mul_right _ hroom2) (by simpa using k4)
              have hrun := run_append_row t tx ty e inf hu g1 b len cap T cs k8 xv xs.length news (by rw [hsz]; exact hS) hroom2 hfit
              rw [hsz] at hrun hfit
              have hl0 : cs.toList.length = cs.size := Array.length_toList
              refine ⟨_, _, _, hrun, write_own r hown k8 ?_ ?_ rfl (fun g => ?_), ?_⟩
              · simp only [List.size_toArray, List.length_append, List.length_take, List.length_drop]; omega
              · rw [hob]
                refine ⟨rfl, ?_, fun _ => rfl⟩
                simp only [List.length_append, List.length_take, List.length_drop]; omega
              · refine .inr ⟨b, _, T, (0, 0), k1, setRow_heap w b cs _ T (0, 0) k8, rfl, ?_, hown⟩
                have hd : RVE w m os sz (es.drop (len + xs.length)) (cs.toList.drop (len * sz + news.length)) := by
                  rw [hnl, ← Nat.add_mul]
                  by_cases hle : len + xs.length ≤ es.length
                  · exact k9.drop _ hle
                  · rw [List.drop_eq_nil_iff.2 (by omega)]; exact RVE_nil
                have ht : (cs.toList.take (len * sz)).length = (es.take len).length * sz := by rw [htl]; exact q3
                exact (RVE_append hd (RVE_append hne q2 ht) (by rw [List.length_append, List.length_append, ht, hnl, Nat.add_mul])).go g r
              · simp only [RV]
                refine ⟨⟨_, _, _, rfl⟩, ?_⟩
                rw [obAt_setOb, if_pos rfl]
                refine ⟨Nat.le_refl _, fun _ _ => .inl ⟨b, 0, cap, N, k1, rfl, fun _ => (Nat.zero_mul _).symm, ?_, k4, ?_, hroom2⟩⟩
                · simp only [cellsN, setRow_heap w b cs _ T (0, 0) k8, Option.some.injEq]
                  rw [← hcsz]
                  simp only [List.size_toArray, List.length_append, List.length_take, List.length_drop]; omega
                · simp only [List.length_append, List.length_take, List.length_drop]; omega
            · refine grow _ cap (cs.toList.take (len * sz)) rfl ?_ q2 q3 (by omega) (List.drop_eq_nil_iff.2 (by omega)) (by omega)
              rw [hsz]
              refine run_firstCells_some w.drew sz len _ len cap _ q3 (fun j u hj => ?_)
              have := cell_seg (off := 0) (k := len * sz) k8 j u (by rw [List.drop_zero]; exact hj)
              simpa using this
        · -- an array without a block
          have hes : es = [] := List.length_eq_zero_iff.1 (by omega)
          subst hes
          by_cases h0 : xs = []
          · subst h0
            have hn0 : news = [] := List.length_eq_zero_iff.1 (by simpa using hnl)
            subst hn0
            have hrun := run_append_nothing w t tx ty e inf hu g1 a 0 0 (Nat.le_refl _) xv (by rw [hsz]; exact hS)
            have nx : Next env w m os n w m (setOb os o (.row [] sz .mine)) n := reread r hob rfl (fun _ _ _ _ _ _ _ => RVE_nil)
            refine ⟨m, w, _, hrun, by simpa using nx, ?_⟩
            simp only [RV]
            refine ⟨⟨_, _, _, rfl⟩, ?_⟩
            rw [obAt_setOb, if_pos rfl]
            exact ⟨by simp, fun _ _ => .inr ⟨k1, by simp, a, rfl⟩⟩
          · have hpos : 0 < xs.length := List.length_pos_iff.2 h0
            exact grow a 0 [] rfl (by cases a <;> simp [Builtin.firstCells, loadCells, loadCellsFrom]) RVE_nil (by simp) (by omega) (by simp) (by simpa using hpos)
      | _ => simp [HM.runAt] at hr
    | _ => rw [hob] at hr; simp [HM.runAt] at hr
  · exact Does.fail
end
end Go.V
namespace Go.V
section
variable {P : Program} {env : Env} {w w' : World} {m m' : Emb} {os os' : List Ob}

theorem RVE_splice {size : Nat} {es ys : List AV} {l k : List Value} {off : Nat} (h : RVE w m os size es l) (hk : RVE w m os size ys k) (hkl : k.length = ys.length * size) (ho : off + ys.length ≤ es.length) :
    RVE w m os size (es.take off ++ ys ++ es.drop (off + ys.length)) (l.take (off * size) ++ k ++ l.drop (off * size + k.length)) := by
  have htl : (es.take off).length = off := by rw [List.length_take]; omega
  obtain ⟨rest, q1, q2, q3⟩ := RVE_split (h.take (es := es) off)
  rw [htl] at q1 q2 q3
  have hd : RVE w m os size (es.drop (off + ys.length)) (l.drop (off * size + k.length)) := by
    rw [hkl, ← Nat.add_mul]; exact h.drop _ ho
  have ht : (l.take (off * size)).length = (es.take off).length * size := by rw [htl]; exact q3
  exact RVE_append hd (RVE_append hk q2 ht) (by rw [List.length_append, List.length_append, ht, hkl, Nat.add_mul])

theorem fitsL_take {size n : Nat} {xs : List AV} (h : fitsL size xs = true) : fitsL size (xs.take n) = true := by
  unfold fitsL at *
  rw [List.all_eq_true] at *
  exact fun x hx => h x (List.mem_of_mem_take hx)

theorem run_copy (dT sT ty elem : TypeId) (i : TypeInfo) (hu : P.underlying dT = some (.slice elem)) (hi : P.info? elem = some i) (base : Option Addr) (dLen dCap : Nat) (x : Value) (n : Nat) (cells : List Value) (w1 : World)
    (hlen : ∀ w' : World, (Builtin.lenOf x).run P w' = .ok n w') (hc : (Builtin.firstCells i.size (Nat.min n dLen) x).run P w = .ok cells.toArray w)
    (hst : (match base with | some a => storeCells a cells | none => pure () : Sem Unit).run P w = .ok () w1) :
    (Builtin.copy_ #[dT, sT] ty #[.slice base dLen dCap, x]).run P w = .ok (goInt (Nat.min n dLen : Nat)) w1 := by
  cases base with
  | none =>
    have : w = w1 := by simpa using hst
    subst this
    simp [Builtin.copy_, run_underlying hu, hlen, sizeOf, typeInfo, hi, hc]
  | some a =>
    simp only at hst
    simp [Builtin.copy_, run_underlying hu, hlen, sizeOf, typeInfo, hi, hc, hst]

theorem Shown.len {size : Nat} {es : List AV} {v : Value} (h : Shown w m os size es v) : ∃ a cap, v = .slice a es.length cap := by
  rcases h with ⟨rfl, a, cap, rfl⟩ | ⟨b, off, cap, cs, T, fr, rfl, _, _⟩
  · exact ⟨a, cap, rfl⟩
  · exact ⟨_, cap, rfl⟩

theorem copyE_ok (ok : EnvOK P env) (r : ORel env w m os) {t tx ty : TypeId} {d x : AV} {dv xv : Value} (hd : RV w m os d dv) (hx : RV w m os x xv) :
    Does P env w m os (copyE env t d x) (Builtin.copy_ #[t, tx] ty #[dv, xv]) := by
  unfold copyE
  split
  case h_2 => exact Does.fail
  rename_i e size hes
  obtain ⟨hu, ei, h1, h2⟩ := esize_ok ok hes
  obtain ⟨inf, g1, g2, _⟩ := ok.ty e _ h1
  have hsz : inf.size = size := g2.trans h2
  split
  case h_2 => exact Does.fail
  rename_i o off len ext
  intro n a os' n' hr hfr
  obtain ⟨ys, os1, n1, k1, k2⟩ := runAt_bind.1 hr
  obtain ⟨rfl, rfl, size0, hsh⟩ := elemsOf_ok r hx k1
  cases hfz : fzEs ys with
  | none => rw [hfz] at k2; simp [HM.runAt] at k2
  | some xs =>
    rw [hfz] at k2
    simp only [HM.runAt] at k2
    have hro := r.obs o
    simp only [RV] at hd
    obtain ⟨_, hd⟩ := hd
    cases hob : obAt os1 o with
    | row es sz lk =>
      rw [hob] at k2 hro hd
      cases lk with
      | mine =>
        dsimp only at k2
        split at k2
        case isFalse => simp [HM.runAt] at k2
        rename_i hc
        obtain ⟨hext, hlen, rfl, hfits⟩ := hc
        simp only [HM.runAt, Option.some.injEq, Prod.mk.injEq] at k2
        obtain ⟨rfl, rfl, rfl⟩ := k2
        obtain ⟨a0, cap0, hv0⟩ := hsh.len
        have hyl : xs.length = ys.length := by
          rcases hsh with ⟨rfl, _⟩ | ⟨b, off', cap, cs, T, fr, _, _, h4⟩
          · simp only [fzEs, Option.some.injEq] at hfz; subst hfz; rfl
          · exact (fzEs_ok hfz h4).2.1
        have htk : (xs.take len).length = min xs.length len := by rw [List.length_take, Nat.min_comm]
        have hlenR : ∀ w' : World, (Builtin.lenOf xv).run P w' = .ok xs.length w' := by intro w'; rw [hv0, hyl]; rfl
        -- the cells that are read
        have hsrc : ∃ cells : List Value, (Builtin.firstCells inf.size (Nat.min xs.length len) xv).run P w = .ok cells.toArray w ∧ RVE w m os1 sz (xs.take len) cells ∧ cells.length = (xs.take len).length * sz ∧ ∀ v ∈ cells, v.oneCell' = true := by
          by_cases hne : xs.take len = []
          · have h0 : min xs.length len = 0 := by rw [← htk, hne]; rfl
            refine ⟨[], ?_, by rw [hne]; exact RVE_nil, by rw [hne]; simp, fun _ h => by simp at h⟩
            rw [show Nat.min xs.length len = 0 from h0, hv0]
            cases a0 <;> simp [Builtin.firstCells, loadCells, loadCellsFrom]
          · rcases hsh with ⟨rfl, _⟩ | ⟨b, off', cap, cs, T, fr, rfl, h3, h4⟩
            · simp only [fzEs, Option.some.injEq] at hfz; subst hfz; simp at hne
            · obtain ⟨h5, _, _⟩ := fzEs_ok hfz h4
              have h6 := h5.take len
              have hs := RVE_size h6 (fitsL_take hfits) hne
              subst hs
              obtain ⟨rest, q1, q2, q3⟩ := RVE_split h6
              refine ⟨_, ?_, q2, q3, RVE_one h6⟩
              rw [hsz, show Nat.min xs.length len = (xs.take len).length from htk.symm]
              exact run_firstCells_some w size0 _ _ _ cap _ q3 (cell_seg h3)
        obtain ⟨cells, c1, c2, c3, c4⟩ := hsrc
        have hfacts := (hd.2 hext (by omega)).facts (by omega)
        have hlen' : off + (xs.take len).length ≤ es.length := by rw [htk]; omega
        have hnew : es.take off ++ xs.take len ++ es.drop (off + min xs.length len) = es.take off ++ xs.take len ++ es.drop (off + (xs.take len).length) := by rw [htk]
        have hnl : (es.take off ++ xs.take len ++ es.drop (off + min xs.length len)).length = es.length := by
          rw [hnew]; simp only [List.length_append, List.length_take (l := es), List.length_drop]; omega
        have hres : RV w m os1 (.int .i64 (min xs.length len : Nat)) (goInt (Nat.min xs.length len : Nat)) := by simp only [RV]; rfl
        by_cases h0 : xs.take len = []
        · -- nothing is copied
          have hc0 : cells = [] := List.length_eq_zero_iff.1 (by rw [c3, h0]; simp)
          subst hc0
          have hrun : (Builtin.copy_ #[t, tx] ty #[dv, xv]).run P w = .ok (goInt (Nat.min xs.length len : Nat)) w := by
            rcases hfacts with ⟨b, p, cap, N, k1, rfl, _⟩ | ⟨k1, _, rfl, _, a, rfl⟩
            · exact run_copy t tx ty e inf hu g1 _ len cap xv _ [] w hlenR c1 (by simp [storeCells])
            · exact run_copy t tx ty e inf hu g1 a 0 0 xv _ [] w hlenR c1 (by cases a <;> simp [storeCells])
          have hsame : es.take off ++ xs.take len ++ es.drop (off + min xs.length len) = es := by
            rw [hnew, h0]; simp
          rw [hsame]
          have nx : Next env w m os1 n1 w m (setOb os1 o (.row es sz .mine)) n1 := reread r hob rfl (fun _ _ _ _ _ _ h => h)
          exact ⟨m, w, _, hrun, nx, by simp only [RV]; rfl⟩
        · have hpos : 0 < (xs.take len).length := List.length_pos_iff.2 h0
          rcases hfacts with ⟨b, p, cap, N, k1, rfl, hp0, k3, k4, k5, k6⟩ | ⟨_, _, h00, _, _⟩
          · have hp := hp0 (by omega)
            subst hp
            rcases hro with ⟨hes0, _⟩ | ⟨b', cs, T, fr, k7, k8, rfl, k9, hown⟩
            · subst hes0; rw [List.length_nil] at hlen'; omega
            · rw [k1] at k7; injection k7 with k7; subst k7
              have hcsz : cs.size = N := by simpa [cellsN, k8] using k3
              have hfit : off * sz + cells.length ≤ cs.size := by
                rw [c3, ← Nat.add_mul, hcsz]
                have hle : (xs.take len).length ≤ len := by rw [htk]; exact Nat.min_le_right _ _
                exact Nat.le_trans (Nat.mul_le_mul_right _ (Nat.add_le_add_left (Nat.le_trans hle k6) off)) k4
              have hst := run_storeCells_at P b (off * sz) T cells 0 cs w k8 (by simpa using hfit) c4
              simp only [Nat.add_zero] at hst
              have hrun := run_copy t tx ty e inf hu g1 (some ⟨b, off * sz, none⟩) len cap xv _ cells _ hlenR c1 hst
              have hl0 : cs.toList.length = cs.size := Array.length_toList
              refine ⟨m, _, _, hrun, write_own r hown k8 ?_ (by rw [hob]; exact ⟨rfl, by omega, fun _ => rfl⟩) rfl (fun g => ?_), by simp only [RV]; rfl⟩
              · simp only [List.size_toArray, List.length_append, List.length_take, List.length_drop]; omega
              · refine .inr ⟨b, _, T, (0, 0), k1, setRow_heap w b cs _ T (0, 0) k8, rfl, ?_, hown⟩
                have := RVE_splice k9 c2 c3 hlen'
                rw [← hnew] at this
                exact this.go g r
          · subst h00; simp at hpos
      | _ => simp [HM.runAt] at k2
    | _ => rw [hob] at k2; simp [HM.runAt] at k2
end
end Go.V
namespace Go.V
section
variable {P : Program} {env : Env} {w w' : World} {m m' : Emb} {os os' : List Ob}

/-- An optional operand. -/
def RVO (w : World) (m : Emb) (os : List Ob) : Option AV → Option Value → Prop
  | none, none => True
  | some a, some v => RV w m os a v
  | _, _ => False
theorem asNatD_ok {d n : Nat} {x : Option AV} {v : Option Value} (hx : RVO w m os x v) (h : asNatD d x = some n) : (x = none ∧ v = none ∧ n = d) ∨ ∃ k, v = some (.int k (n : Int)) := by
  cases x with
  | none =>
    simp only [asNatD, Option.some.injEq] at h
    cases v with
    | none => exact .inl ⟨rfl, rfl, h.symm⟩
    | some v => exact hx.elim
  | some a =>
    cases v with
    | none => exact hx.elim
    | some v =>
      obtain ⟨k, rfl⟩ := asNat_ok hx h
      exact .inr ⟨k, rfl⟩

theorem run_sliceBound {k : IntKind} {n y : Nat} {code : BoundsCode} (h : n ≤ y) : (Instr.sliceBound (.int k (n : Int)) y code).run P w = .ok n w := by
  have : (n : Int) ≤ (y : Int) := by omega
  simp [Instr.sliceBound, asIntOf, this]
theorem run_sliceBounds {isS : Bool} {len cap l h : Nat} {lo hi : Option AV} {lov hiv : Option Value} (h1 : RVO w m os lo lov) (h2 : RVO w m os hi hiv) (hl : asNatD 0 lo = some l) (hh : asNatD len hi = some h)
    (hlh : l ≤ h) (hc : h ≤ cap) (_ : len ≤ cap) : (Instr.sliceBounds isS len cap lov hiv none).run P w = .ok (l, h, cap) w := by
  rcases asNatD_ok h2 hh with ⟨_, rfl, rfl⟩ | ⟨k2, rfl⟩ <;> rcases asNatD_ok h1 hl with ⟨_, rfl, rfl⟩ | ⟨k1, rfl⟩ <;>
    simp [Instr.sliceBounds, run_sliceBound, hlh, hc]

theorem isSlT_ok (ok : EnvOK P env) {t : TypeId} (h : isSlT env t = true) : ∃ e i, P.underlying t = some (.slice e) ∧ P.info? e = some i := by
  unfold isSlT at h
  split at h
  · rename_i e s b z hti
    obtain ⟨_, _, _, _, h3, _⟩ := ok.ty t _ hti
    cases he : env.ty e with
    | none => rw [he] at h; simp at h
    | some ei =>
      obtain ⟨i, h4, _⟩ := ok.ty e _ he
      exact ⟨e, i, h3, h4⟩
  · simp at h
theorem isStrT_ok (ok : EnvOK P env) {t : TypeId} (h : isStrT env t = true) : P.underlying t = some .string := by
  unfold isStrT at h
  split at h
  · rename_i s b z hti
    obtain ⟨_, _, _, _, h3, _⟩ := ok.ty t _ hti
    exact h3
  · simp at h

theorem run_sliceAt_slice {t e : TypeId} {i : TypeInfo} {a : Option Addr} {len cap l h : Nat} {lov hiv : Option Value} (hu : P.underlying t = some (.slice e)) (hi : P.info? e = some i)
    (hb : (Instr.sliceBounds true len cap lov hiv none).run P w = .ok (l, h, cap) w) :
    (Instr.sliceAt t (.slice a len cap) lov hiv none).run P w = .ok (.slice (if cap = l then a else a.map (·.add (l * i.size))) (h - l) (cap - l)) w := by
  simp [Instr.sliceAt, Instr.slice, run_underlying hu, hb, sizeOf, typeInfo, hi]

theorem clsL_sub {es : List AV} (h : AV.clsL es = true) (a b : Nat) : AV.clsL ((es.drop a).take b) = true :=
  clsL_of fun v hv => clsL_mem h v (List.mem_of_mem_drop (List.mem_of_mem_take hv))
theorem sub_len {es : List AV} {l h : Nat} (hlh : l ≤ h) (hhe : h ≤ es.length) : ((es.drop l).take (h - l)).length = h - l := by
  rw [List.length_take, List.length_drop]; omega
/-- A part of a slice of data. -/
theorem part_sl {still : Nat → Prop} {es : List AV} {l h cap size : Nat} {a : Option Addr} (hlh : l ≤ h) (hhe : h ≤ es.length) (hcap : es.length ≤ cap) (hf : fitsL size es = true)
    (hes : es = [] ∨ ∃ b off cs T fr size, a = some ⟨b, off, none⟩ ∧ still b ∧ w.heap[b]? = some (.cells cs T fr) ∧ RVE w m os size es (cs.toList.drop off)) :
    (es.drop l).take (h - l) = [] ∨ ∃ b off cs T fr size', (if cap = l then a else a.map (·.add (l * size))) = some ⟨b, off, none⟩ ∧ still b ∧ w.heap[b]? = some (.cells cs T fr) ∧ RVE w m os size' ((es.drop l).take (h - l)) (cs.toList.drop off) := by
  by_cases h0 : l = h
  · subst h0; exact .inl (by simp)
  · rcases hes with rfl | ⟨b, off, cs, T, fr, size', rfl, h1, h2, h3⟩
    · exact .inl (by simp)
    · have hne : es ≠ [] := fun he => by subst he; simp at hhe; omega
      have := RVE_size h3 hf hne
      subst this
      refine .inr ⟨b, off + l * size', cs, T, fr, size', ?_, h1, h2, ?_⟩
      · rw [if_neg (by omega), Option.map_some, add_none]
      · rw [← List.drop_drop]; exact (h3.drop l (by omega)).take _

theorem sliceE_ok (ok : EnvOK P env) (r : ORel env w m os) {t : TypeId} {x : AV} {lo hi : Option AV} {xv : Value} {lov hiv : Option Value} (hx : RV w m os x xv) (h1 : RVO w m os lo lov) (h2 : RVO w m os hi hiv) :
    Does P env w m os (sliceE env t x lo hi) (Instr.sliceAt t xv lov hiv none) := by
  unfold sliceE
  cases hl : asNatD 0 lo with
  | none => exact Does.fail
  | some l =>
    dsimp only
    split
    · -- a string
      rename_i s
      split
      case isFalse => exact Does.fail
      rename_i ht
      have hu := isStrT_ok ok ht
      cases hh : asNatD s.size hi with
      | none => exact Does.fail
      | some h =>
        dsimp only
        split
        case isFalse => exact Does.fail
        rename_i hc
        simp only [RV] at hx
        subst hx
        refine Does.ret (v := .string (s.extract l h)) r ?_ (by simp only [RV])
        have hb := run_sliceBounds (P := P) (isS := false) (len := s.size) (cap := s.size) h1 h2 hl hh hc.1 hc.2 (Nat.le_refl _)
        simp [Instr.sliceAt, Instr.slice, run_underlying hu, hb]
    · -- a slice of data
      rename_i es
      cases hes : esize env t with
      | none => exact Does.fail
      | some p =>
        obtain ⟨e, size⟩ := p
        dsimp only
        obtain ⟨hu, ei, g1, g2⟩ := esize_ok ok hes
        obtain ⟨inf, g3, g4, _⟩ := ok.ty e _ g1
        have hsz : inf.size = size := g4.trans g2
        cases hh : asNatD es.length hi with
        | none => exact Does.fail
        | some h =>
          dsimp only
          split
          case isFalse => exact Does.fail
          rename_i hc
          obtain ⟨c1, c2, c3⟩ := hc
          obtain ⟨h0, a, cap, rfl, hcap, h3⟩ := RV_sl.1 hx
          refine Does.ret r (run_sliceAt_slice hu g3 (run_sliceBounds h1 h2 hl hh c1 (by omega) hcap)) (RV_sl.2 ⟨clsL_sub h0 _ _, _, _, by rw [sub_len c1 c2], by rw [sub_len c1 c2]; omega, ?_⟩)
          rw [hsz]
          exact part_sl (still := fun b => m.own b = .frozen) c1 c2 hcap c3 h3
    · -- a slice that is lent
      rename_i es
      cases hes : esize env t with
      | none => exact Does.fail
      | some p =>
        obtain ⟨e, size⟩ := p
        dsimp only
        obtain ⟨hu, ei, g1, g2⟩ := esize_ok ok hes
        obtain ⟨inf, g3, g4, _⟩ := ok.ty e _ g1
        have hsz : inf.size = size := g4.trans g2
        cases hh : asNatD es.length hi with
        | none => exact Does.fail
        | some h =>
          dsimp only
          split
          case isFalse => exact Does.fail
          rename_i hc
          obtain ⟨c1, c2, c3⟩ := hc
          obtain ⟨h0, a, cap, rfl, hcap, h3⟩ := RV_lsl.1 hx
          refine Does.ret r (run_sliceAt_slice hu g3 (run_sliceBounds h1 h2 hl hh c1 (by omega) hcap)) (RV_lsl.2 ⟨clsL_sub h0 _ _, _, _, by rw [sub_len c1 c2], by rw [sub_len c1 c2]; omega, ?_⟩)
          rw [hsz]
          exact part_sl (still := m.still) c1 c2 hcap c3 h3
    · -- no slice
      split
      case isFalse => exact Does.fail
      rename_i ht
      obtain ⟨e, inf, hu, hi'⟩ := isSlT_ok ok ht
      obtain ⟨a, rfl⟩ := RV_nils.1 hx
      cases hh : asNatD 0 hi with
      | none => exact Does.fail
      | some h =>
        dsimp only
        split
        case isFalse => exact Does.fail
        rename_i hc
        obtain ⟨rfl, rfl⟩ := hc
        exact Does.ret r (run_sliceAt_slice hu hi' (run_sliceBounds h1 h2 hl hh (Nat.le_refl _) (Nat.le_refl _) (Nat.le_refl _))) (RV_nils.2 ⟨_, rfl⟩)
    · -- an array
      rename_i o off len ext
      cases hes : esize env t with
      | none => exact Does.fail
      | some p =>
        obtain ⟨e, size⟩ := p
        dsimp only
        obtain ⟨hu, ei, g1, g2⟩ := esize_ok ok hes
        obtain ⟨inf, g3, g4, _⟩ := ok.ty e _ g1
        have hsz : inf.size = size := g4.trans g2
        refine Does.look r fun n a os' n' hr => ?_
        simp only [RV] at hx
        obtain ⟨_, hx⟩ := hx
        simp only [subArr, HM.runAt] at hr
        cases hob : obAt os o with
        | row es s lk =>
          rw [hob] at hx hr
          dsimp only at hr
          cases hh : asNatD len hi with
          | none => rw [hh] at hr; simp [HM.runAt] at hr
          | some h =>
            rw [hh] at hr
            dsimp only at hr
            split at hr
            case isFalse => simp [HM.runAt] at hr
            rename_i hc
            obtain ⟨c1, c2, c3, c4, c5⟩ := hc
            subst c3
            simp only [HM.runAt, Option.some.injEq, Prod.mk.injEq] at hr
            obtain ⟨rfl, rfl, rfl⟩ := hr
            have hfacts := hx.2 c1 (by omega)
            refine ⟨rfl, rfl, ?_⟩
            have fin : ∀ v', (∃ a l c, v' = .slice a l c) → Slc w (m.blk o) s (off + l) (h - l) ext v' → RV w m os (.arr o (off + l) (h - l) ext) v' := by
              intro v' hv' hs
              simp only [RV]
              refine ⟨hv', ?_⟩
              rw [hob]
              exact ⟨hx.1, fun _ _ => hs⟩
            rcases hfacts with ⟨b, p, cap, N, k1, rfl, hp0, k3, k4, k5, k6⟩ | ⟨k1, k2, a, rfl⟩
            · refine ⟨_, run_sliceAt_slice hu g3 (run_sliceBounds h1 h2 hl hh c4 (by omega) k6), fin _ ⟨_, _, _, rfl⟩ ?_⟩
              by_cases hcl : cap = l
              · rw [if_pos hcl]
                refine .inl ⟨b, p, cap - l, N, k1, rfl, fun h => by omega, k3, ?_, by omega, by omega⟩
                rw [show off + l + (cap - l) = off + cap by omega]; exact k4
              · rw [if_neg hcl, Option.map_some, add_none]
                refine .inl ⟨b, p + l * inf.size, cap - l, N, k1, rfl, fun _ => ?_, k3, ?_, by omega, by omega⟩
                · rw [hp0 (by omega), hsz, ← Nat.add_mul]
                · rw [show off + l + (cap - l) = off + cap by omega]; exact k4
            · have e1 : len = 0 := by omega
              have e2 : off = 0 := by omega
              subst e1 e2
              have e3 : h = 0 := by omega
              have e4 : l = 0 := by omega
              subst e3 e4
              exact ⟨_, run_sliceAt_slice hu g3 (run_sliceBounds h1 h2 hl hh (Nat.le_refl _) (Nat.le_refl _) (Nat.le_refl _)), fin _ ⟨_, _, _, rfl⟩ (.inr ⟨k1, k2, _, rfl⟩)⟩
        | _ => rw [hob] at hr; simp [HM.runAt] at hr
    · exact Does.fail

theorem run_slice0 {t e : TypeId} {i : TypeInfo} {a : Option Addr} {len cap : Nat} {lov hiv : Option Value} {mv : Value} (hu : P.underlying t = some (.slice e)) (hi : P.info? e = some i)
    (hlo : lov = none ∨ ∃ k, lov = some (.int k 0)) (hhi : ∃ k, hiv = some (.int k 0)) (hm : ∃ k, mv = .int k 0) :
    (Instr.sliceAt t (.slice a len cap) lov hiv (some mv)).run P w = .ok (.slice a 0 0) w := by
  obtain ⟨k2, rfl⟩ := hhi
  obtain ⟨k3, rfl⟩ := hm
  rcases hlo with rfl | ⟨k1, rfl⟩ <;> simp [Instr.sliceAt, Instr.slice, run_underlying hu, Instr.sliceBounds, Instr.sliceBound, asIntOf, sizeOf, typeInfo, hi]
theorem slice0E_ok (ok : EnvOK P env) (r : ORel env w m os) {t : TypeId} {x mx : AV} {lo hi : Option AV} {xv mv : Value} {lov hiv : Option Value} (hx : RV w m os x xv) (h1 : RVO w m os lo lov) (h2 : RVO w m os hi hiv) (h3 : RV w m os mx mv) :
    Does P env w m os (slice0E env t x lo hi mx) (Instr.sliceAt t xv lov hiv (some mv)) := by
  unfold slice0E
  split
  case isFalse => exact Does.fail
  rename_i ht
  obtain ⟨e, inf, hu, hi'⟩ := isSlT_ok ok ht
  split
  case h_2 => exact Does.fail
  rename_i hl hh hmx
  have hlo : lov = none ∨ ∃ k, lov = some (.int k 0) := by
    rcases asNatD_ok h1 hl with ⟨_, h, _⟩ | ⟨k, h⟩
    · exact .inl h
    · exact .inr ⟨k, h⟩
  have hhi : ∃ k, hiv = some (.int k 0) := by
    rcases asNatD_ok h2 hh with ⟨_, _, h⟩ | ⟨k, h⟩
    · simp at h
    · exact ⟨k, h⟩
  have hm := asNat_ok h3 hmx
  have fin : ∀ a len cap, xv = .slice a len cap → Does P env w m os (.ret .nils) (Instr.sliceAt t xv lov hiv (some mv)) := by
    rintro a len cap rfl
    exact Does.ret r (run_slice0 hu hi' hlo hhi hm) (RV_nils.2 ⟨a, rfl⟩)
  split
  · obtain ⟨_, a, cap, h, _⟩ := RV_sl.1 hx; exact fin _ _ _ h
  · obtain ⟨_, a, cap, h, _⟩ := RV_lsl.1 hx; exact fin _ _ _ h
  · obtain ⟨a, h⟩ := RV_nils.1 hx; exact fin _ _ _ h
  · rename_i o off len ext
    intro n a os' n' hr hfr
    obtain ⟨k, os1, n1, k1, k2⟩ := runAt_bind.1 hr
    obtain ⟨rfl, rfl, a', cap, h⟩ := lenOf_ok hx k1
    exact fin _ _ _ h n1 a os' n' k2 hfr
  · exact Does.fail
end
end Go.V
namespace Go.V
section
variable {P : Program} {env : Env} {w w' : World} {m m' : Emb} {os os' : List Ob}

theorem run_size (ok : EnvOK P env) {e : TypeId} {ei : TyI} (h : env.ty e = some ei) : ∃ inf, P.info? e = some inf ∧ inf.size = ei.size := by
  obtain ⟨inf, g3, g4, _⟩ := ok.ty e _ h
  exact ⟨inf, g3, g4⟩

theorem run_indexAt_slice {t e : TypeId} {i : TypeInfo} {a : Addr} {len cap k : Nat} {ki : IntKind} (hu : P.underlying t = some (.slice e)) (hi : P.info? e = some i) (hk : k < len) :
    (Instr.indexAt t (.slice (some a) len cap) (.int ki (k : Int))).run P w = .ok (.pointer (some (a.add (k * i.size)))) w := by
  simp [Instr.indexAt, asIntOf, run_underlying hu, sizeOf, typeInfo, hi, hk]
theorem run_indexAt_array {t e : TypeId} {i : TypeInfo} {a : Addr} {n k : Nat} {ki : IntKind} (hu : P.underlying t = some (.array n e)) (hi : P.info? e = some i) (hk : k < n) :
    (Instr.indexAt t (.pointer (some a)) (.int ki (k : Int))).run P w = .ok (.pointer (some (a.add (k * i.size)))) w := by
  simp [Instr.indexAt, asIntOf, run_underlying hu, sizeOf, typeInfo, hi, hk, Instr.sureAddr]

theorem RV_fp_elem {still : Nat → Prop} {es : List AV} {k size : Nat} {e : AV} {b off : Nat} {cs : Array Value} {T : TypeId} {fr : Nat × Nat} (hs : ∀ b, still b → m.still b) (hcl : AV.clsL es = true) (hk : es[k]? = some e) (he : e.cells.length = size)
    (h1 : still b) (h2 : w.heap[b]? = some (.cells cs T fr)) {sz : Nat} (h3 : RVE w m os sz es (cs.toList.drop off)) : RV w m os (.fp e 0) (.pointer (some ((⟨b, off, none⟩ : Addr).add (k * size)))) := by
  obtain ⟨h4, h5⟩ := RVE_get h3 hk
  have hl := RVC_length h4
  rw [List.length_take, List.length_drop] at hl
  have hsz : sz = size := by rw [← he, ← hl]; omega
  subst hsz
  refine RV_fp.2 ⟨clsL_mem hcl e (List.mem_of_getElem? hk), b, off + k * sz, cs, T, fr, by rw [add_none, Nat.add_zero], hs b h1, h2, ((cs.toList.drop off).drop (k * sz)).take sz, ((cs.toList.drop off).drop (k * sz)).drop sz, ?_, h4⟩
  rw [List.take_append_drop, List.drop_drop]

theorem indexAddrE_ok (ok : EnvOK P env) (r : ORel env w m os) {t : TypeId} {x k : AV} {xv kv : Value} (hx : RV w m os x xv) (hk : RV w m os k kv) : Does P env w m os (indexAddrE env t x k) (Instr.indexAt t xv kv) := by
  unfold indexAddrE
  split
  · -- an array
    rename_i n e s b z i hti hi
    obtain ⟨_, _, _, _, hu, _⟩ := ok.ty t _ hti
    have hu : P.underlying t = some (.array n e) := hu
    obtain ⟨ki, rfl⟩ := asNat_ok hk hi
    cases he : env.ty e with
    | none => exact Does.fail
    | some ei =>
      obtain ⟨inf, g1, g2⟩ := run_size ok he
      dsimp only
      split
      case isFalse => exact Does.fail
      rename_i hlt
      split
      · rename_i o j
        simp only [RV] at hx
        obtain ⟨a, rfl, h1⟩ := RPtr_add (j := i * ei.size) hx
        exact Does.ret r (run_indexAt_array hu g1 hlt) (by rw [g2]; simpa only [RV] using h1)
      · rename_i o j p ext
        simp only [RV] at hx
        obtain ⟨a, rfl, h1⟩ := REp_add (j := i * ei.size) hx
        exact Does.ret r (run_indexAt_array hu g1 hlt) (by rw [g2]; simpa only [RV] using h1)
      · rename_i e' j
        obtain ⟨h0, b, off, cs, T, fr, rfl, h1⟩ := RV_fp.1 hx
        exact Does.ret r (run_indexAt_array hu g1 hlt) (by rw [g2]; exact RV_fp.2 ⟨h0, b, off, cs, T, fr, by rw [add_none, Nat.add_assoc], h1⟩)
      · exact Does.fail
  · -- a slice
    rename_i e s b z i hti hi
    obtain ⟨_, _, _, _, hu, _⟩ := ok.ty t _ hti
    have hu : P.underlying t = some (.slice e) := hu
    obtain ⟨ki, rfl⟩ := asNat_ok hk hi
    cases he : env.ty e with
    | none => exact Does.fail
    | some ei =>
      obtain ⟨inf, g1, g2⟩ := run_size ok he
      dsimp only
      split
      · rename_i es
        cases hk : es[i]? with
        | none => exact Does.fail
        | some x =>
          dsimp only
          split
          case isFalse => exact Does.fail
          rename_i hsz
          obtain ⟨h0, a, cap, rfl, _, h3⟩ := RV_sl.1 hx
          have hlt := (List.getElem?_eq_some_iff.1 hk).1
          rcases h3 with rfl | ⟨b, off, cs, T, fr, size, rfl, h4, h5, h6⟩
          · simp at hk
          · exact Does.ret r (run_indexAt_slice hu g1 hlt) (by rw [g2]; exact RV_fp_elem (still := fun b => m.own b = .frozen) (fun b h o => by rw [h]; simp) h0 hk hsz h4 h5 h6)
      · rename_i es
        cases hk : es[i]? with
        | none => exact Does.fail
        | some x =>
          dsimp only
          split
          case isFalse => exact Does.fail
          rename_i hsz
          obtain ⟨h0, a, cap, rfl, _, h3⟩ := RV_lsl.1 hx
          have hlt := (List.getElem?_eq_some_iff.1 hk).1
          rcases h3 with rfl | ⟨b, off, cs, T, fr, size, rfl, h4, h5, h6⟩
          · simp at hk
          · exact Does.ret r (run_indexAt_slice hu g1 hlt) (by rw [g2]; exact RV_fp_elem (still := m.still) (fun b h => h) h0 hk hsz h4 h5 h6)
      · rename_i o off len ext
        refine Does.look r fun n a os' n' hr => ?_
        simp only [RV] at hx
        obtain ⟨_, hx⟩ := hx
        simp only [HM.runAt] at hr
        cases hob : obAt os o with
        | row es s lk =>
          rw [hob] at hx hr
          dsimp only at hr
          split at hr
          case isFalse => simp [HM.runAt] at hr
          rename_i hc
          obtain ⟨c1, c2, rfl, c3⟩ := hc
          simp only [HM.runAt, Option.some.injEq, Prod.mk.injEq] at hr
          obtain ⟨rfl, rfl, rfl⟩ := hr
          refine ⟨rfl, rfl, ?_⟩
          rcases hx.2 c1 (by omega) with ⟨b, p, cap, N, k1, rfl, hp0, _, _, _, hlc⟩ | ⟨_, h0, _⟩
          · have hp := hp0 (by omega)
            subst hp
            refine ⟨_, run_indexAt_slice hu g1 c3, ?_⟩
            simp only [RV]
            refine ⟨⟨_, rfl⟩, ?_⟩
            rw [hob]
            exact ⟨hx.1, fun _ => ⟨b, k1, by rw [add_none, g2, Nat.add_mul, Nat.add_zero]⟩⟩
          · omega
        | _ => rw [hob] at hr; simp [HM.runAt] at hr
      · exact Does.fail
  · exact Does.fail

theorem indexE_ok (ok : EnvOK P env) (r : ORel env w m os) {t : TypeId} {x k : AV} {xv kv : Value} (hx : RV w m os x xv) (hk : RV w m os k kv) : Does P env w m os (indexE env t x k) (Instr.index t xv kv) := by
  unfold indexE
  split
  · rename_i n e s b z i cs hti hi
    obtain ⟨_, _, _, _, hu, _⟩ := ok.ty t _ hti
    have hu : P.underlying t = some (.array n e) := hu
    obtain ⟨ki, rfl⟩ := asNat_ok hk hi
    obtain ⟨vs, rfl, h1, h2⟩ := RV_agg.1 hx
    cases he : env.ty e with
    | none => exact Does.fail
    | some ei =>
      obtain ⟨inf, g1, g2⟩ := run_size ok he
      dsimp only
      split
      case isFalse => exact Does.fail
      rename_i hlt
      refine Does.lift r fun a ha => ?_
      obtain ⟨v, h3, h4⟩ := part_ok (P := P) (w := w) ok h1 h2 ha
      refine ⟨v, ?_, h4⟩
      simp [Instr.index, asIntOf, run_underlying hu, hlt, sizeOf, typeInfo, g1, g2, h3]
  · rename_i s0 b z i s hti hi
    obtain ⟨_, _, _, _, hu, _⟩ := ok.ty t _ hti
    have hu : P.underlying t = some .string := hu
    obtain ⟨ki, rfl⟩ := asNat_ok hk hi
    simp only [RV] at hx
    subst hx
    split
    · rename_i hlt
      refine Does.ret (v := .int .u8 (s[i]'hlt).toNat) r ?_ (by simp only [RV])
      simp [Instr.index, asIntOf, run_underlying hu, hlt]
    · exact Does.fail
  · exact Does.fail

def nilSem (v : Value) : Sem Value :=
  match v with
  | .pointer (some a) => pure (.pointer (some a))
  | .func (.func f) first c => pure (.func (.func f) first c)
  | _ => stuck ""
theorem nilCheckE_ok (r : ORel env w m os) {x : AV} {xv : Value} (hx : RV w m os x xv) : Does P env w m os (nilCheckE x) (nilSem xv) := by
  unfold nilCheckE
  split
  · have h := hx
    simp only [RV] at hx
    obtain ⟨⟨a, rfl⟩, _⟩ := hx
    exact Does.ret r rfl h
  · have h := hx
    simp only [RV] at hx
    obtain ⟨⟨a, rfl⟩, _⟩ := hx
    exact Does.ret r rfl h
  · obtain ⟨h0, b, off, cs, T, fr, rfl, h1⟩ := RV_fp.1 hx
    exact Does.ret r rfl hx
  · have h := hx
    simp only [RV] at hx
    obtain ⟨vs, rfl, _⟩ := hx
    exact Does.ret r rfl h
  · exact Does.fail

theorem lenE_ok (ok : EnvOK P env) (r : ORel env w m os) {t ty : TypeId} {ts : List TypeId} {x : AV} {xv : Value} (hx : RV w m os x xv) : Does P env w m os (lenE env t x) (Builtin.len_ (t :: ts).toArray ty #[xv]) := by
  have hslice : ∀ e, P.underlying t = some (.slice e) → Does P env w m os ((lenOf x).bind fun n => .ret (.int .i64 n)) (Builtin.len_ (t :: ts).toArray ty #[xv]) := by
    intro e hu n a os' n' hr hfr
    obtain ⟨k, os1, n1, k1, k2⟩ := runAt_bind.1 hr
    obtain ⟨rfl, rfl, a', cap, rfl⟩ := lenOf_ok hx k1
    refine Does.ret (v := goInt k) r ?_ (by simp only [RV]; rfl) n1 a os' n' k2 hfr
    simp [Builtin.len_, run_underlying hu]
  unfold lenE
  split
  · rename_i s
    simp only [RV] at hx
    subst hx
    split
    · rename_i s' b z hti
      obtain ⟨_, _, _, _, hu, _⟩ := ok.ty t _ hti
      have hu : P.underlying t = some .string := hu
      refine Does.ret (v := goInt s.size) r ?_ (by simp only [RV]; rfl)
      simp [Builtin.len_, run_underlying hu]
    · exact Does.fail
  · simp only [RV] at hx
    subst hx
    split
    · rename_i k e s b z hti
      obtain ⟨_, _, _, _, hu, _⟩ := ok.ty t _ hti
      have hu : P.underlying t = some (.map k e) := hu
      refine Does.ret (v := goInt 0) r ?_ (by simp only [RV]; rfl)
      simp [Builtin.len_, run_underlying hu]
    · exact Does.fail
  · rename_i o
    split
    · rename_i k e s b z hti
      obtain ⟨_, _, _, _, hu, _⟩ := ok.ty t _ hti
      have hu : P.underlying t = some (.map k e) := hu
      refine Does.look r fun n a os' n' hr => ?_
      simp only [RV] at hx
      obtain ⟨_, hx⟩ := hx
      have hro := r.obs o
      simp only [HM.runAt] at hr
      cases hob : obAt os o with
      | map ents lk =>
        rw [hob] at hx hr hro
        obtain ⟨b, h1, rfl⟩ := hx
        simp only [HM.runAt, Option.some.injEq, Prod.mk.injEq] at hr
        obtain ⟨rfl, rfl, rfl⟩ := hr
        obtain ⟨b', es, clock, h2, h3, h4, _⟩ := hro
        rw [h1] at h2; injection h2 with h2; subst h2
        have hl : ents.length = es.size := by
          rw [← Array.length_toList]
          clear h3
          generalize es.toList = l at h4
          clear hob
          induction ents generalizing l with
          | nil => rw [ROM] at h4; subst h4; rfl
          | cons p ps ih =>
            obtain ⟨me, rest, rfl, _, _, _, h5⟩ := h4
            simp [ih rest h5]
        refine ⟨rfl, rfl, goInt ents.length, ?_, by simp only [RV]; rfl⟩
        simp [Builtin.len_, run_underlying hu, getObj, Sem.run, h3, hl]
      | _ => rw [hob] at hr; simp [HM.runAt] at hr
    · exact Does.fail
  · split
    · rename_i n e s b z hti
      obtain ⟨_, _, _, _, hu, _⟩ := ok.ty t _ hti
      have hu : P.underlying t = some (.array n e) := hu
      refine Does.ret (v := goInt n) r ?_ (by simp only [RV]; rfl)
      simp [Builtin.len_, run_underlying hu]
    · rename_i e s b z hti
      obtain ⟨_, _, _, _, hu, _⟩ := ok.ty t _ hti
      exact hslice e hu
    · exact Does.fail

theorem maxFrom_ok {g : Value → Value → Sem Value} {f : Int → Int → Int} (hg : ∀ k x j y w, (g (.int k x) (.int j y)).run P w = .ok (.int k (f x y)) w) {k : IntKind} : ∀ {as : List AV} {vs : List Value} {a : Int} {b : AV},
    RVL w m os as vs → maxFrom f k a as = some b → ∃ v, (vs.foldlM g (.int k a)).run P w = .ok v w ∧ RV w m os b v
  | [], vs, a, b, h, hb => by
    rw [RVL] at h; subst h
    simp only [maxFrom, Option.some.injEq] at hb
    subst hb
    exact ⟨.int k a, rfl, by simp only [RV]⟩
  | c :: as, vs, a, b, h, hb => by
    obtain ⟨v, t, rfl, h1, h2⟩ := RVL_cons.1 h
    cases c with
    | int j x =>
      simp only [RV] at h1
      subst h1
      simp only [maxFrom] at hb
      split at hb
      · rename_i hjk; subst hjk
        obtain ⟨u, h3, h4⟩ := maxFrom_ok hg h2 hb
        exact ⟨u, by simp only [List.foldlM_cons, Sem.run_bind, hg, Result.andThen]; exact h3, h4⟩
      · simp at hb
    | _ => simp [maxFrom] at hb
theorem maxAll_ok {g : Value → Value → Sem Value} {f : Int → Int → Int} (hg : ∀ k x j y w, (g (.int k x) (.int j y)).run P w = .ok (.int k (f x y)) w) {as : List AV} {vs : List Value} {b : AV} (h : RVL w m os as vs) (hb : maxAll f as = some b) :
    ∃ v0 t v, vs = v0 :: t ∧ (t.foldlM g v0).run P w = .ok v w ∧ RV w m os b v := by
  cases as with
  | nil => simp [maxAll] at hb
  | cons a as =>
    obtain ⟨v, t, rfl, h1, h2⟩ := RVL_cons.1 h
    cases a with
    | int k x =>
      simp only [RV] at h1
      subst h1
      obtain ⟨u, h3, h4⟩ := maxFrom_ok hg h2 hb
      exact ⟨_, t, u, rfl, h3, h4⟩
    | _ => simp [maxAll] at hb
theorem maxE_ok (r : ORel env w m os) {ats : Array TypeId} {ty : TypeId} {as : List AV} {vs : Array Value} (h : RVL w m os as vs.toList) :
    Does P env w m os (HM.lift (maxAll (fun a b => if b > a then b else a) as)) (Builtin.max_ ats ty vs) := by
  refine Does.lift r fun b hb => ?_
  obtain ⟨v0, t, v, h1, h2, h3⟩ := maxAll_ok (P := P) (g := Builtin.max2) (fun k x j y w => rfl) h hb
  exact ⟨v, by simp only [Builtin.max_, h1]; exact h2, h3⟩
theorem minE_ok (r : ORel env w m os) {ats : Array TypeId} {ty : TypeId} {as : List AV} {vs : Array Value} (h : RVL w m os as vs.toList) :
    Does P env w m os (HM.lift (maxAll (fun a b => if b < a then b else a) as)) (Builtin.min_ ats ty vs) := by
  refine Does.lift r fun b hb => ?_
  obtain ⟨v0, t, v, h1, h2, h3⟩ := maxAll_ok (P := P) (g := Builtin.min2) (fun k x j y w => rfl) h hb
  exact ⟨v, by simp only [Builtin.min_, h1]; exact h2, h3⟩

theorem unE_ok (r : ORel env w m os) {op : UnOp} {x : AV} {xv : Value} (hx : RV w m os x xv) : Does P env w m os (HM.lift (unE op x)) (Op.unary op xv) := by
  refine Does.lift r fun b hb => ?_
  unfold unE at hb
  split at hb
  · simp only [Option.some.injEq] at hb; subst hb
    simp only [RV] at hx; subst hx
    exact ⟨_, rfl, by simp only [RV]⟩
  · simp only [Option.some.injEq] at hb; subst hb
    simp only [RV] at hx; subst hx
    exact ⟨_, rfl, by simp only [RV]⟩
  · simp at hb

theorem intE_ok {op : BinOp} {k : IntKind} {a b : Int} {c : AV} (h : intE op k a b = some c) : ∃ v, (match op with
    | .add | .sub | .mul => Op.intArith op k a b
    | .quo | .rem => Op.intDiv op k a b
    | .and | .or | .xor | .andNot => Op.intBits op k a b
    | _ => Op.intCmp op a b : Sem Value).run P w = .ok v w ∧ RV w m os c v := by
  cases op <;> simp only [intE, Option.some.injEq, reduceCtorEq] at h
  case quo =>
    split at h
    · rename_i hb
      simp only [Option.some.injEq] at h; subst h
      exact ⟨.int k (k.wrap (a.tdiv b)), by simp [Op.intDiv, hb], by simp only [RV]⟩
    · simp at h
  case rem =>
    split at h
    · rename_i hb
      simp only [Option.some.injEq] at h; subst h
      exact ⟨.int k (a.tmod b), by simp [Op.intDiv, hb], by simp only [RV]⟩
    · simp at h
  all_goals (subst h; exact ⟨_, rfl, by simp only [RV]⟩)
theorem strE_ok {op : BinOp} {a b : ByteArray} {c : AV} (h : strE op a b = some c) : ∃ v, (Op.stringOp op a b).run P w = .ok v w ∧ RV w m os c v := by
  cases op <;> simp only [strE, Option.some.injEq, reduceCtorEq] at h
  case add =>
    split at h
    · rename_i hb
      simp only [Option.some.injEq] at h; subst h
      refine ⟨.string (a ++ b), ?_, by simp only [RV]⟩
      have : ¬ ((a.size + b.size : Nat) : Int) > IntKind.i64.max := by omega
      simp only [Op.stringOp, this, if_false]
      rfl
    · simp at h
  all_goals (subst h; exact ⟨_, rfl, by simp only [RV]⟩)
theorem eqGuard_ok {op : BinOp} {t : TypeId} {x y : Operand} {a b : Value} (h : Value.plain a) (h2 : a ≠ .nilIface) : (eqGuard op t x y a b).run P w = .ok () w := by
  cases op <;> first
    | rfl
    | (cases a <;> first
        | exact h.elim
        | exact absurd rfl h2
        | (cases b <;> rfl))

theorem run_equal_succ {t : TypeId} {d : TypeDesc} {x y : Value} {c : Bool} (hu : P.underlying t = some d) (h : ∀ (n : Nat) (v : TypeDesc), v = d → (match v, x, y with
    | .bool, .bool a, .bool b => some (a == b)
    | .pointer _, .pointer none, .pointer b => some b.isNone
    | .pointer _, .pointer _, .pointer none => some false
    | .map _ _, .map none, .map b => some b.isNone
    | .map _ _, .map _, .map none => some false
    | .func _ _ _, .nilFunc, .nilFunc => some true
    | .func _ _ _, .nilFunc, .func _ _ _ => some false
    | .func _ _ _, .func _ _ _, .nilFunc => some false
    | _, _, _ => none) = some c) : (Op.equal t x y).run P w = .ok c w := by
  have h := h 0 d rfl
  show (Op.equalIn (9999 + 1) t x y).run P w = _
  rw [Op.equalIn]
  simp only [Sem.run_bind, run_underlying hu, Result.andThen_ok]
  split at h <;> first
    | (simp at h; done)
    | (simp only [Option.some.injEq] at h; subst h; first | rfl | (rename_i a b hn; cases a <;> first | rfl | exact absurd rfl (hn _)) | (rename_i a hn; cases a <;> first | rfl | exact absurd rfl hn))
theorem eqAV_ok (ok : EnvOK P env) {t : TypeId} {ti : TyI} {x y : AV} {xv yv : Value} {c : Bool} (ht : env.ty t = some ti) (hx : RV w m os x xv) (hy : RV w m os y yv) (h : eqAV ti.d x y = some c) :
    (Op.equal t xv yv).run P w = .ok c w ∧ Value.plain xv ∧ xv ≠ .nilIface ∧ (∀ k n, xv ≠ .int k n) ∧ (∀ s, xv ≠ .string s) ∧ (∀ k b, xv ≠ .float k b) ∧ (∀ k a b, xv ≠ .complex k a b) := by
  obtain ⟨_, _, _, _, hu, _⟩ := ok.ty t _ ht
  unfold eqAV at h
  split at h
  all_goals first
    | (simp at h; done)
    | (rename_i he
       rw [he] at hu
       simp only [Option.some.injEq] at h
       subst h
       simp only [RV] at hx hy
       simp only [TyD.ok] at hu
       first
         | (subst hx hy; refine ⟨?_, trivial, by simp, by simp, by simp, by simp, by simp⟩; exact run_equal_succ hu (by rintro _ _ rfl; rfl))
         | (obtain ⟨⟨a, rfl⟩, _⟩ := hy; subst hx; refine ⟨?_, trivial, by simp, by simp, by simp, by simp, by simp⟩; exact run_equal_succ hu (by rintro _ _ rfl; rfl))
         | (obtain ⟨⟨a, rfl⟩, _⟩ := hx; subst hy; refine ⟨?_, trivial, by simp, by simp, by simp, by simp, by simp⟩; exact run_equal_succ hu (by rintro _ _ rfl; rfl))
         | (obtain ⟨a1, a2, a3, hu⟩ := hu; subst hx hy; refine ⟨?_, trivial, by simp, by simp, by simp, by simp, by simp⟩; exact run_equal_succ hu (by rintro _ _ rfl; rfl))
         | (obtain ⟨a1, a2, a3, hu⟩ := hu; obtain ⟨a, rfl, _⟩ := hy; subst hx; refine ⟨?_, trivial, by simp, by simp, by simp, by simp, by simp⟩; exact run_equal_succ hu (by rintro _ _ rfl; rfl))
         | (obtain ⟨a1, a2, a3, hu⟩ := hu; obtain ⟨a, rfl, _⟩ := hx; subst hy; refine ⟨?_, trivial, by simp, by simp, by simp, by simp, by simp⟩; exact run_equal_succ hu (by rintro _ _ rfl; rfl)))

theorem eqF_ok (ok : EnvOK P env) : ∀ {n d : Nat} {t : TypeId} {x y : AV} {xv yv : Value} {c : Bool}, n ≤ d → RV w m os x xv → RV w m os y yv → eqF env n t x y = some c → (Op.equalIn d t xv yv).run P w = .ok c w
  | 0, _, _, _, _, _, _, _, _, _, _, h => by simp [eqF] at h
  | n + 1, 0, _, _, _, _, _, _, hd, _, _, _ => by omega
  | n + 1, d + 1, t, x, y, xv, yv, c, hd, hx, hy, h => by
    rw [eqF] at h
    cases ht : env.ty t with
    | none => rw [ht] at h; simp at h
    | some ti =>
      rw [ht] at h
      obtain ⟨_, _, _, _, hu, _⟩ := ok.ty t _ ht
      dsimp only at h
      split at h
      · rename_i fs xs ys he
        rw [he] at hu
        split at h
        · rename_i hq
          obtain ⟨hs, _, hn⟩ := ok.eqs t hq
          obtain ⟨F, hF, hfs, _⟩ := hu
          have hFt : P.fieldsOf t = F := by simp [Program.fieldsOf, hF]
          obtain ⟨vs, rfl, hp1, hv1⟩ := RV_agg.1 hx
          obtain ⟨us, rfl, hp2, hv2⟩ := RV_agg.1 hy
          rw [run_equalIn_struct w d t vs us (by rw [hFt]; exact hF) hs, hFt]
          have hn := hn F hF
          subst hfs
          clear hF hFt
          generalize F.toList = l at h hn
          induction l with
          | nil => simp only [List.map_nil, eqFs, Option.some.injEq] at h; subst h; rfl
          | cons f l ih =>
            rw [List.map_cons, eqFs] at h
            split at h
            · rename_i a b ha hb
              obtain ⟨av, h1, h2⟩ := part_ok (P := P) (w := w) ok hp1 hv1 ha
              obtain ⟨bv, h3, h4⟩ := part_ok (P := P) (w := w) ok hp2 hv2 hb
              rw [Op.eqFields, if_pos (hn f (List.mem_cons_self ..))]
              cases hq2 : eqF env n f.type a b with
              | none => rw [hq2] at h; simp at h
              | some c' =>
                have h5 := eqF_ok ok (Nat.le_of_succ_le_succ hd) h2 h4 hq2
                rw [hq2] at h
                simp only [Sem.run_bind, h1, h3, h5, Result.andThen]
                cases c' with
                | true =>
                  simp only [Bool.not_true, Bool.false_eq_true, if_false]
                  exact ih h fun g hg => hn g (List.mem_cons_of_mem _ hg)
                | false =>
                  simp only [Option.some.injEq] at h
                  subst h
                  rfl
            · simp at h
        · simp at h
      · rename_i he
        rw [he] at hu
        split at h
        · rename_i hjk
          simp only [Option.some.injEq] at h
          subst h hjk
          simp only [RV] at hx hy
          subst hx hy
          exact run_equalIn_int w d t _ _ _ _ hu
        · simp at h
      · rename_i he
        rw [he] at hu
        simp only [Option.some.injEq] at h
        subst h
        simp only [RV] at hx hy
        subst hx hy
        exact run_equalIn_string w d t _ _ hu
      · rename_i he
        rw [he] at hu
        simp only [Option.some.injEq] at h
        subst h
        simp only [RV] at hx hy
        subst hx hy
        exact run_equalIn_bool' w d t _ _ hu
      · simp at h
theorem eqF_eqs {n : Nat} {t : TypeId} {xs ys : List AV} {c : Bool} (h : eqF env n t (.agg xs) (.agg ys) = some c) : env.eqs t = true := by
  cases n with
  | zero => simp [eqF] at h
  | succ n =>
    rw [eqF] at h
    cases ht : env.ty t with
    | none => rw [ht] at h; simp at h
    | some ti =>
      rw [ht] at h
      dsimp only at h
      split at h
      · split at h
        · assumption
        · simp at h
      all_goals first | (simp at h; done) | (rename_i h1 _ ; exact absurd h1 (by simp)) | contradiction

theorem binE_ok (ok : EnvOK P env) (r : ORel env w m os) {op : BinOp} {t : TypeId} {xo yo : Operand} {x y : AV} {xv yv : Value} (hx : RV w m os x xv) (hy : RV w m os y yv) :
    Does P env w m os (HM.lift (binE env op t x y)) (do eqGuard op t xo yo xv yv; binOp op t xv yv) := by
  refine Does.lift r fun b hb => ?_
  have fin : ∀ v, Value.plain xv → xv ≠ .nilIface → (binOp op t xv yv).run P w = .ok v w → (do eqGuard op t xo yo xv yv; binOp op t xv yv : Sem Value).run P w = .ok v w := by
    intro v h1 h2 h3
    simp only [Sem.run_bind, eqGuard_ok h1 h2, Result.andThen, h3]
  unfold binE at hb
  split at hb
  · rename_i xs ys
    obtain ⟨vs, rfl, hp1, hv1⟩ := RV_agg.1 hx
    obtain ⟨us, rfl, hp2, hv2⟩ := RV_agg.1 hy
    split at hb
    · simp only [Option.map_eq_some_iff] at hb
      obtain ⟨c, h3, rfl⟩ := hb
      have h4 := eqF_ok ok (d := 10000) (by omega) hx hy h3
      obtain ⟨_, h5, _⟩ := ok.eqs t (eqF_eqs h3)
      refine ⟨.bool c, ?_, by simp only [RV]⟩
      simp only [Sem.run_bind, run_eqGuard_agg w _ t xo yo vs us h5, Result.andThen, run_eql_struct, h4]
    · simp only [Option.map_eq_some_iff] at hb
      obtain ⟨c, h3, rfl⟩ := hb
      have h4 := eqF_ok ok (d := 10000) (by omega) hx hy h3
      obtain ⟨_, h5, _⟩ := ok.eqs t (eqF_eqs h3)
      refine ⟨.bool !c, ?_, by simp only [RV]⟩
      simp only [Sem.run_bind, run_eqGuard_agg w _ t xo yo vs us h5, Result.andThen, run_neq_struct, h4]
    · simp at hb
  · rename_i j a k c
    simp only [RV] at hx hy
    subst hx hy
    split at hb
    · simp only [shiftE] at hb
      split at hb
      · rename_i hc
        simp only [Option.some.injEq] at hb; subst hb
        refine ⟨_, fin _ trivial (by simp) ?_, by simp only [RV]; rfl⟩
        have : ¬ c < 0 := by omega
        simp only [binOp, Op.shift, this, if_false]
        rfl
      · simp at hb
    · simp only [shiftE] at hb
      split at hb
      · rename_i hc
        simp only [Option.some.injEq] at hb; subst hb
        refine ⟨_, fin _ trivial (by simp) ?_, by simp only [RV]; rfl⟩
        have : ¬ c < 0 := by omega
        simp only [binOp, Op.shift, this, if_false]
        rfl
      · simp at hb
    · rename_i h1 h2
      split at hb
      · rename_i hjk
        subst hjk
        obtain ⟨v, h3, h4⟩ := intE_ok (P := P) (w := w) (m := m) (os := os) hb
        refine ⟨v, fin _ trivial (by simp) ?_, h4⟩
        cases op <;> first
          | exact absurd rfl h1
          | exact absurd rfl h2
          | (simp only [binOp, ne_eq, not_true, if_false]; exact h3)
      · simp at hb
  · rename_i a c
    simp only [RV] at hx hy
    subst hx hy
    obtain ⟨v, h3, h4⟩ := strE_ok (P := P) (w := w) (m := m) (os := os) hb
    refine ⟨v, fin _ trivial (by simp) ?_, h4⟩
    cases op <;> exact h3
  · rename_i h1 h2
    cases ht : env.ty t with
    | none => rw [ht] at hb; simp at hb
    | some ti =>
      rw [ht] at hb
      dsimp only at hb
      split at hb
      · simp only [Option.map_eq_some_iff] at hb
        obtain ⟨c, h3, rfl⟩ := hb
        obtain ⟨h4, h5, h6, h7, h8, h9, h10⟩ := eqAV_ok ok ht hx hy h3
        refine ⟨.bool c, fin _ h5 h6 ?_, by simp only [RV]⟩
        have : binOp .eql t xv yv = (do pure (.bool (← Op.equal t xv yv))) := by
          cases xv <;> first
            | rfl
            | exact absurd rfl (h7 _ _)
            | exact absurd rfl (h8 _)
            | exact absurd rfl (h9 _ _)
            | exact absurd rfl (h10 _ _ _)
        rw [this]
        simp only [Sem.run_bind, h4, Result.andThen]
        rfl
      · simp only [Option.map_eq_some_iff] at hb
        obtain ⟨c, h3, rfl⟩ := hb
        obtain ⟨h4, h5, h6, h7, h8, h9, h10⟩ := eqAV_ok ok ht hx hy h3
        refine ⟨.bool !c, fin _ h5 h6 ?_, by simp only [RV]⟩
        have : binOp .neq t xv yv = (do pure (.bool (!(← Op.equal t xv yv)))) := by
          cases xv <;> first
            | rfl
            | exact absurd rfl (h7 _ _)
            | exact absurd rfl (h8 _)
            | exact absurd rfl (h9 _ _)
            | exact absurd rfl (h10 _ _ _)
        rw [this]
        simp only [Sem.run_bind, h4, Result.andThen]
        rfl
      · simp at hb

theorem fieldE_ok (ok : EnvOK P env) (r : ORel env w m os) {t : TypeId} {x : AV} {xv : Value} {f : Nat} (hx : RV w m os x xv) : Does P env w m os (fieldE env t x f) (Instr.field t xv f) := by
  unfold fieldE
  split
  · rename_i fs size bytes zero hti
    obtain ⟨inf, _, _, _, ⟨F, hu, hfs, hne⟩, _⟩ := ok.ty t _ hti
    subst hfs
    cases hf : (F.toList.map fun f => (f.offset, f.type))[f]? with
    | none => exact Does.fail
    | some p =>
      obtain ⟨foff, ft⟩ := p
      dsimp only
      rw [List.getElem?_map, Option.map_eq_some_iff] at hf
      obtain ⟨fd, hfd, hp⟩ := hf
      simp only [Prod.mk.injEq] at hp
      obtain ⟨rfl, rfl⟩ := hp
      have hfd' : F[f]? = some fd := by rw [← Array.getElem?_toList]; exact hfd
      split
      · rename_i cs
        refine Does.lift r fun a ha => ?_
        obtain ⟨vs, rfl, h1, h2⟩ := RV_agg.1 hx
        obtain ⟨v, h3, h4⟩ := part_ok (P := P) (w := w) ok h1 h2 ha
        refine ⟨v, ?_, h4⟩
        have h5 := run_underlying' (w := w) hu
        simp only [Instr.field, Sem.run_bind, h5, Result.andThen, hfd', asAgg, Sem.run_pure, h3]
      · exact Does.fail
  · exact Does.fail
end
end Go.V
namespace Go.V
section
variable {P : Program} {env : Env} {w w' : World} {m m' : Emb} {os os' : List Ob}

theorem mapM_places : ∀ (l : List Field), (∀ f ∈ l, P.cellsOf f.type ≠ 0) → l.mapM (fun f => (P.info? f.type).map fun i => (f.offset, i.size)) = some (l.map fun f => (f.offset, P.cellsOf f.type))
  | [], _ => by simp
  | f :: fs, h => by
    have h1 := h f (by simp)
    have ih := mapM_places fs fun g hg => h g (by simp [hg])
    cases hi : P.info? f.type with
    | none => simp [Program.cellsOf, hi] at h1
    | some i => simp [hi, ih, Program.cellsOf]

theorem fillC_ok (ok : EnvOK P env) {place : Nat → Option (Nat × Nat)} {fs : List (Nat × TypeId)} (hp : ∀ i off t ti, fs[i]? = some (off, t) → env.ty t = some ti → place i = some (off, ti.size)) :
    ∀ {parts : List (Nat × AV)} {pv : List (Nat × Value)} {cs ds : List AV} {cells : Array Value}, RVL w m os cs cells.toList → cs.all AV.plain = true → pv.map (·.1) = parts.map (·.1) → RVL w m os (parts.map (·.2)) (pv.map (·.2)) →
      buildC env fs cs parts = some ds → ∃ cells', Instr.fill place cells pv = some cells' ∧ RVL w m os ds cells'.toList ∧ ds.all AV.plain = true
  | [], pv, cs, ds, cells, h, hpl, hk, _, hb => by
    have : pv = [] := by simpa using hk
    subst this
    simp only [buildC, Option.some.injEq] at hb
    subst hb
    exact ⟨cells, rfl, h, hpl⟩
  | (i, a) :: parts, [], cs, ds, cells, h, hpl, hk, _, hb => by simp at hk
  | (i, a) :: parts, (j, v) :: pv, cs, ds, cells, h, hpl, hk, hv, hb => by
    simp only [List.map_cons, List.cons.injEq] at hk
    obtain ⟨rfl, hk⟩ := hk
    simp only [List.map_cons] at hv
    obtain ⟨v', t', h1, h2, h3⟩ := RVL_cons.1 hv
    simp only [List.cons.injEq] at h1
    obtain ⟨rfl, rfl⟩ := h1
    rw [buildC] at hb
    cases hf : fs[j]? with
    | none => rw [hf] at hb; simp at hb
    | some p =>
      obtain ⟨off, t⟩ := p
      rw [hf] at hb
      dsimp only at hb
      cases hti : env.ty t with
      | none => rw [hti] at hb; simp at hb
      | some ti =>
        rw [hti] at hb
        dsimp only at hb
        split at hb
        case isFalse => simp at hb
        rename_i hc
        obtain ⟨c1, c2, c3⟩ := hc
        have hcv := RVC_of_RV (storable_plain c2) h2
        obtain ⟨q1, q2⟩ := RVC_cells hcv
        have hvl := RVC_length hcv
        rw [Array.length_toList, c1] at hvl
        have hcl := RVL_length h
        rw [Array.length_toList] at hcl
        have hset := foldA_set off v.cells cells (by omega)
        have hnew : RVL w m os (fillAV cs off a.cells) (v.cells.zipIdx.foldl (fun cs (x : Value × Nat) => cs.setIfInBounds (off + x.2) x.1) cells).toList := by
          rw [hset, hvl, ← c1]
          exact RVL_append (RVL_append (RVL_take off h) q1) (RVL_drop _ h)
        have hpl' : (fillAV cs off a.cells).all AV.plain = true := by
          unfold fillAV
          rw [List.all_append, List.all_append, Bool.and_eq_true, Bool.and_eq_true]
          rw [List.all_eq_true] at hpl
          exact ⟨⟨List.all_eq_true.2 fun c hc => hpl c (List.mem_of_mem_take hc), q2⟩, List.all_eq_true.2 fun c hc => hpl c (List.mem_of_mem_drop hc)⟩
        obtain ⟨cells', r1, r2, r3⟩ := fillC_ok ok hp hnew hpl' hk h3 hb
        refine ⟨cells', ?_, r2, r3⟩
        rw [Instr.fill, hp j off t ti hf hti]
        simp only [hvl, ne_eq, not_true, decide_false, Bool.false_or]
        rw [if_neg (by simp; omega)]
        exact r1

theorem buildE_ok (ok : EnvOK P env) (r : ORel env w m os) {t : TypeId} {parts : List (Nat × AV)} {pv : Array (Nat × Value)} (hk : pv.toList.map (·.1) = parts.map (·.1)) (hv : RVL w m os (parts.map (·.2)) (pv.toList.map (·.2))) :
    Does P env w m os (buildE env t parts) (Instr.build t pv) := by
  unfold buildE
  split
  · rename_i fs size bytes cs hti
    obtain ⟨inf, h1, h2, h3, ⟨F, hu, hfs, hne⟩, h5⟩ := ok.ty t _ hti
    obtain ⟨v, h6, h7⟩ := h5 _ rfl
    have hz := zero_RVC (w := w) (m := m) (os := os) h7
    obtain ⟨z1, z2⟩ := RVC_agg.1 hz
    refine Does.lift r fun b hb => ?_
    simp only [Option.map_eq_some_iff] at hb
    obtain ⟨ds, hb, rfl⟩ := hb
    obtain ⟨cells', r1, r2, r3⟩ := fillC_ok (P := P) ok (place := ((F.toList.map fun f => (f.offset, P.cellsOf f.type)).toArray[·]?)) (fun i off t' ti hi hti' => by
      subst hfs
      rw [List.getElem?_map, Option.map_eq_some_iff] at hi
      obtain ⟨f, hf, hp⟩ := hi
      simp only [Prod.mk.injEq] at hp
      obtain ⟨rfl, rfl⟩ := hp
      obtain ⟨i', g1, g2⟩ := run_size ok hti'
      simp only [List.getElem?_toArray, List.getElem?_map, hf, Option.map_some, Program.cellsOf, g1, g2]
      rfl) z2 z1 hk hv hb
    refine ⟨.agg cells', run_build w t pv cells' ?_, RV_agg.2 ⟨cells', rfl, r3, r2⟩⟩
    unfold Program.built
    rw [h1, hu]
    simp only [h6, mapM_places F.toList hne]
    exact r1
  · rename_i n e size bytes cs hti
    obtain ⟨inf, h1, h2, h3, hu, h5⟩ := ok.ty t _ hti
    have hu : P.underlying t = some (.array n e) := hu
    obtain ⟨v, h6, h7⟩ := h5 _ rfl
    have hz := zero_RVC (w := w) (m := m) (os := os) h7
    obtain ⟨z1, z2⟩ := RVC_agg.1 hz
    cases he : env.ty e with
    | none => exact Does.fail
    | some ei =>
      obtain ⟨inf2, g1, g2⟩ := run_size ok he
      refine Does.lift r fun b hb => ?_
      simp only [Option.map_eq_some_iff] at hb
      obtain ⟨ds, hb, rfl⟩ := hb
      obtain ⟨cells', r1, r2, r3⟩ := fillC_ok (P := P) ok (place := fun i => some (i * inf2.size, inf2.size)) (fun i off t' ti hi hti' => by
        rw [List.getElem?_map, Option.map_eq_some_iff] at hi
        obtain ⟨f, hf, hp⟩ := hi
        simp only [Prod.mk.injEq] at hp
        obtain ⟨rfl, rfl⟩ := hp
        rw [he] at hti'
        injection hti' with hti'
        subst hti'
        obtain ⟨_, rfl⟩ := List.getElem?_eq_some_iff.1 hf
        simp [g2]) z2 z1 hk hv hb
      refine ⟨.agg cells', run_build w t pv cells' ?_, RV_agg.2 ⟨cells', rfl, r3, r2⟩⟩
      unfold Program.built
      rw [h1, hu]
      simp only [h6, g1]
      exact r1
  · exact Does.fail
end
end Go.V
