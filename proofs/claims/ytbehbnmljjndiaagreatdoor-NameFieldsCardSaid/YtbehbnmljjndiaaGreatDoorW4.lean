/-
  Laws of library functions; runes to bytes and back.
-/
import Derived.Test.YtbehbnmljjndiaaGreatDoorW3
import Derived.Test.YtbehbnmljjndiaaGreatDoorV5
import Derived.Below
import Derived.Lib.Join
import Derived.Lib.FieldsP
set_option linter.unusedVariables false
set_option linter.unusedSimpArgs false
namespace Go.V
open Go.RowKit
/-! ### Laws of library functions -/
section
variable {P : Program} {env : Env} {w w' : World} {m m' : Emb} {os os' : List Ob}
def Emb.growF (m : Emb) (w : World) (g : Option Nat) : Emb := { own := fun b => if b < w.heap.size then m.own b else if some b = g then .frozen else .foreign, blk := m.blk }
/-- New blocks: nobody's, but for one that is frozen. -/
theorem growF_next {k : Nat} {g : Option Nat} (r : ORel env w m os) (hb : Below w.heap.size w w') (hg : ∀ b, g = some b → b < w'.heap.size) : Next env w m os k w' (m.growF w g) os k := by
  have kept : Kept m w (m.growF w g) w' := ⟨hb.size, hb.os, hb.tape, hb.output, fun b hlt _ => ⟨hb.block b hlt, by simp [Emb.growF, hlt]⟩, fun b n h => by
    obtain ⟨cs, T, fr, h4, h5⟩ := cellsN_some.1 h
    exact cellsN_some.2 ⟨cs, T, fr, (hb.block b (lt_of_heap h4)).trans h4, h5⟩⟩
  have goes : Goes w m os w' (m.growF w g) os := ⟨kept, fun o => by
    show ObGo w (m.blk o) w' (m.blk o) (obAt os o) (obAt os o)
    cases obAt os o <;> simp only [ObGo] <;> try trivial
    · exact ⟨trivial, Nat.le_refl _, fun _ => trivial⟩
    · exact ⟨trivial, fun b es clock j me _ h4 h5 => ⟨es, clock, me, (hb.block b (lt_of_heap h4)).trans h4, h5, rfl⟩⟩⟩
  refine ⟨⟨fun o => ?_, fun b o h => ?_, fun b h => ?_, fun x e h => ?_⟩, goes, Nat.le_refl _, fun _ _ h => h⟩
  · exact (r.obs o).go goes r rfl fun b h => ⟨hb.block b (r.mine b o h).1, by simp [Emb.growF, (r.mine b o h).1, h]⟩
  · simp only [Emb.growF] at h
    split at h
    · obtain ⟨h6, h7, h8⟩ := r.mine b o h
      exact ⟨Nat.lt_of_lt_of_le h6 hb.size, h7, h8⟩
    · split at h <;> simp at h
  · simp only [Emb.growF] at h
    split at h
    · exact Nat.lt_of_lt_of_le (r.frozen b h) hb.size
    · split at h
      · rename_i hgb; exact hg b hgb.symm
      · simp at h
  · obtain ⟨h4, h5, cs, T, fr, h6, h7⟩ := r.glob x e h
    exact ⟨h4, by simp [Emb.growF, lt_of_heap h6, h5], cs, T, fr, (hb.block _ (lt_of_heap h6)).trans h6, h7.go goes r⟩
/-- A new array of data, handed back. -/
theorem sl_next {k size : Nat} {T : TypeId} {v : Value} {es : List AV} {cells : List Value} (r : ORel env w m os) (hb : Below w.heap.size w w') (ho : w'.ownsRow w.heap.size T size v es.length cells)
    (hcls : AV.clsL es = true) (hes : ∀ m', RVE w' m' os size es cells) : ∃ m', Next env w m os k w' m' os k ∧ RV w' m' os (.sl es) v := by
  obtain ⟨hl, ho⟩ := ho
  rcases ho with ⟨rfl, h0⟩ | ⟨g, cap, cur, rfl, hbase, hcur, hn, _, hsz, htake⟩
  · have hnil : es = [] := List.length_eq_zero_iff.1 h0
    subst hnil
    exact ⟨_, growF_next (g := none) r hb (fun _ h => by cases h), RV_sl.2 ⟨rfl, none, 0, rfl, Nat.le_refl _, .inl rfl⟩⟩
  · have hg : g < w'.heap.size := lt_of_heap hcur
    refine ⟨_, growF_next (g := some g) r hb (fun b h => by injection h with h; omega), RV_sl.2 ⟨hcls, some ⟨g, 0, none⟩, cap, rfl, hn, .inr ⟨g, 0, cur, T, (0, 0), size, rfl, ?_, hcur, ?_⟩⟩⟩
    · simp only [Emb.growF]
      rw [if_neg (by omega)]; simp
    · have e : cur.toList.drop 0 = cells ++ cur.toList.drop (es.length * size) := by rw [List.drop_zero, ← htake, List.take_append_drop]
      rw [e]
      exact RVE_more (hes _)
def strsOf : List AV → Option (List ByteArray)
  | [] => some []
  | .str s :: r => (strsOf r).map fun l => s :: l
  | _ => none
theorem strsOf_ok {size : Nat} : ∀ {es : List AV} {xs : List ByteArray} {l : List Value}, strsOf es = some xs → RVE w m os size es l → xs.length = es.length ∧ (es ≠ [] → size = 1) ∧ l.take (es.length * size) = xs.map Value.string
  | [], xs, l, h, _ => by simp only [strsOf, Option.some.injEq] at h; subst h; exact ⟨rfl, fun h => absurd rfl h, by simp⟩
  | e :: es, xs, l, h, hr => by
    obtain ⟨vs, rest, rfl, h2, h3, h4⟩ := RVE_cons.1 hr
    cases e with
    | str s =>
      simp only [strsOf] at h
      obtain ⟨ys, h5, rfl⟩ := Option.map_eq_some_iff.1 h
      obtain ⟨h6, h7, h8⟩ := strsOf_ok h5 h4
      obtain ⟨_, v, rfl, hv⟩ := h3
      have hv : v = .string s := by simpa [RV] using hv
      subst hv
      have hs : size = 1 := by simpa using h2.symm
      subst hs
      refine ⟨by simp [h6], fun _ => rfl, ?_⟩
      simp only [List.length_cons, Nat.mul_one] at h8 ⊢
      simp [h8]
    | _ => simp [strsOf] at h
theorem RVE_strs : ∀ (xs : List ByteArray), RVE w m os 1 (xs.map AV.str) (xs.map Value.string)
  | [] => RVE_nil
  | x :: xs => RVE_cons.2 ⟨[.string x], _, rfl, rfl, ⟨rfl, _, rfl, by simp [RV]⟩, RVE_strs xs⟩
theorem RVE_intsV {k : IntKind} : ∀ (xs : List Int), RVE w m os 1 (xs.map (AV.int k)) (xs.map (Value.int k))
  | [] => RVE_nil
  | x :: xs => RVE_cons.2 ⟨[.int k x], _, rfl, rfl, ⟨rfl, _, rfl, by simp [RV]⟩, RVE_intsV xs⟩
theorem clsL_strs : ∀ (xs : List ByteArray), AV.clsL (xs.map AV.str) = true
  | [] => rfl
  | x :: xs => by rw [List.map_cons, clsL_cons, clsL_strs xs]; rfl
/-- slices.Clone of integers -/
def xClone (args : List AV) : HM AV := match args with
  | [v] => (elemsOf v).bind fun es => match intsOf .i64 es with
    | some ns => if ns.length ≤ 1000000 then .ret (.sl (ns.map (.int .i64))) else .fail
    | none => .fail
  | _ => .fail
/-- strings.Join -/
def xJoin (args : List AV) : HM AV := match args with
  | [v, .str sep] => (elemsOf v).bind fun es => match strsOf es with
    | some xs => if xs.length ≤ 1000000 ∧ (Lib.join (xs.map (·.data.toList)) sep.data.toList).length ≤ 1000000 then .ret (.str ⟨(Lib.join (xs.map (·.data.toList)) sep.data.toList).toArray⟩) else .fail
    | none => .fail
  | _ => .fail
/-- strings.FieldsFunc with a function without captures -/
def xFields (g : FuncId) (p : Nat → Bool) (args : List AV) : HM AV := match args with
  | [.str s, .fn h []] => if h = g ∧ s.size ≤ 1000000 then .ret (.sl ((Lib.goFieldsP p s).map .str)) else .fail
  | _ => .fail
theorem RVL_one' {a : AV} {l : List Value} (h : RVL w m os [a] l) : ∃ v, l = [v] ∧ RV w m os a v := by
  obtain ⟨v, t, rfl, h1, h2⟩ := RVL_cons.1 h
  rw [RVL] at h2; subst h2
  exact ⟨v, rfl, h1⟩
theorem xClone_ok {f : FuncId} (h1 : ∀ (b off n c : Nat) (zs : List Int) (w : World), n ≤ zs.length → n * 8 ≤ 140737488355328 → (∀ j, j < zs.length → w.cell? ⟨b, off + j, none⟩ = some (.int .i64 (zs.getD j 0))) →
      Calls P f #[.slice (some ⟨b, off, none⟩) n c] w fun e w' => ∃ v', e = .returned v' ∧ w'.ownsRow w.heap.size 3 1 v' n ((zs.take n).map (Value.int .i64)) ∧ v' ≠ .slice none 0 0 ∧ Below w.heap.size w w')
    (h2 : ∀ (n c : Nat) (w : World), Calls P f #[.slice none n c] w fun e w' => e = .returned (.slice none 0 0) ∧ w' = w)
    (h3 : ∀ (a : Addr) (c : Nat) (w : World), Calls P f #[.slice (some a) 0 c] w fun e w' => ∃ v', e = .returned v' ∧ w'.ownsRow w.heap.size 3 1 v' 0 [] ∧ v' ≠ .slice none 0 0 ∧ Below w.heap.size w w') : ExtOK P env f xClone := by
  intro w m os args argv r ha n a os' n' hr hfr
  unfold xClone at hr
  split at hr
  case h_2 => simp [HM.runAt] at hr
  rename_i v0
  obtain ⟨v, hv, hrv⟩ := RVL_one' ha
  obtain rfl : argv = #[v] := by cases argv; simp_all
  obtain ⟨es, os1, n1, g1, g2⟩ := runAt_bind.1 hr
  obtain ⟨rfl, rfl, size, hsh⟩ := elemsOf_ok r hrv g1
  cases hi : intsOf .i64 es with
  | none => rw [hi] at g2; simp [HM.runAt] at g2
  | some ns =>
    rw [hi] at g2
    dsimp only at g2
    split at g2
    case isFalse => simp [HM.runAt] at g2
    rename_i hle
    simp only [HM.runAt, Option.some.injEq, Prod.mk.injEq] at g2
    obtain ⟨rfl, rfl, rfl⟩ := g2
    rcases hsh with ⟨rfl, a, cap, rfl⟩ | ⟨b, off, cap, cs, T, fr, rfl, hb, hrve⟩
    · simp only [intsOf, Option.some.injEq] at hi
      subst hi
      cases a with
      | none =>
        refine (h2 0 cap w).mono ?_
        rintro e w' ⟨rfl, rfl⟩
        exact ⟨m, _, rfl, .refl r, RV_sl.2 ⟨rfl, none, 0, rfl, Nat.le_refl _, .inl rfl⟩⟩
      | some a =>
        refine (h3 a cap w).mono ?_
        rintro e w' ⟨v', rfl, ho, _, hbl⟩
        obtain ⟨m', nx, hv'⟩ := sl_next (k := _) (es := []) r hbl ho rfl (fun _ => RVE_nil)
        exact ⟨m', _, rfl, nx, hv'⟩
    · obtain ⟨c1, c2, c3⟩ := intsOf_ok hi hrve
      by_cases hne : es = []
      · subst hne
        simp only [intsOf, Option.some.injEq] at hi
        subst hi
        refine (h3 _ cap w).mono ?_
        rintro e w' ⟨v', rfl, ho, _, hbl⟩
        obtain ⟨m', nx, hv'⟩ := sl_next (k := _) (es := []) r hbl ho rfl (fun _ => RVE_nil)
        exact ⟨m', _, rfl, nx, hv'⟩
      · have hs := c2 hne
        subst hs
        rw [Nat.mul_one] at c3
        refine (h1 b off es.length cap ns w (by omega) (by omega) fun j hj => ?_).mono ?_
        · have hj' : (ns.map (Value.int .i64))[j]? = some (.int .i64 (ns.getD j 0)) := by
            rw [List.getElem?_map, List.getElem?_eq_getElem hj, List.getD_eq_getElem?_getD, List.getElem?_eq_getElem hj]; rfl
          rw [← c3] at hj'
          have := cell_seg hb j _ hj'
          rwa [show (⟨b, off, none⟩ : Addr).add j = ⟨b, off + j, none⟩ by simp only [Addr.add]; split <;> simp_all] at this
        · rintro e w' ⟨v', rfl, ho, _, hbl⟩
          have ho' : w'.ownsRow w.heap.size 3 1 v' (ns.map (AV.int .i64)).length (ns.map (Value.int .i64)) := by
            rw [List.length_map, c1]
            rw [List.take_of_length_le (by omega)] at ho
            exact ho
          obtain ⟨m', nx, hv'⟩ := sl_next (k := _) r hbl ho' clsL_ints (fun _ => RVE_intsV _)
          exact ⟨m', _, rfl, nx, hv'⟩
theorem xJoin_ok {f : FuncId} (h1 : ∀ (bk o c : Nat) (xs : List ByteArray) (sep : ByteArray) (w : World), (∀ (j : Nat) x, xs[j]? = some x → w.cell? ⟨bk, o + j, none⟩ = some (.string x)) → bk < w.heap.size → xs.length ≤ 140737488355328 → xs.length ≤ c → (Lib.join (xs.map (·.data.toList)) sep.data.toList).length ≤ 140737488355328 →
      Calls P f #[.slice (some ⟨bk, o, none⟩) xs.length c, .string sep] w fun e w' => e = .returned (.string ⟨(Lib.join (xs.map (·.data.toList)) sep.data.toList).toArray⟩) ∧ Below w.heap.size w w')
    (h2 : ∀ (a : Option Addr) (c : Nat) (sep : ByteArray) (w : World), Calls P f #[.slice a 0 c, .string sep] w fun e w' => e = .returned (.string ⟨#[]⟩) ∧ w' = w) : ExtOK P env f xJoin := by
  intro w m os args argv r ha n a os' n' hr hfr
  unfold xJoin at hr
  split at hr
  case h_2 => simp [HM.runAt] at hr
  rename_i v0 sep
  obtain ⟨v, t, hv, hrv, ht⟩ := RVL_cons.1 ha
  obtain ⟨v2, rfl, hv2⟩ := RVL_one' ht
  have hv2 : v2 = .string sep := by simpa [RV] using hv2
  subst hv2
  obtain rfl : argv = #[v, .string sep] := by cases argv; simp_all
  obtain ⟨es, os1, n1, g1, g2⟩ := runAt_bind.1 hr
  obtain ⟨rfl, rfl, size, hsh⟩ := elemsOf_ok r hrv g1
  cases hi : strsOf es with
  | none => rw [hi] at g2; simp [HM.runAt] at g2
  | some xs =>
    rw [hi] at g2
    dsimp only at g2
    split at g2
    case isFalse => simp [HM.runAt] at g2
    rename_i hle
    simp only [HM.runAt, Option.some.injEq, Prod.mk.injEq] at g2
    obtain ⟨rfl, rfl, rfl⟩ := g2
    rcases hsh with ⟨rfl, a, cap, rfl⟩ | ⟨b, off, cap, cs, T, fr, rfl, hb, hrve⟩
    · simp only [strsOf, Option.some.injEq] at hi
      subst hi
      refine (h2 a cap sep w).mono ?_
      rintro e w' ⟨rfl, rfl⟩
      exact ⟨m, _, rfl, .refl r, by simp [RV, Lib.join, List.intercalate]⟩
    · obtain ⟨c1, c2, c3⟩ := strsOf_ok hi hrve
      by_cases hne : es = []
      · subst hne
        simp only [strsOf, Option.some.injEq] at hi
        subst hi
        refine (h2 _ cap sep w).mono ?_
        rintro e w' ⟨rfl, rfl⟩
        exact ⟨m, _, rfl, .refl r, by simp [RV, Lib.join, List.intercalate]⟩
      · have hs := c2 hne
        subst hs
        rw [Nat.mul_one] at c3
        have hcap : es.length ≤ cap := by
          cases v0 with
          | sl fs =>
            obtain ⟨_, a, cap', he, hc, _⟩ := RV_sl.1 hrv
            simp only [elemsOf, HM.runAt, Option.some.injEq, Prod.mk.injEq] at g1
            obtain ⟨rfl, _⟩ := g1
            injection he with _ _ he; subst he; exact hc
          | lsl fs =>
            obtain ⟨_, a, cap', he, hc, _⟩ := RV_lsl.1 hrv
            simp only [elemsOf, HM.runAt, Option.some.injEq, Prod.mk.injEq] at g1
            obtain ⟨rfl, _⟩ := g1
            injection he with _ _ he; subst he; exact hc
          | nils => simp only [elemsOf, HM.runAt, Option.some.injEq, Prod.mk.injEq] at g1; exact absurd g1.1.symm hne
          | arr o off' len ext =>
            simp only [RV] at hrv
            obtain ⟨_, hrv⟩ := hrv
            simp only [elemsOf, HM.runAt] at g1
            cases hob : obAt os1 o with
            | row fs s lk =>
              rw [hob] at hrv g1
              dsimp only at g1 hrv
              split at g1
              · rename_i hc
                simp only [HM.runAt, Option.some.injEq, Prod.mk.injEq] at g1
                obtain ⟨rfl, _⟩ := g1
                have hlen : ((fs.drop off').take len).length = len := by rw [List.length_take, List.length_drop]; omega
                rcases hrv.2 hc.1 (by omega) with ⟨b', p', cap', n', e1, e2, _, _, _, _, hl⟩ | ⟨_, e2, a', e3⟩
                · injection e2 with _ e4 e5
                  omega
                · injection e3 with _ e4 _
                  exact absurd (List.length_eq_zero_iff.1 e4) hne
              · simp [HM.runAt] at g1
            | _ => rw [hob] at g1; simp [HM.runAt] at g1
          | _ => simp [elemsOf, HM.runAt] at g1
        rw [← c1]
        refine (h1 b off cap xs sep w (fun j x hj => ?_) (lt_of_heap hb) (by omega) (by omega) (by omega)).mono ?_
        · have hj' : (xs.map Value.string)[j]? = some (.string x) := by rw [List.getElem?_map, hj]; rfl
          rw [← c3] at hj'
          have := cell_seg hb j _ hj'
          rwa [show (⟨b, off, none⟩ : Addr).add j = ⟨b, off + j, none⟩ by simp only [Addr.add]; split <;> simp_all] at this
        · rintro e w' ⟨rfl, hbl⟩
          exact ⟨_, _, rfl, growF_next (g := none) r hbl (fun _ h => by cases h), by simp [RV]⟩
theorem xFields_ok {f g : FuncId} {p : Nat → Bool} (h : ∀ (s : ByteArray) (w : World), s.size ≤ 4294967296 → Calls P f #[.string s, .func (.func g) #[] #[]] w fun e w' => ∃ A, e = .returned (.slice (some ⟨A, 0, none⟩) (Lib.goFieldsP p s).length (Lib.goFieldsP p s).length) ∧ w.heap.size ≤ A ∧
      w'.ownsRow w.heap.size 9 1 (.slice (some ⟨A, 0, none⟩) (Lib.goFieldsP p s).length (Lib.goFieldsP p s).length) (Lib.goFieldsP p s).length ((Lib.goFieldsP p s).map Value.string) ∧ Below w.heap.size w w') : ExtOK P env f (xFields g p) := by
  intro w m os args argv r ha n a os' n' hr hfr
  unfold xFields at hr
  split at hr
  case h_2 => simp [HM.runAt] at hr
  rename_i s h'
  split at hr
  case isFalse => simp [HM.runAt] at hr
  rename_i hc
  obtain ⟨rfl, hs⟩ := hc
  simp only [HM.runAt, Option.some.injEq, Prod.mk.injEq] at hr
  obtain ⟨rfl, rfl, rfl⟩ := hr
  obtain ⟨v, t, hv, hrv, ht⟩ := RVL_cons.1 ha
  obtain ⟨v2, rfl, hv2⟩ := RVL_one' ht
  have hrv : v = .string s := by simpa [RV] using hrv
  subst hrv
  simp only [RV] at hv2
  obtain ⟨vs, rfl, hvs⟩ := hv2
  rw [RVL] at hvs
  obtain rfl : vs = #[] := by cases vs; simp_all
  obtain rfl : argv = #[.string s, .func (.func h') #[] #[]] := by cases argv; simp_all
  refine (h s w (by omega)).mono ?_
  rintro e w' ⟨A, rfl, hA, ho, hbl⟩
  have ho' : w'.ownsRow w.heap.size 9 1 (.slice (some ⟨A, 0, none⟩) (Lib.goFieldsP p s).length (Lib.goFieldsP p s).length) ((Lib.goFieldsP p s).map AV.str).length ((Lib.goFieldsP p s).map Value.string) := by
    rw [List.length_map]; exact ho
  obtain ⟨m', nx, hv'⟩ := sl_next (k := n) r hbl ho' (clsL_strs _) (fun _ => RVE_strs _)
  exact ⟨m', _, rfl, nx, hv'⟩
end
end Go.V
namespace Go.V
/-! ### Texts: runes to bytes and back -/
def cleanR (n : Int) : Nat := if Utf8.valid n then n.toNat else Utf8.runeError
def bytesOf (ns : List Int) : List UInt8 := ns.flatMap fun n => (Utf8.encode n).data.toList
theorem runesBytes_go (ns : List Int) : ∀ r : ByteArray, (ns.foldl (fun r n => r ++ Utf8.encode n) r).data.toList = r.data.toList ++ bytesOf ns := by
  induction ns with
  | nil => intro r; simp [bytesOf]
  | cons n ns ih => intro r; rw [List.foldl_cons, ih]; simp [bytesOf, ByteArray.data_append]
theorem runesBytes_data (ns : List Int) : (runesBytes ns).data.toList = bytesOf ns := by
  unfold runesBytes; rw [runesBytes_go]; rfl
theorem cleanR_valid (n : Int) : cleanR n ≤ 1114111 ∧ (cleanR n < 55296 ∨ 57343 < cleanR n) := by
  unfold cleanR
  split
  · rename_i h
    simp only [Utf8.valid] at h
    simp at h
    omega
  · simp [Utf8.runeError]
theorem get_of_drop {s : ByteArray} {i k : Nat} {l : List UInt8} {b : UInt8} (h : s.data.toList.drop i = l) (hb : l[k]? = some b) : i + k < s.size ∧ s.get! (i + k) = b := by
  rw [← h, List.getElem?_drop] at hb
  have hlt : i + k < s.data.toList.length := by
    rcases Nat.lt_or_ge (i + k) s.data.toList.length with h | h
    · exact h
    · rw [List.getElem?_eq_none h] at hb; simp at hb
  have hsz : i + k < s.size := by simpa using hlt
  refine ⟨hsz, ?_⟩
  rw [List.getElem?_eq_getElem hlt] at hb
  injection hb with hb
  rw [← hb]
  show s.data[i + k]! = _
  rw [getElem!_pos s.data (i + k) hsz]
  simp
theorem ofNat_toNat {n : Nat} (h : n < 256) : (UInt8.ofNat n).toNat = n := by simp; omega
theorem decode_at {s : ByteArray} {i : Nat} {n : Int} {rest : List UInt8} (h : s.data.toList.drop i = (Utf8.encode n).data.toList ++ rest) : Utf8.decode s i = (cleanR n, (Utf8.encode n).data.toList.length) := by
  obtain ⟨hv1, hv2⟩ := cleanR_valid n
  have hvalid : Utf8.valid ((cleanR n : Nat) : Int) = true := by
    simp only [Utf8.valid]; simp; omega
  unfold Utf8.encode at h ⊢
  simp only at h ⊢
  rw [show (if Utf8.valid n = true then n.toNat else Utf8.runeError) = cleanR n from rfl] at h ⊢
  generalize cleanR n = c at *
  by_cases h1 : c < 0x80
  · rw [if_pos h1] at h ⊢
    obtain ⟨_, g0⟩ := get_of_drop (k := 0) h rfl
    unfold Utf8.decode
    simp only [g0, ofNat_toNat (show c < 256 by omega)]
    rw [if_pos h1]; rfl
  · rw [if_neg h1] at h ⊢
    by_cases h2 : c < 0x800
    · rw [if_pos h2] at h ⊢
      obtain ⟨_, g0⟩ := get_of_drop (k := 0) h rfl
      obtain ⟨s1, g1⟩ := get_of_drop (k := 1) h rfl
      unfold Utf8.decode
      simp only [g0, g1, ofNat_toNat (show 192 + c / 64 < 256 by omega), ofNat_toNat (show 128 + c % 64 < 256 by omega), s1, decide_true, Bool.true_and]
      rw [if_neg (by omega), if_pos (by simp; omega), if_pos (by omega)]
      exact Prod.ext (by simp; omega) rfl
    · rw [if_neg h2] at h ⊢
      by_cases h3 : c < 0x10000
      · rw [if_pos h3] at h ⊢
        obtain ⟨_, g0⟩ := get_of_drop (k := 0) h rfl
        obtain ⟨s1, g1⟩ := get_of_drop (k := 1) h rfl
        obtain ⟨s2, g2⟩ := get_of_drop (k := 2) h rfl
        unfold Utf8.decode
        simp only [g0, g1, g2, ofNat_toNat (show 224 + c / 4096 < 256 by omega), ofNat_toNat (show 128 + c / 64 % 64 < 256 by omega), ofNat_toNat (show 128 + c % 64 < 256 by omega), s1, s2, decide_true, Bool.true_and]
        have e : (224 + c / 4096) % 16 * 4096 + (128 + c / 64 % 64) % 64 * 64 + (128 + c % 64) % 64 = c := by omega
        rw [if_neg (by omega), if_neg (by simp; omega), if_pos (by simp; omega), e, if_pos (by simp only [hvalid, Bool.and_true, decide_eq_true_eq]; omega)]
        rfl
      · rw [if_neg h3] at h ⊢
        obtain ⟨_, g0⟩ := get_of_drop (k := 0) h rfl
        obtain ⟨s1, g1⟩ := get_of_drop (k := 1) h rfl
        obtain ⟨s2, g2⟩ := get_of_drop (k := 2) h rfl
        obtain ⟨s3, g3⟩ := get_of_drop (k := 3) h rfl
        unfold Utf8.decode
        simp only [g0, g1, g2, g3, ofNat_toNat (show 240 + c / 262144 < 256 by omega), ofNat_toNat (show 128 + c / 4096 % 64 < 256 by omega), ofNat_toNat (show 128 + c / 64 % 64 < 256 by omega), ofNat_toNat (show 128 + c % 64 < 256 by omega), s1, s2, s3, decide_true, Bool.true_and]
        have e : (240 + c / 262144) % 8 * 262144 + (128 + c / 4096 % 64) % 64 * 4096 + (128 + c / 64 % 64) % 64 * 64 + (128 + c % 64) % 64 = c := by omega
        rw [if_neg (by omega), if_neg (by simp; omega), if_neg (by simp; omega), if_pos (by simp; omega), e, if_pos (by simp only [hvalid, Bool.and_true, decide_eq_true_eq]; omega)]
        rfl
theorem encode_pos (n : Int) : 0 < (Utf8.encode n).data.toList.length := by
  unfold Utf8.encode
  simp only
  generalize (if Utf8.valid n = true then n.toNat else Utf8.runeError) = c
  by_cases h1 : c < 0x80
  · rw [if_pos h1]; simp
  · rw [if_neg h1]
    by_cases h2 : c < 0x800
    · rw [if_pos h2]; simp
    · rw [if_neg h2]
      by_cases h3 : c < 0x10000
      · rw [if_pos h3]; simp
      · rw [if_neg h3]; simp
theorem runesFrom_at {s : ByteArray} : ∀ (ns : List Int) (bound i : Nat) (acc : Array Value), s.data.toList.drop i = bytesOf ns → (bytesOf ns).length ≤ bound → Conv.runesFrom s bound i acc = acc ++ (ns.map fun n => Value.int .i32 (cleanR n : Nat)).toArray
  | [], bound, i, acc, h, _ => by
    have hi : ¬ i < s.size := by
      have : (s.data.toList.drop i).length = 0 := by rw [h]; rfl
      rw [List.length_drop] at this
      have hs : s.data.toList.length = s.size := by simp
      omega
    cases bound with
    | zero => simp [Conv.runesFrom]
    | succ b => simp [Conv.runesFrom, hi]
  | n :: ns, bound, i, acc, h, hb => by
    have hl : bytesOf (n :: ns) = (Utf8.encode n).data.toList ++ bytesOf ns := by simp [bytesOf]
    have hp := encode_pos n
    rw [hl] at h hb
    rw [List.length_append] at hb
    cases bound with
    | zero => omega
    | succ b =>
      have hi : i < s.size := by
        have : (s.data.toList.drop i).length = (Utf8.encode n).data.toList.length + (bytesOf ns).length := by rw [h, List.length_append]
        rw [List.length_drop] at this
        have hs : s.data.toList.length = s.size := by simp
        omega
      rw [Conv.runesFrom, if_pos hi]
      simp only [decode_at h]
      have hd : s.data.toList.drop (i + (Utf8.encode n).data.toList.length) = bytesOf ns := by
        rw [← List.drop_drop, h, List.drop_left]
      rw [runesFrom_at ns b _ _ hd (by omega)]
      simp
/-- The runes of a text that was made of runes. -/
theorem runesOf_runesBytes (ns : List Int) : runesOf (runesBytes ns) = (ns.map fun n => ((cleanR n : Nat) : Int)).map (AV.int .i32) := by
  unfold runesOf
  have hs : (runesBytes ns).size = (bytesOf ns).length := by rw [← runesBytes_data]; simp
  rw [runesFrom_at ns _ 0 #[] (by rw [List.drop_zero, runesBytes_data]) (by omega)]
  simp [ofConst, Function.comp_def]
end Go.V
