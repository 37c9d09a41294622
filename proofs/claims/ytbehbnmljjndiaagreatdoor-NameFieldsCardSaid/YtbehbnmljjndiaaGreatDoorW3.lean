/-
  Rules for loops, calls and ends of calls.
-/
import Derived.Test.YtbehbnmljjndiaaGreatDoorW2
set_option linter.unusedVariables false
set_option linter.unusedSimpArgs false
namespace Go.V
attribute [go_sem] List.length_cons List.length_nil List.map_cons List.map_nil List.take_succ_cons List.take_zero List.take_nil List.drop_succ_cons List.drop_zero List.drop_nil List.nil_append List.cons_append List.append_nil decide_true decide_false Nat.zero_add Nat.add_zero true_and and_true List.range_zero List.flatMap_nil List.flatMap_cons List.zip_cons_cons List.zip_nil_left List.zip_nil_right List.mem_cons List.not_mem_nil or_false false_or Option.map_some Option.map_none
/-! ### Loops, kept slots, a call's end -/
theorem resultsE_teq {env : Env} {own : Bool} {k : Nat} {a b : TM} (h : TEq a b) : ∀ rs, resultsE env own k a rs = resultsE env own k b rs
  | [] => rfl
  | .tmp t :: rs => by rw [resultsE, resultsE, h t, resultsE_teq h rs]
  | .cell x t :: rs => by rw [resultsE, resultsE, h x, resultsE_teq h rs]
def WEnd (v : AV) (os : List Ob) (Q : AV → List Ob → Prop) (_ : Hold Q) : Prop := Q v os
def WKeep (keep : List Nat) (v : AV) (os : List Ob) (Q : AV → List Ob → Prop) (_ : Hold (os, Q)) : Prop := Q (v.rn false keep.idxOf?) (keep.map fun o => (obAt os o).rn false keep.idxOf?)
def WFin1 (vs : List AV) (k : Nat) (os : List Ob) (Q : AV → List Ob → Prop) (_ : Hold (k, os, Q)) : Prop :=
  WKeep (keepP os 8 (dedup (AV.refsL vs) (List.range k))) (one vs) os Q ()
/-- a call's end -/
def WFin (env : Env) (own : Bool) (res : List ResultVar) (k : Nat) (tm : TM) (os : List Ob) (Q : AV → List Ob → Prop) (_ : Hold (env, own, res, k, tm, os, Q)) : Prop :=
  WF (resultsE env own k tm res) os os.length (fun vs os' _ _ _ => WFin1 vs k os' Q ()) ()
def onEnd (K : TM → List Ob → Prop) (o : Out) (tm : TM) (os : List Ob) : Prop := match o with | .exit _ => False | _ => K tm os
section
variable {env : Env} {f : FuncId} {os : List Ob} {n : Nat} {tm : TM}
theorem WFin_ok {own : Bool} {res : List ResultVar} {k : Nat} {fr : Fr} {Q} (he : TEq fr.tmps tm) (h : WFin env own res k tm fr.objs Q ()) : ∃ v os', finishE env own res k fr = some (v, os') ∧ Q v os' := by
  unfold WFin at h
  rw [← resultsE_teq he] at h
  obtain ⟨r, h1, h2⟩ := h
  unfold finishE
  rw [run_of_runF h1]
  dsimp only
  rw [gather_keep]
  exact ⟨_, _, rfl, h2⟩
theorem call_ok {fi : FnI} {args : List AV} {objs : List Ob} {Q : AV → List Ob → Prop} (hf : env.fn f = some fi)
    (h : WE env f objs.length none fi.code (paramsT 0 args) objs (onEnd fun tm os => WFin env (env.pol.own f) fi.results objs.length tm os Q ()) ()) : ∃ v os', callL env f args objs = some (v, os') ∧ Q v os' := by
  obtain ⟨r, h1, tm, h2, h3⟩ := wE_ok h
  rw [callL_eq hf, h1, Option.bind_some]
  obtain ⟨o, fr⟩ := r
  cases o with
  | exit i => exact h3.elim
  | normal => exact WFin_ok h2 h3
  | ret => exact WFin_ok h2 h3
@[go_sem ↓] theorem onEnd_normal {K : TM → List Ob → Prop} : onEnd K .normal tm os = K tm os := nd rfl
@[go_sem ↓] theorem onEnd_ret {K : TM → List Ob → Prop} : onEnd K .ret tm os = K tm os := nd rfl
@[go_sem ↓] theorem onEnd_exit {K : TM → List Ob → Prop} {i} : onEnd K (.exit i) tm os = False := nd rfl
@[go_sem ↓] theorem WFin_eq {own res k Q u} : WFin env own res k tm os Q u = WF (resultsE env own k tm res) os os.length (fun vs os' _ _ _ => WFin1 vs k os' Q ()) () := nd rfl
@[go_sem] theorem WFin1_eq {vs k Q u} : WFin1 vs k os Q u = WKeep (keepP os 8 (dedup (AV.refsL vs) (List.range k))) (one vs) os Q () := nd rfl
@[go_sem] theorem WKeep_eq {keep v Q u} : WKeep keep v os Q u = WEnd (v.rn false keep.idxOf?) (keep.map fun o => (obAt os o).rn false keep.idxOf?) Q () := nd rfl
@[go_sem] theorem WEnd_eq {v Q u} : WEnd v os Q u = Q v os := nd rfl
@[go_sem ↓] theorem one_one {v} : one [v] = v := nd rfl
@[go_sem ↓] theorem one_nil : one [] = .tup [] := nd rfl
@[go_sem ↓] theorem one_two {a b c} : one (a :: b :: c) = .tup (a :: b :: c) := nd rfl
variable {QL : List AV → List Ob → Nat → List Nat → List Nat → Prop} {Q : AV → List Ob → Nat → List Nat → List Nat → Prop}
theorem giveC_still {own : Bool} {k : Nat} {v : AV} (h : v.still1 = true) : giveC own k v = .ret v := by cases v <;> first | rfl | simp [AV.still1] at h
theorem giveCs_still {own : Bool} {k : Nat} : ∀ {cs : List AV}, cs.all AV.still1 = true → giveCs own k cs = .ret cs
  | [], _ => rfl
  | c :: cs, h => by
    simp only [List.all_cons, Bool.and_eq_true] at h
    rw [giveCs, giveC_still h.1, HM.bind, giveCs_still h.2, HM.bind]
theorem giveE_still {own : Bool} {k : Nat} {v : AV} (h : v.stillE = true) : giveE own k v = .ret v := by
  cases v with
  | agg cs => rw [giveE, giveCs_still h]; rfl
  | _ => first | rfl | simp [AV.stillE, AV.still1] at h
def WGv (b own : Bool) (k : Nat) (v : AV) (os : List Ob) (n : Nat) (Q : AV → List Ob → Nat → List Nat → List Nat → Prop) (_ : Hold (own, k, os, n, Q)) : Prop := if b = true then Q v os n [] [] else WF (giveE own k v) os n Q ()
@[go_sem] theorem give_eq {own k v u} : WF (giveE own k v) os n Q u = WGv v.stillE own k v os n Q () := by
  unfold WGv
  split
  · rename_i h; rw [giveE_still h]; exact WF_ret
  · rfl
@[go_sem] theorem WGv_true {own k v u} : WGv true own k v os n Q u = Q v os n [] [] := nd rfl
def WGc (b own : Bool) (k : Nat) (v : AV) (os : List Ob) (n : Nat) (Q : AV → List Ob → Nat → List Nat → List Nat → Prop) (_ : Hold (own, k, os, n, Q)) : Prop := if b = true then Q v os n [] [] else WF (giveC own k v) os n Q ()
@[go_sem] theorem WGc_true {own k v u} : WGc true own k v os n Q u = Q v os n [] [] := nd rfl
@[go_sem] theorem giveC_eq {own k v u} : WF (giveC own k v) os n Q u = WGc v.still1 own k v os n Q () := by
  unfold WGc
  split
  · rename_i h; rw [giveC_still h]; exact WF_ret
  · rfl
@[go_sem] theorem WGc_arr {own k o off len ext u} : WGc false own k (.arr o off len ext) os n Q u = (if own = true ∨ o < k then Q (.arr o off len ext) os n [] [] else WF (freeze (.arr o off len ext)) os n Q ()) := by
  show WF (giveC own k (.arr o off len ext)) os n Q () = _
  show WF (if (own || decide (o < k)) = true then _ else _) os n Q () = _
  by_cases h : own = true ∨ o < k
  · rw [if_pos h, if_pos (by simpa using h)]; exact WF_ret
  · rw [if_neg h, if_neg (by simpa using h)]
@[go_sem] theorem WGc_nils {own k u} : WGc false own k .nils os n Q u = (if own = true then Q .nils os n [] [] else Q (.sl []) os n [] []) := by
  show WF (HM.ret (if own then AV.nils else .sl [])) os n Q () = _
  cases own <;> exact WF_ret
@[go_sem] theorem WGv_arr {own k o off len ext u} : WGv false own k (.arr o off len ext) os n Q u = WGc false own k (.arr o off len ext) os n Q () := nd rfl
@[go_sem] theorem WGv_nils {own k u} : WGv false own k .nils os n Q u = WGc false own k .nils os n Q () := nd rfl
@[go_sem] theorem WGv_agg {own k cs u} : WGv false own k (.agg cs) os n Q u = WF (giveCs own k cs) os n (fun cs os' n' ft wr => Q (.agg cs) os' n' (ft ++ []) (wr ++ [])) () := by
  show WF ((giveCs own k cs).bind fun cs => HM.ret (AV.agg cs)) os n Q () = _
  rw [WF_bind]
  congr 1
  funext a b c d e
  exact WF_ret
@[go_sem] theorem giveCs_nil {own k u} : WF (giveCs own k []) os n QL u = QL [] os n [] [] := WF_ret
@[go_sem] theorem giveCs_cons {own k v vs u} : WF (giveCs own k (v :: vs)) os n QL u = WF (giveC own k v) os n (fun y os1 n1 f1 w1 => WF (giveCs own k vs) os1 n1 (fun ys os2 n2 f2 w2 => QL (y :: ys) os2 n2 (f1 ++ (f2 ++ [])) (w1 ++ (w2 ++ []))) ()) () := by
  rw [giveCs, WF_bind]
  congr 1
  funext y os1 n1 f1 w1
  rw [WF_bind]
  congr 1
  funext ys os2 n2 f2 w2
  exact WF_ret
@[go_sem ↓] theorem results_nil {own k u} : WF (resultsE env own k tm []) os n QL u = QL [] os n [] [] := WF_ret
@[go_sem ↓] theorem results_tmp {own k t rs u} : WF (resultsE env own k tm (.tmp t :: rs)) os n QL u = WF (giveE own k (getT tm t)) os n (fun v os1 n1 f1 w1 => WF (resultsE env own k tm rs) os1 n1 (fun vs os2 n2 f2 w2 => QL (v :: vs) os2 n2 (f1 ++ (f2 ++ [])) (w1 ++ (w2 ++ []))) ()) () := by
  rw [resultsE, WF_bind]
  congr 1
  funext y os1 n1 f1 w1
  rw [WF_bind]
  congr 1
  funext ys os2 n2 f2 w2
  exact WF_ret
@[go_sem ↓] theorem results_cell {own k x t rs u} : WF (resultsE env own k tm (.cell x t :: rs)) os n QL u = WF (loadE env t (getT tm x)) os n (fun y os0 n0 f0 w0 => WF (giveE own k y) os0 n0 (fun v os1 n1 f1 w1 => WF (resultsE env own k tm rs) os1 n1 (fun vs os2 n2 f2 w2 => QL (v :: vs) os2 n2 (f0 ++ (f1 ++ (f2 ++ []))) (w0 ++ (w1 ++ (w2 ++ [])))) ()) ()) () := by
  rw [resultsE, WF_bind]
  congr 1
  funext y os0 n0 f0 w0
  rw [WF_bind]
  congr 1
  funext y os1 n1 f1 w1
  rw [WF_bind]
  congr 1
  funext ys os2 n2 f2 w2
  exact WF_ret
/-! #### kept slots -/
def WFrm (tm : TM) (os : List Ob) (K : TM → List Ob → Prop) (_ : Hold K) : Prop := K tm os
def WNb (keep : List Nat) (vals : List AV) (l : List Nat) (os : List Ob) (K : TM → List Ob → Prop) (_ : Hold (os, l, K)) : Prop := K (rnT false keep.idxOf? (l.zip vals)) (keep.map fun o => (obAt os o).rn false keep.idxOf?)
def WNa (vals : List AV) (l : List Nat) (k : Nat) (os : List Ob) (K : TM → List Ob → Prop) (_ : Hold (l, k, os, K)) : Prop := WNb (keepP os 8 (dedup (AV.refsL vals) (List.range k))) vals l os K ()
variable {K : TM → List Ob → Prop}
@[go_sem] theorem WFrm_eq {u} : WFrm tm os K u = K tm os := nd rfl
@[go_sem] theorem WNb_eq {keep vals l u} : WNb keep vals l os K u = WFrm (rnT false keep.idxOf? (l.zip vals)) (keep.map fun o => (obAt os o).rn false keep.idxOf?) K () := nd rfl
@[go_sem] theorem WNa_eq {vals l k u} : WNa vals l k os K u = WNb (keepP os 8 (dedup (AV.refsL vals) (List.range k))) vals l os K () := nd rfl
@[go_sem] theorem WN_none {k u} : WN none k tm os K u = K tm os := nd_iff (by simp [WN, normO])
theorem zip_map' {l : List Nat} : (l.map fun t => (t, getT tm t)) = l.zip (l.map (getT tm)) := by induction l with
  | nil => rfl
  | cons a l ih => rw [List.map_cons, List.map_cons, List.zip_cons_cons, ih]
@[go_sem] theorem WN_some {l k u} : WN (some l) k tm os K u = WNa (l.map (getT tm)) l k os K () := nd_iff (by
  simp only [WN, normO, Fr.norm]
  rw [gather_keep, zip_map']
  simp [WNa, WNb])
@[go_sem ↓] theorem map_getT_nil : List.map (getT tm) [] = [] := nd rfl
@[go_sem ↓] theorem map_getT_cons {t l} : List.map (getT tm) (t :: l) = getT tm t :: List.map (getT tm) l := nd rfl
@[go_sem] theorem rnT_nil {x m} : rnT x m [] = [] := nd rfl
@[go_sem] theorem rnT_cons {x m k v r} : rnT x m ((k, v) :: r) = (k, v.rn x m) :: rnT x m r := nd rfl
def news : List Nat → List Nat → List Nat
  | [], _ => []
  | x :: xs, acc => if x ∈ acc then news xs acc else x :: news xs (acc ++ [x])
theorem dedup_news : ∀ (xs acc : List Nat), dedup xs acc = acc ++ news xs acc
  | [], acc => by rw [dedup, news, List.append_nil]
  | x :: xs, acc => by
    rw [dedup, news]
    by_cases h : x ∈ acc
    · rw [if_pos (by simpa using h), if_pos h, dedup_news xs acc]
    · rw [if_neg (by simpa using h), if_neg h, dedup_news xs (acc ++ [x]), List.append_assoc]; rfl
def keepS (os : List Ob) (n : Nat) (acc : List Nat) : List Nat → List Nat
  | [] => acc
  | a :: l => keepP os n (acc ++ a :: l)
@[go_sem] theorem keepP_succ {acc} : keepP os (n + 1) acc = keepS os n acc (news (acc.flatMap fun o => (obAt os o).refs) acc) := nd (by
  rw [keepP, dedup_news]
  cases h : news (acc.flatMap fun o => (obAt os o).refs) acc with
  | nil => simp [keepS]
  | cons a l => rw [if_neg (by simp)]; rfl)
@[go_sem] theorem keepS_nil {acc} : keepS os n acc [] = acc := nd rfl
@[go_sem] theorem keepS_cons {acc a l} : keepS os n acc (a :: l) = keepP os n (acc ++ a :: l) := nd rfl
@[go_sem ↓] theorem news_nil {acc} : news [] acc = [] := nd rfl
@[go_sem] theorem news_cons {x xs acc} : news (x :: xs) acc = if x ∈ acc then news xs acc else x :: news xs (acc ++ [x]) := nd rfl
theorem clsL_rep {m : Nat} {v : AV} (h : v.cls = true) : AV.clsL (List.replicate m v) = true := by
  induction m with
  | zero => rfl
  | succ m ih => rw [List.replicate_succ, clsL_cons, h, ih]; rfl
@[go_sem ↓] theorem clsL_repi {m k i} : AV.clsL (List.replicate m (.int k i)) = true := clsL_rep rfl
@[go_sem ↓] theorem clsL_repb {m i} : AV.clsL (List.replicate m (.bool i)) = true := clsL_rep rfl
@[go_sem ↓] theorem refsL_repi {m k i} : AV.refsL (List.replicate m (.int k i)) = [] := clsL_refs _ clsL_repi
@[go_sem ↓] theorem refsL_repb {m i} : AV.refsL (List.replicate m (.bool i)) = [] := clsL_refs _ clsL_repb
@[go_sem ↓] theorem rnL_repi {m k i x g} : AV.rnL x g (List.replicate m (.int k i)) = List.replicate m (.int k i) := clsL_rn _ clsL_repi
@[go_sem ↓] theorem rnL_repb {m i x g} : AV.rnL x g (List.replicate m (.bool i)) = List.replicate m (.bool i) := clsL_rn _ clsL_repb
theorem fzEs_rep {m : Nat} {v : AV} (h : fzE v = some v) : fzEs (List.replicate m v) = some (List.replicate m v) := by
  induction m with
  | zero => rfl
  | succ m ih => rw [List.replicate_succ, fzEs_cons, h, ih]; rfl
@[go_sem ↓] theorem fzEs_repi {m k i} : fzEs (List.replicate m (.int k i)) = some (List.replicate m (.int k i)) := fzEs_rep rfl
@[go_sem ↓] theorem fzEs_repb {m i} : fzEs (List.replicate m (.bool i)) = some (List.replicate m (.bool i)) := fzEs_rep rfl
@[go_sem ↓] theorem stillE_repi {m k i} : (List.replicate m (AV.int k i)).all AV.stillE = true := nd (by simp [AV.stillE, AV.still1])
@[go_sem ↓] theorem stillE_repb {m i} : (List.replicate m (AV.bool i)).all AV.stillE = true := nd (by simp [AV.stillE, AV.still1])
@[go_sem ↓] theorem fitsL_repi {m k i} : fitsL 1 (List.replicate m (AV.int k i)) = true := nd (by simp [fitsL, AV.cells, AV.storable])
@[go_sem] theorem dedup_nil {acc} : dedup [] acc = acc := nd rfl
@[go_sem] theorem dedup_cons {x xs acc} : dedup (x :: xs) acc = if x ∈ acc then dedup xs acc else dedup xs (acc ++ [x]) := nd (by
  rw [dedup]; by_cases h : x ∈ acc <;> simp [h])
@[go_sem] theorem idxOf_nil {x : Nat} : List.idxOf? x [] = none := nd rfl
@[go_sem] theorem idxOf_cons {x y : Nat} {l : List Nat} : List.idxOf? x (y :: l) = if y = x then some 0 else (List.idxOf? x l).map (· + 1) := nd (by
  rw [List.idxOf?_cons]; simp)
@[go_sem ↓] theorem rn_int {x m k i} : (AV.int k i).rn x m = .int k i := nd rfl
@[go_sem ↓] theorem rn_bool {x m i} : (AV.bool i).rn x m = .bool i := nd rfl
@[go_sem ↓] theorem rn_str {x m i} : (AV.str i).rn x m = .str i := nd rfl
@[go_sem ↓] theorem rn_sl {x m i} : (AV.sl i).rn x m = .sl i := nd rfl
@[go_sem ↓] theorem rn_lsl {m i} : (AV.lsl i).rn false m = .lsl i := nd rfl
@[go_sem ↓] theorem rn_fp {m e i} : (AV.fp e i).rn false m = .fp e i := nd rfl
@[go_sem ↓] theorem rn_nils {x m} : AV.nils.rn x m = .nils := nd rfl
@[go_sem ↓] theorem rn_nilp {x m} : AV.nilp.rn x m = .nilp := nd rfl
@[go_sem ↓] theorem rn_nilm {x m} : AV.nilm.rn x m = .nilm := nd rfl
@[go_sem ↓] theorem rn_nilf {x m} : AV.nilf.rn x m = .nilf := nd rfl
@[go_sem ↓] theorem rn_und {x m} : AV.und.rn x m = .und := nd rfl
@[go_sem ↓] theorem rn_gone {x m} : AV.gone.rn x m = .gone := nd rfl
@[go_sem ↓] theorem rn_any {x m} : AV.any.rn x m = .any := nd rfl
@[go_sem ↓] theorem rn_agg {x m cs} : (AV.agg cs).rn x m = .agg (AV.rnL x m cs) := nd (by rw [AV.rn])
@[go_sem ↓] theorem rn_tup {x m cs} : (AV.tup cs).rn x m = .tup (AV.rnL x m cs) := nd (by rw [AV.rn])
@[go_sem ↓] theorem rn_fn {x m f cs} : (AV.fn f cs).rn x m = .fn f (AV.rnL x m cs) := nd (by rw [AV.rn])
@[go_sem ↓] theorem rn_arr {x m o off len ext} : (AV.arr o off len ext).rn x m = (match m o with | some o' => .arr o' off len ext | none => .any) := nd (by rw [AV.rn]; cases m o <;> rfl)
@[go_sem ↓] theorem rn_ptr {x m o i} : (AV.ptr o i).rn x m = (match m o with | some o' => .ptr o' i | none => .any) := nd (by rw [AV.rn]; cases m o <;> rfl)
@[go_sem ↓] theorem rn_ep {x m o j i ext} : (AV.ep o j i ext).rn x m = (match m o with | some o' => .ep o' j i ext | none => .any) := nd (by rw [AV.rn]; cases m o <;> rfl)
@[go_sem ↓] theorem rn_mp {x m o} : (AV.mp o).rn x m = (match m o with | some o' => .mp o' | none => .any) := nd (by rw [AV.rn]; cases m o <;> rfl)
@[go_sem ↓] theorem rnL_nil' {x m} : AV.rnL x m [] = [] := nd rfl
@[go_sem ↓] theorem rnL_cons' {x m v vs} : AV.rnL x m (v :: vs) = v.rn x m :: AV.rnL x m vs := nd (by rw [AV.rnL])
@[go_sem ↓] theorem rnL_ints {x m k} {ns : List Int} : AV.rnL x m (ns.map (AV.int k)) = ns.map (AV.int k) := nd (clsL_rn _ clsL_ints)
@[go_sem ↓] theorem obrn_var {x m e s l} : (Ob.var e s l).rn x m = .var (e.rn x m) s l := nd rfl
@[go_sem ↓] theorem obrn_row {x m e s l} : (Ob.row e s l).rn x m = .row (AV.rnL x m e) s l := nd rfl
@[go_sem ↓] theorem obrn_map {x m e l} : (Ob.map e l).rn x m = .map (rnV x m e) l := nd rfl
@[go_sem ↓] theorem obrn_dead {x m} : Ob.dead.rn x m = .dead := nd rfl
@[go_sem ↓] theorem obrn_free {x m} : Ob.free.rn x m = .free := nd rfl
@[go_sem ↓] theorem obrefs_var {e s l} : (Ob.var e s l).refs = e.refs := nd rfl
@[go_sem ↓] theorem obrefs_row {e s l} : (Ob.row e s l).refs = AV.refsL e := nd rfl
@[go_sem ↓] theorem obrefs_map {e l} : (Ob.map e l).refs = refsV e := nd rfl
@[go_sem ↓] theorem obrefs_dead : Ob.dead.refs = [] := nd rfl
@[go_sem ↓] theorem obrefs_free : Ob.free.refs = [] := nd rfl
@[go_sem ↓] theorem refs_int {k x} : (AV.int k x).refs = [] := nd rfl
@[go_sem ↓] theorem refs_bool {x} : (AV.bool x).refs = [] := nd rfl
@[go_sem ↓] theorem refs_str {x} : (AV.str x).refs = [] := nd rfl
@[go_sem ↓] theorem refs_sl {x} : (AV.sl x).refs = [] := nd rfl
@[go_sem ↓] theorem refs_lsl {x} : (AV.lsl x).refs = [] := nd rfl
@[go_sem ↓] theorem refs_fp {e i} : (AV.fp e i).refs = [] := nd rfl
@[go_sem ↓] theorem refs_nils : AV.nils.refs = [] := nd rfl
@[go_sem ↓] theorem refs_nilp : AV.nilp.refs = [] := nd rfl
@[go_sem ↓] theorem refs_nilm : AV.nilm.refs = [] := nd rfl
@[go_sem ↓] theorem refs_nilf : AV.nilf.refs = [] := nd rfl
@[go_sem ↓] theorem refs_und : AV.und.refs = [] := nd rfl
@[go_sem ↓] theorem refs_gone : AV.gone.refs = [] := nd rfl
@[go_sem ↓] theorem refs_any : AV.any.refs = [] := nd rfl
@[go_sem ↓] theorem refs_agg {cs} : (AV.agg cs).refs = AV.refsL cs := nd (by rw [AV.refs])
@[go_sem ↓] theorem refs_tup {cs} : (AV.tup cs).refs = AV.refsL cs := nd (by rw [AV.refs])
@[go_sem ↓] theorem refs_fn {f cs} : (AV.fn f cs).refs = AV.refsL cs := nd (by rw [AV.refs])
@[go_sem ↓] theorem refs_arr {o off len ext} : (AV.arr o off len ext).refs = [o] := nd rfl
@[go_sem ↓] theorem refs_ptr {o i} : (AV.ptr o i).refs = [o] := nd rfl
@[go_sem ↓] theorem refs_ep {o j i ext} : (AV.ep o j i ext).refs = [o] := nd rfl
@[go_sem ↓] theorem refs_mp {o} : (AV.mp o).refs = [o] := nd rfl
@[go_sem ↓] theorem refsL_nil' : AV.refsL [] = [] := nd rfl
@[go_sem ↓] theorem refsL_cons' {v vs} : AV.refsL (v :: vs) = v.refs ++ AV.refsL vs := nd (by rw [AV.refsL])
@[go_sem ↓] theorem refsL_ints {k} {ns : List Int} : AV.refsL (ns.map (AV.int k)) = [] := nd (clsL_refs _ clsL_ints)
end
theorem sus {p : Prop} {u} (h : p) : Sus p u := h
/-- **Loops.** -/
theorem loop_ok {env : Env} {f : FuncId} {k : Nat} {lv : Option (List Nat)} {b : Code} {σ : Type} (P : σ → Prop) (T : σ → TM) (O : σ → List Ob) (μ : σ → Nat) {Q : Out → TM → List Ob → Prop}
    (hs : ∀ s, P s → WE env f k none b (T s) (O s) (onNW (fun tm os => WN lv k tm os (fun tm os => Sus (∃ s', tm = T s' ∧ os = O s' ∧ P s' ∧ μ s' < μ s) ()) ()) Q) ())
    {tm : TM} {os : List Ob} (h0 : WN lv k tm os (fun tm os => Sus (∃ s, tm = T s ∧ os = O s ∧ P s) ()) ()) : WLoop env f k lv b tm os Q () := by
  have key : ∀ (m : Nat) (s : σ), μ s = m → P s → ∃ r, ((evL env f k none b ⟨T s, O s⟩).bind (onN fun fr1 => evL env f k lv (.loop b) fr1)) = some r ∧ ∃ tm', TEq r.2.tmps tm' ∧ Q r.1 tm' r.2.objs := by
    intro m
    induction m using Nat.strongRecOn with
    | _ m ih =>
      intro s hm hp
      obtain ⟨r, h1, tm', h2, h3⟩ := wE_ok (show wE _ _ _ _ _ _ _ _ from hs s hp)
      rw [h1, Option.bind_some]
      obtain ⟨o, fr1⟩ := r
      cases o with
      | normal =>
        have h3 : WN lv k tm' fr1.objs (fun tm os => Sus (∃ s', tm = T s' ∧ os = O s' ∧ P s' ∧ μ s' < μ s) ()) () := h3
        obtain ⟨fr2, h6, tm2, h7, s', e1, e2, e3, e4⟩ := WN_teq (b := fr1.tmps) h2.symm h3
        obtain ⟨r, h8, h9⟩ := ih (μ s') (by omega) s' rfl e3
        show ∃ r, evL env f k lv (.loop b) fr1 = some r ∧ _
        rw [evL_loop]
        have h6 : normO k lv fr1 = some fr2 := h6
        rw [h6, Option.bind_some]
        have e5 : fr2 = ⟨fr2.tmps, O s'⟩ := by rw [← e2]
        rw [e5]
        obtain ⟨p, h10, h11⟩ := Option.bind_eq_some_iff.1 h8
        obtain ⟨tm3, h12, h13⟩ := evL_teq (b := fr2.tmps) (e1 ▸ h7.symm) h10
        rw [h12, Option.bind_some]
        obtain ⟨o2, fr3⟩ := p
        cases o2 with
        | normal =>
          have h11 : evL env f k lv (.loop b) fr3 = some r := h11
          show ∃ r, evL env f k lv (.loop b) ⟨tm3, fr3.objs⟩ = some r ∧ _
          obtain ⟨tm4, h14, h15⟩ := evL_teq (b := tm3) h13 (show evL env f k lv (.loop b) ⟨fr3.tmps, fr3.objs⟩ = some r from h11)
          obtain ⟨tm5, h16, h17⟩ := h9
          exact ⟨_, h14, tm5, h15.symm.trans h16, h17⟩
        | exit i =>
          have h11 : some (Out.exit i, fr3) = some r := h11
          injection h11 with h11; subst h11
          obtain ⟨tm5, h16, h17⟩ := h9
          exact ⟨_, rfl, tm5, h13.symm.trans h16, h17⟩
        | ret =>
          have h11 : some (Out.ret, fr3) = some r := h11
          injection h11 with h11; subst h11
          obtain ⟨tm5, h16, h17⟩ := h9
          exact ⟨_, rfl, tm5, h13.symm.trans h16, h17⟩
      | exit i => exact ⟨_, rfl, tm', h2, h3⟩
      | ret => exact ⟨_, rfl, tm', h2, h3⟩
  obtain ⟨fr, h1, s, e1, e2, e3⟩ := h0
  obtain ⟨r, h2, h3⟩ := key _ s rfl e3
  refine ⟨r, ?_, h3⟩
  rw [evL_loop, h1, Option.bind_some, ← h2, ← e1, ← e2]
/-- **A call of a function of closed data.** -/
theorem callX_closed {env : Env} {f : FuncId} {args : List AV} {v : AV} (hx : env.ext f = none) (hm : env.pol.mode f = []) (ha : AV.clsL args = true) (hv : resCls v = true) (h : ∃ v' os', callL env f args [] = some (v', os') ∧ v' = v ∧ os' = []) :
    callX env f args = .ret v := by
  unfold callX
  rw [hx]
  obtain ⟨v', os', h1, rfl, rfl⟩ := h
  exact callE_closed hm ha h1 hv
end Go.V
namespace Go.V
/-! ### Tests that are known -/
@[go_sem high] theorem WC_yes {p : Prop} [Decidable p] {t e u} (h : p) : WC (.bool (decide p)) t e u = t := nd_iff (by simp [WC, h])
@[go_sem high] theorem WC_no {p : Prop} [Decidable p] {t e u} (h : ¬ p) : WC (.bool (decide p)) t e u = e := nd_iff (by simp [WC, h])
@[go_sem high] theorem WG_yes {p : Prop} [Decidable p] {run skp u} (h : p) : WG (.bool (decide p)) true run skp u = run := nd_iff (by simp [WG, h])
@[go_sem high] theorem WG_no {p : Prop} [Decidable p] {run skp u} (h : ¬ p) : WG (.bool (decide p)) true run skp u = skp := nd_iff (by simp [WG, h])
@[go_sem high] theorem WG_yes' {p : Prop} [Decidable p] {run skp u} (h : p) : WG (.bool (decide p)) false run skp u = skp := nd_iff (by simp [WG, h])
@[go_sem high] theorem WG_no' {p : Prop} [Decidable p] {run skp u} (h : ¬ p) : WG (.bool (decide p)) false run skp u = run := nd_iff (by simp [WG, h])
@[go_sem] theorem pick_yes {p : Prop} [Decidable p] {a b : AV} (h : p) : pickE (.bool (decide p)) a b = .ret a := nd (by simp [pickE, h])
@[go_sem] theorem pick_no {p : Prop} [Decidable p] {a b : AV} (h : ¬ p) : pickE (.bool (decide p)) a b = .ret b := nd (by simp [pickE, h])
attribute [go_sem] if_pos if_neg Nat.sub_zero not_true_eq_false not_false_eq_true true_implies false_implies Classical.not_not List.all_cons List.all_nil Bool.and_self Bool.false_and Bool.and_false Bool.true_and Bool.and_true Bool.not_true Bool.not_false List.replicate_succ List.replicate_zero List.set_cons_zero List.set_cons_succ Option.bind_some Option.bind_none Nat.le_refl Int.cast_ofNat_Int Int.natCast_zero Int.natCast_one List.take_append List.take_length List.drop_length List.append_assoc
@[go_sem ↓] theorem setMany_cons {es : List AV} {i is v vs} : setMany es (i :: is) (v :: vs) = setMany (es.set i v) is vs := nd rfl
@[go_sem ↓] theorem setMany_nil {es : List AV} {vs} : setMany es [] vs = es := nd (by cases vs <;> rfl)
theorem cast_add (a b : Nat) : (a : Int) + (b : Int) = ((a + b : Nat) : Int) := nd rfl
theorem cast_add_lit (a n : Nat) : (a : Int) + (OfNat.ofNat n : Int) = ((a + OfNat.ofNat n : Nat) : Int) := nd rfl
theorem cast_lit_add (a n : Nat) : (OfNat.ofNat n : Int) + (a : Int) = ((OfNat.ofNat n + a : Nat) : Int) := nd rfl
theorem cast_sub (a b : Nat) (h : b ≤ a) : (a : Int) - (b : Int) = ((a - b : Nat) : Int) := by omega
theorem cast_sub_lit (a n : Nat) (h : (OfNat.ofNat n : Nat) ≤ a) : (a : Int) - (OfNat.ofNat n : Int) = ((a - OfNat.ofNat n : Nat) : Int) := (Int.ofNat_sub h).symm
theorem cast_mul (a b : Nat) : (a : Int) * (b : Int) = ((a * b : Nat) : Int) := nd rfl
attribute [go_sem] cast_add cast_add_lit cast_lit_add cast_sub cast_sub_lit cast_mul
@[go_sem] theorem take_len_map {α β : Type} {l : List α} {f : α → β} : (l.map f).take l.length = l.map f := nd (by rw [← List.length_map (f := f), List.take_length])
@[go_sem] theorem take_len_rep {α : Type} {m : Nat} {a : α} : (List.replicate m a).take m = List.replicate m a := nd (by simp)
@[go_sem] theorem rep_getElem? {m i : Nat} {a : AV} (h : i < m) : (List.replicate m a)[i]? = some a := nd (by rw [List.getElem?_replicate, if_pos h])
@[go_sem] theorem map_getElem? {α : Type} {l : List α} {f : α → AV} {i : Nat} (h : i < l.length) : (l.map f)[i]? = some (f l[i]) := nd (by rw [List.getElem?_map, List.getElem?_eq_getElem h]; rfl)
@[go_sem] theorem set_rep {m i : Nat} {a : AV} : (List.replicate m a).set i a = List.replicate m a := nd (by simp)
@[go_sem] theorem and_yes {a b : Prop} (h : a) : (a ∧ b) = b := nd_iff ⟨fun h => h.2, fun k => ⟨h, k⟩⟩
theorem chk_ok {l feet u} (h : indep (unord l) feet = true) : Chk l feet u := h
/-! ### Calls: arguments are put away, then the contract -/
/-- a call whose arguments are put away already -/
def callE0 (_ : Env) (run : FuncId → List AV → List Ob → Option (AV × List Ob)) (f : FuncId) (args : List AV) : HM AV :=
  (gather 8 (dedup (AV.refsL args) [])).bind fun own =>
  (getObs own).bind fun obs =>
  if obs.all fun b => b.notLent && b.isOb then
    match run f (AV.rnL false own.idxOf? args) (obs.map (Ob.rn false own.idxOf?)) with
    | none => .fail
    | some (v, objs2) =>
      if (objs2.take own.length ++ objs2.drop own.length).all Ob.notLent then
        (newObs ((objs2.drop own.length).map fun _ => Ob.dead)).bind fun news =>
        (putObs ((own ++ news).zip ((objs2.take own.length ++ objs2.drop own.length).map (Ob.rn true (outOf own own.length news))))).bind fun _ =>
        .ret (v.rn true (outOf own own.length news))
      else .fail
  else .fail
noncomputable def callC (env : Env) (f : FuncId) (args : List AV) : HM AV := callE0 env (callL env) f args
def noLent : List Mode → Bool
  | [] => true
  | .lent :: _ => false
  | _ :: ms => noLent ms
theorem lendArgs_no : ∀ {ms : List Mode}, noLent ms = true → ∀ as, lendArgs ms as = .ret as
  | [], _, as => lendArgs_nil as
  | .asis :: ms, h, [] => rfl
  | .frozen :: ms, h, [] => rfl
  | .asis :: ms, h, a :: as => by
    rw [lendArgs]
    show (HM.ret a).bind _ = _
    rw [HM.bind]
    show (lendArgs ms as).bind _ = _
    rw [lendArgs_no (ms := ms) h as]; rfl
  | .frozen :: ms, h, a :: as => by
    rw [lendArgs]
    show (HM.ret a).bind _ = _
    rw [HM.bind]
    show (lendArgs ms as).bind _ = _
    rw [lendArgs_no (ms := ms) h as]; rfl
theorem ownOf_no : ∀ {ms : List Mode}, noLent ms = true → ∀ as, ownOf ms as = as
  | [], _, as => ownOf_nil as
  | .asis :: ms, h, [] => rfl
  | .frozen :: ms, h, [] => rfl
  | .asis :: ms, h, a :: as => by rw [ownOf, if_neg (by intro h; cases h)]; show a :: ownOf ms as = _; rw [ownOf_no (ms := ms) h as]
  | .frozen :: ms, h, a :: as => by rw [ownOf, if_neg (by intro h; cases h)]; show a :: ownOf ms as = _; rw [ownOf_no (ms := ms) h as]
theorem lentOf_no : ∀ {ms : List Mode}, noLent ms = true → ∀ as, lentOf ms as = []
  | [], _, as => lentOf_nil as
  | .asis :: ms, h, [] => rfl
  | .frozen :: ms, h, [] => rfl
  | .asis :: ms, h, a :: as => by rw [lentOf, if_neg (by intro h; cases h)]; exact lentOf_no (ms := ms) h as
  | .frozen :: ms, h, a :: as => by rw [lentOf, if_neg (by intro h; cases h)]; exact lentOf_no (ms := ms) h as
section
variable {env : Env} {f : FuncId} {os : List Ob} {n : Nat} {Q : AV → List Ob → Nat → List Nat → List Nat → Prop} {QL : List AV → List Ob → Nat → List Nat → List Nat → Prop}
theorem callE_no {run : FuncId → List AV → List Ob → Option (AV × List Ob)} {ms : List Mode} (hm : env.pol.mode f = ms) (hl : noLent ms = true) (args : List AV) :
    callE env run f args = (freezeArgs ms args).bind fun a => callE0 env run f a := by
  unfold callE callE0
  rw [hm]
  congr 1
  funext a0
  rw [lendArgs_no hl]
  show (gather 8 (dedup (AV.refsL (ownOf ms a0)) [])).bind _ = _
  rw [ownOf_no hl]
  congr 1
  funext own
  simp only [lentOf_no hl]
  show (HM.ret []).bind _ = _
  rw [HM.bind]
  congr 1
  funext obs
  show (HM.ret []).bind _ = _
  rw [HM.bind, List.append_nil]
  simp only [List.append_nil, List.map_nil, List.flatMap_nil]
  congr 1
  · rw [show disj own [] = true by simp [disj]]; simp
theorem callX_wf {ms : List Mode} (hx : env.ext f = none) (hm : env.pol.mode f = ms) (hl : noLent ms = true) {args u} :
    WF (callX env f args) os n Q u = WF (freezeArgs ms args) os n (fun a os1 n1 f1 w1 => WF (callC env f a) os1 n1 (fun v os2 n2 f2 w2 => Q v os2 n2 (f1 ++ f2) (w1 ++ w2)) ()) () := by
  unfold callX
  rw [hx]
  show WF (callE env (callL env) f args) os n Q u = _
  rw [callE_no hm hl, WF_bind]
  rfl
theorem callX_ext {x} (hx : env.ext f = some x) {args} : callX env f args = x args := by unfold callX; rw [hx]
theorem callE0_closed {run : FuncId → List AV → List Ob → Option (AV × List Ob)} {args : List AV} {v : AV} (ha : AV.clsL args = true) (h : run f args [] = some (v, [])) (hv : resCls v = true) : callE0 env run f args = .ret v := by
  unfold callE0
  rw [clsL_refs args ha]
  show HM.bind (.ret []) _ = _
  rw [HM.bind]
  show HM.bind (.ret []) _ = _
  rw [HM.bind, clsL_rn _ ha]
  show (match run f args [] with | none => HM.fail | some (v, objs2) => _) = _
  rw [h]
  show HM.ret (v.rn true _) = _
  rw [resCls_rn hv]
theorem callC_closed {args : List AV} {v : AV} (ha : AV.clsL args = true) (hv : resCls v = true) (h : ∃ v' os', callL env f args [] = some (v', os') ∧ v' = v ∧ os' = []) : callC env f args = .ret v := by
  obtain ⟨v', os', h1, rfl, rfl⟩ := h
  exact callE0_closed ha h1 hv
@[go_sem] theorem fa_nil {args u} : WF (freezeArgs [] args) os n QL u = QL args os n [] [] := by rw [freezeArgs_nil]; exact WF_ret
@[go_sem] theorem fa_none {ms u} : WF (freezeArgs ms []) os n QL u = QL [] os n [] [] := by cases ms <;> exact WF_ret
@[go_sem] theorem fa_asis {ms v vs u} : WF (freezeArgs (.asis :: ms) (v :: vs)) os n QL u = WF (freezeArgs ms vs) os n (fun ys os2 n2 f2 w2 => QL (v :: ys) os2 n2 (f2 ++ []) (w2 ++ [])) () := by
  show WF ((HM.ret v).bind fun v' => (freezeArgs ms vs).bind fun r' => .ret (v' :: r')) os n QL u = _
  rw [HM.bind, WF_bind]
  congr 1
  funext ys os2 n2 f2 w2
  exact WF_ret
@[go_sem] theorem fa_frozen {ms v vs u} : WF (freezeArgs (.frozen :: ms) (v :: vs)) os n QL u = WPut1 false v.stillE v os n (fun y os1 n1 f1 w1 => WF (freezeArgs ms vs) os1 n1 (fun ys os2 n2 f2 w2 => QL (y :: ys) os2 n2 (f1 ++ (f2 ++ [])) (w1 ++ (w2 ++ []))) ()) () := by
  show WF ((freezeE v).bind fun v' => (freezeArgs ms vs).bind fun r' => .ret (v' :: r')) os n QL u = _
  rw [WF_bind, show freezeE v = putE false v from rfl, put1_eq]
  congr 1
  funext y os1 n1 f1 w1
  rw [WF_bind]
  congr 1
  funext ys os2 n2 f2 w2
  exact WF_ret
end
end Go.V
namespace Go.V
/-! ### Calls that hand over objects -/
def g1F : List Nat → List Nat
  | [] => []
  | o :: r => [o] ++ (g1F r ++ [])
def feetG (os : List Ob) : Nat → List Nat → List Nat
  | 0, _ => []
  | n + 1, acc => g1F acc ++ (if (dedup (acc.flatMap fun o => (obAt os o).refs) acc).length = acc.length then [] else feetG os n (dedup (acc.flatMap fun o => (obAt os o).refs) acc))
section
variable {env : Env} {f : FuncId} {os : List Ob} {n : Nat}
theorem g1_runF : ∀ (l : List Nat) (n : Nat), (gather1 l).runF os n = some (l.flatMap fun o => (obAt os o).refs, os, n, g1F l, [])
  | [], _ => rfl
  | o :: r, n => by
    show ((getOb o).bind fun b => (gather1 r).bind fun l => HM.ret (b.refs ++ l)).runF os n = _
    have h1 : (getOb o).runF os n = some (obAt os o, os, n, [o], []) := rfl
    have h2 : ((gather1 r).bind fun l => HM.ret ((obAt os o).refs ++ l)).runF os n = some ((obAt os o).refs ++ (r.flatMap fun o => (obAt os o).refs), os, n, g1F r ++ [], []) := by
      rw [runF_bind_some (g1_runF r n) (r := ((obAt os o).refs ++ (r.flatMap fun o => (obAt os o).refs), os, n, [], [])) rfl]; rfl
    rw [runF_bind_some h1 h2]; rfl
theorem gather_runF : ∀ (m : Nat) (acc : List Nat) (n : Nat), (gather m acc).runF os n = some (keepP os m acc, os, n, feetG os m acc, [])
  | 0, _, _ => rfl
  | m + 1, acc, n => by
    show ((gather1 acc).bind fun l => match dedup l acc with | acc' => if acc'.length = acc.length then HM.ret acc else gather m acc').runF os n = _
    rw [keepP, feetG]
    by_cases h : (dedup (acc.flatMap fun o => (obAt os o).refs) acc).length = acc.length
    · rw [runF_bind_some (g1_runF acc n) (r := (acc, os, n, [], [])) (by dsimp only; rw [if_pos h]; rfl), if_pos h, if_pos h]; rfl
    · rw [runF_bind_some (g1_runF acc n) (r := (_, os, n, feetG os m _, [])) (by dsimp only; rw [if_neg h]; exact gather_runF m _ n), if_neg h, if_neg h]; rfl
theorem getObs_runF : ∀ (l : List Nat) (n : Nat), (getObs l).runF os n = some (l.map fun o => obAt os o, os, n, g1F l, [])
  | [], _ => rfl
  | o :: r, n => by
    show ((getOb o).bind fun b => (getObs r).bind fun l => HM.ret (b :: l)).runF os n = _
    have h1 : (getOb o).runF os n = some (obAt os o, os, n, [o], []) := rfl
    have h2 : ((getObs r).bind fun l => HM.ret (obAt os o :: l)).runF os n = some (obAt os o :: (r.map fun o => obAt os o), os, n, g1F r ++ [], []) := by
      rw [runF_bind_some (getObs_runF r n) (r := (obAt os o :: (r.map fun o => obAt os o), os, n, [], [])) rfl]; rfl
    rw [runF_bind_some h1 h2]; rfl
/-- what a call has come to -/
def WRun (r : Option (AV × List Ob)) (own : List Nat) (os : List Ob) (n : Nat) (Q : AV → List Ob → Nat → List Nat → List Nat → Prop) (feet : List Nat) (_ : Hold (own, os, n, Q, feet)) : Prop :=
  match r with
  | none => False
  | some (v, objs2) => (objs2.take own.length ++ objs2.drop own.length).all Ob.notLent = true ∧ WF (newObs ((objs2.drop own.length).map fun _ => Ob.dead)) os n (fun news os1 n1 f1 w1 =>
      WF (putObs ((own ++ news).zip ((objs2.take own.length ++ objs2.drop own.length).map (Ob.rn true (outOf own own.length news))))) os1 n1 (fun _ os2 n2 f2 w2 => Q (v.rn true (outOf own own.length news)) os2 n2 (feet ++ (f1 ++ (f2 ++ []))) (w1 ++ (w2 ++ []))) ()) ()
def WCk (own : List Nat) (args : List AV) (env : Env) (f : FuncId) (os : List Ob) (n : Nat) (Q : AV → List Ob → Nat → List Nat → List Nat → Prop) (feet : List Nat) (_ : Hold (env, f, os, n, Q, feet)) : Prop :=
  ((own.map fun o => obAt os o).all fun b => b.notLent && b.isOb) = true ∧ WRun (callL env f (AV.rnL false own.idxOf? args) (own.map fun o => (obAt os o).rn false own.idxOf?)) own os n Q (feet ++ g1F own) ()
variable {Q : AV → List Ob → Nat → List Nat → List Nat → Prop}
theorem callC_wf {args u} : WF (callC env f args) os n Q u = WCk (keepP os 8 (dedup (AV.refsL args) [])) args env f os n Q (feetG os 8 (dedup (AV.refsL args) [])) () := by
  unfold callC callE0
  rw [WF_bind]
  have hg := gather_runF (os := os) 8 (dedup (AV.refsL args) []) n
  have wf_of : ∀ {α : Type} {m : HM α} {a : α} {fs : List Nat} {Q : α → List Ob → Nat → List Nat → List Nat → Prop}, m.runF os n = some (a, os, n, fs, []) → WF m os n Q () = Q a os n fs [] := by
    intro α m a fs Q h
    exact nd_iff (by simp [WF, h])
  rw [wf_of hg, WF_bind, wf_of (getObs_runF _ n)]
  unfold WCk
  rw [WF_if]
  congr 1
  unfold WRun
  rw [List.map_map]
  have e : (Ob.rn false fun a => List.idxOf? a (keepP os 8 (dedup (AV.refsL args) []))) ∘ (fun o => obAt os o) = fun o => (obAt os o).rn false fun a => List.idxOf? a (keepP os 8 (dedup (AV.refsL args) [])) := rfl
  rw [e]
  cases callL env f (AV.rnL false (fun a => List.idxOf? a (keepP os 8 (dedup (AV.refsL args) []))) args) ((keepP os 8 (dedup (AV.refsL args) [])).map fun o => (obAt os o).rn false fun a => List.idxOf? a (keepP os 8 (dedup (AV.refsL args) []))) with
  | none => exact WF_fail
  | some r =>
    obtain ⟨v, objs2⟩ := r
    dsimp only
    rw [WF_if]
    congr 1
    rw [WF_bind]
    congr 1
    funext news os1 n1 f1 w1
    rw [WF_bind]
    congr 1
    funext _ os2 n2 f2 w2
    rw [WF_ret]
    simp only [List.append_assoc, List.nil_append]
@[go_sem] theorem WCk_eq {own args feet u} : WCk own args env f os n Q feet u = (((own.map fun o => obAt os o).all fun b => b.notLent && b.isOb) = true ∧ WRun (callL env f (AV.rnL false own.idxOf? args) (own.map fun o => (obAt os o).rn false own.idxOf?)) own os n Q (feet ++ g1F own) ()) := nd rfl
@[go_sem] theorem WRun_some {v objs2 own feet u} : WRun (some (v, objs2)) own os n Q feet u = ((objs2.take own.length ++ objs2.drop own.length).all Ob.notLent = true ∧ WF (newObs ((objs2.drop own.length).map fun _ => Ob.dead)) os n (fun news os1 n1 f1 w1 =>
      WF (putObs ((own ++ news).zip ((objs2.take own.length ++ objs2.drop own.length).map (Ob.rn true (outOf own own.length news))))) os1 n1 (fun _ os2 n2 f2 w2 => Q (v.rn true (outOf own own.length news)) os2 n2 (feet ++ (f1 ++ (f2 ++ []))) (w1 ++ (w2 ++ []))) ()) ()) := nd rfl
@[go_sem] theorem newObs_nil {Q : List Nat → List Ob → Nat → List Nat → List Nat → Prop} {u} : WF (newObs []) os n Q u = Q [] os n [] [] := WF_ret
@[go_sem] theorem newObs_cons {b r} {Q : List Nat → List Ob → Nat → List Nat → List Nat → Prop} {u} : WF (newObs (b :: r)) os n Q u = WNew n b os (fun i os' => WF (newObs r) os' (n + 1) (fun l os2 n2 f2 w2 => Q (i :: l) os2 n2 ([n] ++ (f2 ++ [])) ([n] ++ (w2 ++ []))) ()) () := by
  show WF ((newOb b).bind fun o => (newObs r).bind fun l => HM.ret (o :: l)) os n Q u = _
  rw [WF_bind]
  show WF (HM.new b HM.ret) os n _ () = _
  rw [WF_new, WF_ret]
  unfold WNew
  rw [WF_bind]
  congr 1
  funext l os2 n2 f2 w2
  exact WF_ret
@[go_sem] theorem putObs_nil {Q : Unit → List Ob → Nat → List Nat → List Nat → Prop} {u} : WF (putObs []) os n Q u = Q () os n [] [] := WF_ret
@[go_sem] theorem putObs_cons {o b r} {Q : Unit → List Ob → Nat → List Nat → List Nat → Prop} {u} : WF (putObs ((o, b) :: r)) os n Q u = WSet b os o (fun os' => WF (putObs r) os' n (fun x os2 n2 f2 w2 => Q x os2 n2 ([o] ++ f2) ([o] ++ w2)) ()) () := by
  show WF ((putOb o b).bind fun _ => putObs r) os n Q u = _
  rw [WF_bind]
  show WF (HM.set o b (HM.ret ())) os n _ () = _
  rw [WF_set, WF_ret]
  rfl
@[go_sem ↓] theorem outOf_eq {own : List Nat} {k news i} : outOf own k news i = if i < own.length then own[i]? else if i < k then none else news[i - k]? := nd rfl
@[go_sem ↓] theorem notLent_var {e s} : (Ob.var e s .mine).notLent = true := nd rfl
@[go_sem ↓] theorem notLent_row {e s} : (Ob.row e s .mine).notLent = true := nd rfl
@[go_sem ↓] theorem notLent_map {e} : (Ob.map e .mine).notLent = true := nd rfl
@[go_sem ↓] theorem notLent_rowf {e s} : (Ob.row e s .frozen).notLent = true := nd rfl
@[go_sem ↓] theorem notLent_varf {e s} : (Ob.var e s .frozen).notLent = true := nd rfl
@[go_sem ↓] theorem notLent_dead : Ob.dead.notLent = true := nd rfl
@[go_sem ↓] theorem isOb_var {e s l} : (Ob.var e s l).isOb = true := nd rfl
@[go_sem ↓] theorem isOb_row {e s l} : (Ob.row e s l).isOb = true := nd rfl
@[go_sem ↓] theorem isOb_map {e l} : (Ob.map e l).isOb = true := nd rfl
@[go_sem ↓] theorem isOb_dead : Ob.dead.isOb = true := nd rfl
/-- One round of a loop. -/
theorem loop_step {k : Nat} {lv : Option (List Nat)} {b : Code} {tm : TM} {Q : Out → TM → List Ob → Prop} (h : WN lv k tm os (fun tm os => WE env f k none b tm os (onNW (fun tm os => WLoop env f k lv b tm os Q ()) Q) ()) ()) : WLoop env f k lv b tm os Q () := by
  obtain ⟨fr, h1, h2⟩ := h
  obtain ⟨r, h3, tm', h4, h5⟩ := wE_ok h2
  unfold WLoop
  rw [evL_loop, h1, Option.bind_some]
  have h3 : evL env f k none b fr = some r := h3
  rw [h3, Option.bind_some]
  obtain ⟨o, fr1⟩ := r
  cases o with
  | normal =>
    obtain ⟨r2, h6, tm2, h7, h8⟩ := (show WLoop env f k lv b tm' fr1.objs Q () from h5)
    obtain ⟨tm3, h9, h10⟩ := evL_teq (b := fr1.tmps) h4.symm h6
    exact ⟨_, h9, tm2, h10.symm.trans h7, h8⟩
  | exit i => exact ⟨_, rfl, tm', h4, h5⟩
  | ret => exact ⟨_, rfl, tm', h4, h5⟩
/-! ### Ranges over slices.Backward -/
def wRounds (env : Env) (f : FuncId) (k : Nat) (te : TypeId) (o : Nat) (ps : List Tmp) (assign body : Code) (tm : TM) (Q : Out → TM → List Ob → Prop) : Nat → List Ob → Prop
  | 0, os => Q .normal tm os
  | i + 1, os => match obAt os o, ps with
    | .var (.sl es) _ _, [p, q] => match es[i]? with
      | some x => match elemAt env te x with
        | some v => wE env f k none assign ((q, v) :: (p, .int .i64 i) :: tm) os fun o1 tm1 os1 => o1 = .normal ∧ wE env f k none body tm1 os1 fun o2 _ os2 => match o2 with
          | .normal => wRounds env f k te o ps assign body tm Q i os2
          | out => Q out tm os2
        | none => False
      | none => False
    | _, _ => False
theorem roundsL_ok {k : Nat} {te : TypeId} {o : Nat} {ps : List Tmp} {assign body : Code} {tm : TM} {Q : Out → TM → List Ob → Prop} : ∀ (i : Nat) (os : List Ob), wRounds env f k te o ps assign body tm Q i os →
    ∃ N out os', roundsE env (fun c fr' => ev env f k none N c fr') te o ps assign body tm i os = some (out, os') ∧ Q out tm os'
  | 0, os, h => ⟨0, _, _, rfl, h⟩
  | i + 1, os, h => by
    unfold wRounds at h
    have hsh : ∃ es s lk p q, obAt os o = .var (.sl es) s lk ∧ ps = [p, q] := by
      cases hob : obAt os o <;> rw [hob] at h <;> try exact h.elim
      rename_i e s lk
      cases e <;> try exact h.elim
      rename_i es
      match ps, h with
      | [p, q], _ => exact ⟨es, s, lk, p, q, rfl, rfl⟩
      | [], h => exact h.elim
      | [_], h => exact h.elim
      | _ :: _ :: _ :: _, h => exact h.elim
    obtain ⟨es, s, lk, p, q, hob, rfl⟩ := hsh
    rw [hob] at h
    dsimp only at h
    cases hx : es[i]? with
    | none => rw [hx] at h; exact h.elim
    | some x =>
    rw [hx] at h
    dsimp only at h
    cases hv : elemAt env te x with
    | none => rw [hv] at h; exact h.elim
    | some v =>
    rw [hv] at h
    dsimp only at h
    obtain ⟨r1, h1, tm1, h2, h3, h4⟩ := wE_ok h
    obtain ⟨r2, h5, tm2, h6, h7⟩ := wE_ok h4
    obtain ⟨o1, fr1⟩ := r1
    have h3 : o1 = .normal := h3
    subst h3
    obtain ⟨tm3, h8, h9⟩ := evL_teq (b := fr1.tmps) h2.symm h5
    have hset : TEq ((q, v) :: (p, .int .i64 i) :: tm) (setT (setT tm p (.int .i64 i)) q v) := by
      intro t
      rw [getT_setT, getT_setT, getT_cons0, getT_cons0]
      by_cases e1 : t = q
      · rw [if_pos e1.symm, if_pos e1]
      · rw [if_neg fun e => e1 e.symm, if_neg e1]
        by_cases e2 : t = p
        · rw [if_pos e2.symm, if_pos e2]
        · rw [if_neg fun e => e2 e.symm, if_neg e2]
    obtain ⟨tm4, h10, h11⟩ := evL_teq hset h1
    have h10 : evL env f k none assign ⟨setT (setT tm p (.int .i64 i)) q v, os⟩ = some (.normal, ⟨tm4, fr1.objs⟩) := h10
    obtain ⟨tm5, h12, h13⟩ := evL_teq (b := tm4) h11 h8
    obtain ⟨n1, h14⟩ := (lim_iff (ev_mono _ _ _ _ _)).1 h10
    obtain ⟨n2, h15⟩ := (lim_iff (ev_mono _ _ _ _ _)).1 h12
    obtain ⟨o2, fr2⟩ := r2
    have up : ∀ {c fr r m M}, ev env f k none m c fr = some r → m ≤ M → ev env f k none M c fr = some r := fun h hm => (ev_mono (env := env) f k none _ _).le h hm
    have step : ∀ M, n1 ≤ M → n2 ≤ M → roundsE env (fun c fr' => ev env f k none M c fr') te o [p, q] assign body tm (i + 1) os =
        (match o2 with | .normal => roundsE env (fun c fr' => ev env f k none M c fr') te o [p, q] assign body tm i fr2.objs | out => some (out, fr2.objs)) := by
      intro M hM1 hM2
      rw [roundsE]
      rw [hob]
      dsimp only
      rw [hx]
      dsimp only
      rw [hv]
      dsimp only
      rw [up h14 hM1]
      dsimp only
      rw [up h15 hM2]
      cases o2 <;> rfl
    cases o2 with
    | normal =>
      obtain ⟨N, out, os', h16, h17⟩ := roundsL_ok i fr2.objs h7
      refine ⟨max N (max n1 n2), out, os', ?_, h17⟩
      rw [step (max N (max n1 n2)) (by omega) (by omega)]
      exact roundsE_le (fun c fr q hq => up hq (Nat.le_max_left _ _)) i fr2.objs _ h16
    | exit j => exact ⟨max n1 n2, _, _, step (max n1 n2) (by omega) (by omega), h7⟩
    | ret => exact ⟨max n1 n2, _, _, step (max n1 n2) (by omega) (by omega), h7⟩
/-- rounds -/
def WRd (env : Env) (f : FuncId) (k : Nat) (te : TypeId) (o : Nat) (ps : List Tmp) (assign body : Code) (tm : TM) (Q : Out → TM → List Ob → Prop) (i : Nat) (os : List Ob) (_ : Hold (env, f, k, te, o, ps, assign, body, tm, Q, os)) : Prop := wRounds env f k te o ps assign body tm Q i os
theorem range_wok {k k' : Nat} {g : Operand} {p q : Tmp} {a b : Code} {tm : TM} {os : List Ob} {Q : Out → TM → List Ob → Prop} {te o len : Nat} (hk : os.length = k') (hb : backOf env os (evalT env tm g) = some (te, o, len)) (h : WRd env f k' te o [p, q] a b tm Q len os ()) : WRange env f k g (List.toArray [p, q]) a b tm os Q () := by
  obtain ⟨N, out, os', h1, h2⟩ := roundsL_ok len os h
  refine ⟨(out, ⟨tm, os'⟩), ?_, tm, .refl _, h2⟩
  refine (lim_iff (ev_mono _ _ _ _ _)).2 ⟨N + 1, ?_⟩
  simp only [ev]
  rw [hb]
  dsimp only
  rw [hk]
  rw [h1]
def WSl (e : AV) (K : List AV → Prop) (_ : Hold K) : Prop := match e with | .sl es => K es | _ => False
@[go_sem] theorem WSl_eq {es K u} : WSl (.sl es) K u = K es := nd rfl
def onRd (K : List Ob → Prop) (Q : Out → TM → List Ob → Prop) (tm : TM) (o : Out) (_ : TM) (os : List Ob) : Prop := match o with | .normal => K os | out => Q out tm os
@[go_sem ↓] theorem onRd_normal {K : List Ob → Prop} {Q tm tm' os} : onRd K Q tm .normal tm' os = K os := nd rfl
@[go_sem ↓] theorem onRd_ret {K : List Ob → Prop} {Q tm tm' os} : onRd K Q tm .ret tm' os = Q .ret tm os := nd rfl
@[go_sem ↓] theorem onRd_exit {K : List Ob → Prop} {Q tm tm' os i} : onRd K Q tm (.exit i) tm' os = Q (.exit i) tm os := nd rfl
def onNO (K : TM → List Ob → Prop) (o : Out) (tm : TM) (os : List Ob) : Prop := match o with | .normal => K tm os | _ => False
@[go_sem ↓] theorem onNO_normal {K : TM → List Ob → Prop} {tm os} : onNO K .normal tm os = K tm os := nd rfl
@[go_sem ↓] theorem onNO_ret {K : TM → List Ob → Prop} {tm os} : onNO K .ret tm os = False := nd rfl
@[go_sem ↓] theorem onNO_exit {K : TM → List Ob → Prop} {tm os i} : onNO K (.exit i) tm os = False := nd rfl
@[go_sem] theorem elemAt_eq {te x} : elemAt env te x = (szT env te).bind fun sz => if x.cells.length = sz then partAV env te x 0 else none := nd (by
  unfold elemAt szT; cases env.ty te <;> rfl)
@[go_sem ↓] theorem WRd_zero {k te o ps a b tm Q u} : WRd env f k te o ps a b tm Q 0 os u = Q .normal tm os := nd rfl
@[go_sem ↓] theorem WRd_succ {k te o p q a b tm Q i u} : WRd env f k te o [p, q] a b tm Q (i + 1) os u = WVar (obAt os o) (fun e _ => WSl e (fun es => WOpt es[i]? (fun x => WOpt (elemAt env te x) (fun v =>
    WE env f k none a ((q, v) :: (p, .int .i64 i) :: tm) os (onNO fun tm1 os1 => WE env f k none b tm1 os1 (onRd (fun os2 => WRd env f k te o [p, q] a b tm Q i os2 ()) Q tm) ()) ()) ()) ()) ()) () := by
  show wRounds _ _ _ _ _ _ _ _ _ _ _ _ = _
  conv => lhs; unfold wRounds
  cases obAt os o <;> try rfl
  rename_i e s l
  cases e <;> try rfl
  rename_i es
  dsimp only [WVar, WSl]
  cases es[i]? with
  | none => rfl
  | some x =>
    dsimp only [WOpt]
    cases elemAt env te x with
    | none => rfl
    | some v =>
      dsimp only [WE]
      congr 1
      funext o1 tm1 os1
      cases o1 with
      | normal =>
        dsimp only [onNO]
        rw [eq_true (rfl : Out.normal = Out.normal), true_and]
        first
          | rfl
          | (congr 1; funext o2 tm2 os2; cases o2 <;> rfl)
      | exit j => exact nd_iff ⟨fun h => (by cases h.1), False.elim⟩
      | ret => exact nd_iff ⟨fun h => (by cases h.1), False.elim⟩
end
end Go.V
namespace Go.V
section
variable {env : Env} {os : List Ob} {n : Nat} {QL : List AV → List Ob → Nat → List Nat → List Nat → Prop}
@[go_sem] theorem wf_elems_sl {es u} : WF (elemsOf (.sl es)) os n QL u = QL es os n [] [] := WF_ret
@[go_sem] theorem wf_elems_lsl {es u} : WF (elemsOf (.lsl es)) os n QL u = QL es os n [] [] := WF_ret
@[go_sem] theorem wf_elems_nils {u} : WF (elemsOf .nils) os n QL u = QL [] os n [] [] := WF_ret
@[go_sem] theorem wf_elems_arr {o off len ext u} : WF (elemsOf (.arr o off len ext)) os n QL u = WRow (obAt os o) (fun es _ => ext = es.length ∧ off + len ≤ es.length ∧ QL ((es.drop off).take len) os n [o] []) () := by
  show WF (.get o _) os n QL u = _
  rw [WF_get]
  cases obAt os o with
  | row es s l =>
    show WF (if _ then _ else _) _ _ _ () = (_ ∧ _ ∧ _)
    rw [WF_if, WF_ret, and_assoc]
  | _ => exact WF_fail
@[go_sem] theorem wf_newOb {b} {Q : Nat → List Ob → Nat → List Nat → List Nat → Prop} {u} : WF (newOb b) os n Q u = WNew n b os (fun i os' => Q i os' (n + 1) [n] [n]) () := by
  show WF (HM.new b HM.ret) os n Q u = _
  rw [WF_new, WF_ret]; rfl
@[go_sem] theorem intsOf_map {k} : ∀ {ns : List Int}, intsOf k (ns.map (AV.int k)) = some ns
  | [] => rfl
  | n :: ns => by rw [List.map_cons, intsOf, if_pos rfl, intsOf_map]; rfl
end
end Go.V
