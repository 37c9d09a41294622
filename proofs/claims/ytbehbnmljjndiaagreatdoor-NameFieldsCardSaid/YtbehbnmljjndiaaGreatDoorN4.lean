/-
  The library functions at this seat; the environment is sound.
-/
import Derived.Test.YtbehbnmljjndiaaGreatDoorW4
import Derived.Test.YtbehbnmljjndiaaGreatDoorN2
import Derived.Test.YtbehbnmljjndiaaGreatDoorShelf
import Derived.WalkKit
import Derived.Shelf.Abstract
set_option linter.unusedVariables false
set_option linter.unusedSimpArgs false
namespace Go.V.NF
open Go.Proofs Go.RowKit Go.Shelf
def blankP (x : Nat) : Bool := (Nat.ble 9 x && Nat.ble x 13) || Nat.beq x 32 || Nat.beq x 160
theorem blankP_eq (x : Nat) : blankP x = ((decide (9 ≤ x) && decide (x ≤ 13)) || decide (x = 32) || decide (x = 160)) := by
  unfold blankP
  congr 1
  · congr 1
    · congr 1 <;> (rw [Bool.eq_iff_iff]; simp)
    · rw [Bool.eq_iff_iff]; simp
  · rw [Bool.eq_iff_iff]; simp
set_option maxHeartbeats 800000 in
theorem blank_walk (W : World) (x : Nat) : Calls Tryz.prog 96 #[.int .i32 (x : Int)] W fun e w' => e = .returned (.bool (blankP x)) ∧ ∃ q, w' = W.drewN q := by
  have key : ∀ b : Bool, blankP x = b → Calls Tryz.prog 96 #[.int .i32 (x : Int)] W fun e w' => e = .returned (.bool b) ∧ ∃ q, w' = W.drewN q := by
    intro b hb
    rw [blankP_eq] at hb
    by_cases h1 : 9 ≤ x
    · have g1 : ((x : Int) ≥ 9) = True := by simp; omega
      by_cases h2 : x ≤ 13
      · have g2 : ((x : Int) ≤ 13) = True := by simp; omega
        obtain rfl : b = true := by rw [← hb]; simp [h1, h2]
        clear hb
        go_enter Tryz.func96, Tryz.ntmps96
        go_wp2
        all_goals go_ret
        all_goals exact ⟨rfl, 0, rfl⟩
      · have g2 : ((x : Int) ≤ 13) = False := by simp; omega
        by_cases h3 : x = 32
        · subst h3
          obtain rfl : b = true := by rw [← hb]; simp
          clear hb
          go_enter Tryz.func96, Tryz.ntmps96
          go_wp2
          all_goals go_ret
          all_goals exact ⟨rfl, 0, rfl⟩
        · by_cases h4 : x = 160
          · subst h4
            obtain rfl : b = true := by rw [← hb]; simp
            clear hb
            go_enter Tryz.func96, Tryz.ntmps96
            go_wp2
            all_goals go_ret
            all_goals exact ⟨rfl, 0, rfl⟩
          · have g3 : ((x : Int) == 32) = false := by simp; omega
            have g4 : ((x : Int) == 160) = false := by simp; omega
            obtain rfl : b = false := by rw [← hb]; simp [h2, h3, h4]
            clear hb h3 h4
            go_enter Tryz.func96, Tryz.ntmps96
            go_wp2
            all_goals go_ret
            all_goals exact ⟨rfl, 0, rfl⟩
    · have g1 : ((x : Int) ≥ 9) = False := by simp; omega
      have g3 : ((x : Int) == 32) = false := by simp; omega
      have g4 : ((x : Int) == 160) = false := by simp; omega
      obtain rfl : b = false := by rw [← hb]; simp [h1]; omega
      clear hb
      go_enter Tryz.func96, Tryz.ntmps96
      go_wp2
      all_goals go_ret
      all_goals exact ⟨rfl, 0, rfl⟩
  exact key _ rfl
theorem e96 : ∀ args w, (callFunc 96 args).run Tryz.prog w = .ok (.enter 96 args) w := enters_of Tryz.func96 (by kernel_rfl) rfl
/-- what is taken by a law of the library -/
def extL : FuncId → Option (List AV → HM AV) := fun f => if f = 42 then some xClone else if f = 97 then some xJoin else if f = 98 then some (xFields 96 blankP) else none
theorem extL_ok {env : Env} : ∀ g y, extL g = some y → ExtOK Tryz.prog env g y := by
  intro g y h
  unfold extL at h
  split at h
  · rename_i hg; subst hg; injection h with h; subst h
    exact xClone_ok (fun b off n c zs w hz hb hc => Tryz.slices_Clone_int b off n c zs w hz hb hc) Tryz.slices_Clone_int_nil Tryz.slices_Clone_int_zero
  · split at h
    · rename_i hg; subst hg; injection h with h; subst h
      exact xJoin_ok (fun bk o c xs sep w h1 h2 h3 h4 h5 => Tryz.strings_Join bk o c xs sep w h1 h2 h3 h4 h5) Tryz.strings_Join_none
    · split at h
      · rename_i hg; subst hg; injection h with h; subst h
        exact xFields_ok (fun s w hs => Tryz.strings_FieldsFunc_runes 96 #[] e96 blankP s w hs (fun W x _ _ => blank_walk W x))
      · simp at h
end Go.V.NF
namespace Go.V.NF
open Go.Proofs
theorem env_ok (x : FuncId → Option (List AV → HM AV)) (hx : ∀ g y, x g = some y → ExtOK Tryz.prog (EX x) g y ∧ ∃ fn, Tryz.prog.funcs[g]? = some fn ∧ fn.name ≠ "runtime.NumGoroutine" ∧ fn.body.isNone = false) : EnvOK Tryz.prog (EX x) := {
  ext := hx
  fn := fun g fi h => by
    have h : (fnTab.get g).bind fiOf = some fi := h
    obtain ⟨fn, h1, h2⟩ := Option.bind_eq_some_iff.1 h
    exact fnOK_ok (g := g) (Tab.all_get fnTab_ok h1) h2 (Tab.All_get fnTab_prog h1)
  mixed := by kernel_rfl
  back := fun g te h => by
    have h : (if g = 77 then some 3 else if g = 147 then some 226 else none) = some te := h
    split at h
    · rename_i hg; subst hg; injection h with h; subst h
      exact ⟨Tryz.f77, 71, 173, 3, 4, Tryz.func77, by kernel_rfl, by kernel_rfl, by kernel_rfl, by kernel_rfl, ⟨.slice 3, 1, 24, some .nils⟩, by kernel_rfl, rfl⟩
    · split at h
      · rename_i hg; subst hg; injection h with h; subst h
        exact ⟨Tryz.f147, 84, 276, 3, 4, Tryz.func147, by kernel_rfl, by kernel_rfl, by kernel_rfl, by kernel_rfl, ⟨.slice 226, 1, 24, some .nils⟩, by kernel_rfl, rfl⟩
      · simp at h
  eqs := fun t h => by
    have h : (t == 44 || t == 169) = true := h
    simp only [Bool.or_eq_true, beq_iff_eq] at h
    rcases h with rfl | rfl
    · refine ⟨by kernel_rfl, by kernel_rfl, fun F hF => ?_⟩
      rw [Tryz.underlying44] at hF
      injection hF with hF; injection hF with hF; subst hF
      decide
    · refine ⟨by kernel_rfl, by kernel_rfl, fun F hF => ?_⟩
      rw [Tryz.underlying169] at hF
      injection hF with hF; injection hF with hF; subst hF
      decide
  ty := fun t ti h => tyOK_ok (Tab.all_get tyTab_ok h) }
noncomputable abbrev EL : Env := EX extL
theorem el_ok : EnvOK Tryz.prog EL := env_ok extL fun g y h => ⟨extL_ok g y h, by
  unfold extL at h
  split at h
  · rename_i hg; subst hg; exact ⟨_, Tryz.func42, beq_eq_false_iff_ne.1 (by kernel_rfl), by kernel_rfl⟩
  · split at h
    · rename_i hg; subst hg; exact ⟨_, Tryz.func97, beq_eq_false_iff_ne.1 (by kernel_rfl), by kernel_rfl⟩
    · split at h
      · rename_i hg; subst hg; exact ⟨_, Tryz.func98, beq_eq_false_iff_ne.1 (by kernel_rfl), by kernel_rfl⟩
      · simp at h⟩
end Go.V.NF
