/- Trees of digests: plain laws. -/
import Derived.Test.YtjmpecjcnmdnaaaE3
set_option linter.unusedVariables false
set_option linter.unusedSimpArgs false

namespace Go.Proofs.Mrk
open Go Go.Ev

section
variable {D : Type} (pr : D → D → D) (z : D)

def up : List D → List D
  | [] => []
  | [a] => [a]
  | a :: b :: r => pr a b :: up r
theorem up_len : ∀ l : List D, (up pr l).length = (l.length + 1) / 2
  | [] => by simp [up]
  | [_] => by simp [up]
  | a :: b :: r => by
    have := up_len r
    simp only [up, List.length_cons, this]; omega
def climb (l : List D) : D := if 1 < l.length then climb (up pr l) else l.headD z
termination_by l.length
decreasing_by rw [up_len]; omega
def sib (i : Nat) : Nat := if i % 2 = 0 then i + 1 else i - 1
def sibs (l : List D) (i : Nat) : List D := if 1 < l.length then (l[sib i]?).toList ++ sibs (up pr l) (i / 2) else []
termination_by l.length
decreasing_by rw [up_len]; omega
/-- The path from a leaf, its siblings at hand: what is left of them, too. -/
def app (n i : Nat) (x : D) (ss : List D) : Option (D × List D) :=
  if 1 < n then
    if sib i < n then match ss with
      | [] => none
      | s :: r => app ((n + 1) / 2) (i / 2) (if i % 2 = 0 then pr x s else pr s x) r
    else app ((n + 1) / 2) (i / 2) x ss
  else some (x, ss)
termination_by n
decreasing_by all_goals omega
def height (n : Nat) : Nat := if 1 < n then height ((n + 1) / 2) + 1 else 0
termination_by n
decreasing_by omega

theorem up_set : ∀ (l : List D) (i : Nat) (x : D), i < l.length → up pr (l.set i x) = (up pr l).set (i / 2) (match l[sib i]? with | some s => if i % 2 = 0 then pr x s else pr s x | none => x)
  | [], i, x, h => by simp at h
  | [a], i, x, h => by
    have : i = 0 := by simpa using h
    subst this
    rfl
  | a :: b :: r, 0, x, _ => rfl
  | a :: b :: r, 1, x, _ => rfl
  | a :: b :: r, i + 2, x, h => by
    have := up_set r i x (by simpa using h)
    simp only [List.set_cons_succ, up, this]
    have e1 : (i + 2) / 2 = i / 2 + 1 := by omega
    have e2 : (i + 2) % 2 = i % 2 := by omega
    have e3 : sib (i + 2) = sib i + 2 := by unfold sib; split <;> split <;> omega
    rw [e1, e2, e3]
    rfl

theorem app_sibs : ∀ (n : Nat) (l : List D) (i : Nat) (x : D), l.length = n → i < n → ∀ t, app pr n i x (sibs pr l i ++ t) = some (climb pr z (l.set i x), t) := by
  intro n
  induction n using Nat.strongRecOn with
  | ind n ih =>
    intro l i x hl hi t
    rw [app.eq_def, climb.eq_def, sibs.eq_def, List.length_set, hl]
    by_cases h1 : 1 < n
    · rw [if_pos h1, if_pos h1, if_pos h1]
      have hup : (up pr l).length = (n + 1) / 2 := by rw [up_len, hl]
      rw [up_set pr l i x (by omega)]
      by_cases hs : sib i < n
      · rw [if_pos hs, List.getElem?_eq_getElem (by omega)]
        simp only [Option.toList_some, List.cons_append, List.nil_append]
        exact ih ((n + 1) / 2) (by omega) _ _ _ hup (by omega) t
      · rw [if_neg hs, List.getElem?_eq_none (by omega)]
        simp only [Option.toList_none, List.nil_append]
        exact ih ((n + 1) / 2) (by omega) _ _ _ hup (by omega) t
    · rw [if_neg h1, if_neg h1, if_neg h1]
      have : i = 0 := by omega
      subst this
      match l, hl with
      | [a], _ => rfl
      | [], h => simp at h; omega
      | _ :: _ :: _, h => simp at h; omega

theorem app_short : ∀ (n : Nat) (i : Nat) (x : D) (ss t : List D) (y : D), app pr n i x (ss ++ t) = some (y, t) → ∀ k, k < ss.length → app pr n i x (ss.take k) = none := by
  intro n
  induction n using Nat.strongRecOn with
  | ind n ih =>
    intro i x ss t y h k hk
    rw [app.eq_def] at h ⊢
    by_cases h1 : 1 < n
    · rw [if_pos h1] at h ⊢
      by_cases hs : sib i < n
      · rw [if_pos hs] at h ⊢
        match ss, hk with
        | s :: r, hk =>
          cases k with
          | zero => rfl
          | succ k => exact ih _ (by omega) _ _ r t y h k (by simpa using hk)
      · rw [if_neg hs] at h ⊢
        exact ih _ (by omega) _ _ ss t y h k hk
    · rw [if_neg h1] at h
      simp only [Option.some.injEq, Prod.mk.injEq] at h
      have := congrArg List.length h.2
      rw [List.length_append] at this
      omega

theorem sibs_height : ∀ (n : Nat) (l : List D) (i : Nat), l.length = n → (sibs pr l i).length ≤ height n := by
  intro n
  induction n using Nat.strongRecOn with
  | ind n ih =>
    intro l i hl
    rw [sibs.eq_def, height.eq_def, hl]
    by_cases h1 : 1 < n
    · rw [if_pos h1, if_pos h1, List.length_append]
      have := ih ((n + 1) / 2) (by omega) (up pr l) (i / 2) (by rw [up_len, hl])
      have h2 : ((l[sib i]?).toList).length ≤ 1 := by cases l[sib i]? <;> simp
      omega
    · rw [if_neg h1, if_neg h1]; simp

/-- The same path, told to its end. -/
def run (n i : Nat) (x : D) (ss : List D) : Bool × D × List D :=
  if 1 < n then
    if sib i < n then match ss with
      | [] => (false, x, [])
      | s :: r => run ((n + 1) / 2) (i / 2) (if i % 2 = 0 then pr x s else pr s x) r
    else run ((n + 1) / 2) (i / 2) x ss
  else (true, x, ss)
termination_by n
decreasing_by all_goals omega
theorem app_run : ∀ (n i : Nat) (x : D) (ss : List D), app pr n i x ss = if (run pr n i x ss).1 then some (run pr n i x ss).2 else none := by
  intro n
  induction n using Nat.strongRecOn with
  | ind n ih =>
    intro i x ss
    rw [app.eq_def, run.eq_def]
    by_cases h1 : 1 < n
    · rw [if_pos h1, if_pos h1]
      by_cases hs : sib i < n
      · rw [if_pos hs, if_pos hs]
        cases ss with
        | nil => rfl
        | cons s r => exact ih _ (by omega) _ _ _
      · rw [if_neg hs, if_neg hs]
        exact ih _ (by omega) _ _ _
    · rw [if_neg h1, if_neg h1]; rfl
theorem run_len : ∀ (n i : Nat) (x : D) (ss : List D), (run pr n i x ss).2.2.length ≤ ss.length ∧ ((run pr n i x ss).1 = false → (run pr n i x ss).2.2 = []) := by
  intro n
  induction n using Nat.strongRecOn with
  | ind n ih =>
    intro i x ss
    rw [run.eq_def]
    by_cases h1 : 1 < n
    · rw [if_pos h1]
      by_cases hs : sib i < n
      · rw [if_pos hs]
        cases ss with
        | nil => exact ⟨Nat.le_refl _, fun _ => rfl⟩
        | cons s r =>
          have := ih ((n + 1) / 2) (by omega) (i / 2) (if i % 2 = 0 then pr x s else pr s x) r
          exact ⟨Nat.le_succ_of_le this.1, this.2⟩
      · rw [if_neg hs]
        exact ih _ (by omega) _ _ _
    · rw [if_neg h1]
      exact ⟨Nat.le_refl _, fun h => by simp at h⟩
theorem xor_sib (i : Nat) : i ^^^ 1 = sib i := by
  have h1 : (i ^^^ 1) / 2 = i / 2 := by rw [Nat.xor_div_two]; simp
  have h2 := Nat.xor_mod_two_eq_one (a := i) (b := 1)
  unfold sib
  split <;> omega

end
end Go.Proofs.Mrk
