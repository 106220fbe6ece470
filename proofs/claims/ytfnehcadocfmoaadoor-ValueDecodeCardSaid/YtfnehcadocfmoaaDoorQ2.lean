/- Values: the law about Valid and Clean; values from outside. -/
import Derived.Test.YtfnehcadocfmoaaDoorP1
import Derived.Test.YtfnehcadocfmoaaDoorL4
set_option linter.unusedVariables false
set_option linter.unusedSimpArgs false

namespace Go.Proofs.Val
open Go Go.Ev Go.Proofs.VaG

theorem beq_S8 (a b : List By) : (S8 a == S8 b) = decide (a = b) := by
  have e : (S8 a == S8 b) = ((S8 a).data == (S8 b).data) := rfl
  rw [e]
  by_cases h : a = b
  · subst h; simp
  · rw [decide_eq_false h]
    exact beq_eq_false_iff_ne.2 fun e => h (S8_inj (ByteArray.ext e))
theorem beq_v3 (a b : V) : ((v3 a).1 == (v3 b).1 && ((v3 a).2.1 == (v3 b).2.1 && ((v3 a).2.2 == (v3 b).2.2 && true))) = decide (a = b) := by
  obtain ⟨k, n, t⟩ := a
  obtain ⟨k', n', t'⟩ := b
  simp only [v3, beq_S8, int_beq, Bool.and_true, V.mk.injEq]
  rw [Bool.eq_iff_iff]
  simp
theorem e14 (u : Unit) : (tot fun (_ : i14) => true) u = some true := rfl

def p4L (a : iL4_4) : Prop := ∃ (vs : List V) (i : Nat), vs.length ≤ 1000000 ∧ i ≤ vs.length ∧ a = (VR vs, (i : Int))
def f4L (a : iL4_4) : oL4_4 := .inr a.1
theorem s4L : SdL4_4 (prt p4L f4L) := by
  refine of_iterL (step := fun l a => u4_4 sh0 _ _ _ _ l a.1 a.2 some) (fun l => okL4_4 _ _ _ _ l s18 s19 s20 s21) (fun a => a.1.length - a.2.toNat) ?_
  rintro F _ ⟨vs, i, hb, hi, rfl⟩ ih
  unfold u4_4
  have e19 : ∀ i, tot f18 ((cellAt (VR vs) i 0).getI, (cellAt (VR vs) i 1).getI, (cellAt (VR vs) i 2).getS) = some (okv (gv vs i)) := e18c vs
  have e18' : ∀ v : V, tot f18 ((v3 v).1, (v3 v).2.1, (v3 v).2.2) = some (okv v) := e18
  simp only [sh0_eq, cond_dec, f4L, Int.toNat_natCast, VR_len, succ_w i (by omega), Option.bind_fun_some, e18c, e20c, Option.bind_some, beq_v3]
  by_cases h : i < vs.length
  · have hp : (0 : Int) ≤ (i : Int) ∧ (i : Int) < (vs.length : Int) := by omega
    simp only [if_pos (show (i : Int) < (vs.length : Int) by omega), if_pos hp, decide_true, Bool.not_true, e18', okv_cl, Option.bind_some]
    rw [ih (VR vs, ((i + 1 : Nat) : Int)) ⟨vs, i + 1, hb, by omega, rfl⟩ (by simp only [VR_len, Int.toNat_natCast]; omega)]
    cases okv (gv vs i) <;> rfl
  · rw [if_neg (by omega)]
theorem s4 : Sd4 (prt (fun a => ∃ vs : List V, a = VR vs) fun _ => true) := by
  refine of_prt (ok4 _ _ _ _ _ s17 s14 s22 s23 s4L) ?_
  rintro _ ⟨vs, rfl⟩
  unfold t4
  simp only [e17, e14, Option.bind_some]
  cases hl : lng vs with
  | true => rfl
  | false =>
    have h40 := lng_no hl
    have e : prt p4L f4L (VR vs, (0 : Int)) = some (.inr (VR vs)) := by
      rw [prt_eq (by exact ⟨vs, 0, by omega, by omega, rfl⟩)]; rfl
    have e23 : prt pR f22 (VR vs) = some (okr vs) := e22 vs (by omega)
    simp only [cond_false, e, Option.bind_some, two, e22 vs (show vs.length ≤ 1000000 by omega), beq_self_eq_true, cond_true]

theorem rwf_VR {P : Program} {S : Nat → Prop} {V' : TypeId → Nat → Prop} : ∀ {xs : List (List DL)}, RWf P S V' [.int .i64, .int .i64, .str] xs → ∃ vs : List V, xs = VR vs := by
  intro xs
  induction xs with
  | nil => intro _; exact ⟨[], rfl⟩
  | cons x xs ih =>
    intro h
    obtain ⟨vs, hvs⟩ := ih fun y hy => h y (List.mem_cons_of_mem _ hy)
    obtain ⟨hl, hx⟩ := h x (List.mem_cons_self ..)
    match x, hl with
    | [a, b, c], _ =>
      obtain ⟨n, rfl, _⟩ := (hx 0 _ a rfl rfl).int_inv
      obtain ⟨m, rfl, _⟩ := (hx 1 _ b rfl rfl).int_inv
      obtain ⟨s, rfl, _⟩ := (hx 2 _ c rfl rfl).str_inv
      obtain ⟨t, rfl⟩ := ex_S8 s
      exact ⟨⟨n, m, t⟩ :: vs, by rw [hvs]; rfl⟩

end Go.Proofs.Val
