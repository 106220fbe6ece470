/- LeaseOthers: an operation on one name changes no other lease: the law returns true for all arguments. Its condition: none. -/
import Derived.Test.YtmhdaiichfphjaaP
import Derived.Test.YtmhdaiichfphjaaRows
import Derived.SizedLaws
set_option linter.unusedVariables false
set_option linter.unusedSimpArgs false

namespace Go.Proofs.Ytmhdaiichfphjaa
open Go Go.Ev Go.Proofs.LeG Go.Proofs.Lea

theorem own : ownKnob Try.prog.godebug = none := by kernel_rfl
theorem laidOut : laidOutB Try.prog = true := by kernel_rfl

abbrev SS : Nat → Prop := fun n => n ≤ reachBytes
abbrev VV : TypeId → Nat → Prop := fun e n => n * Try.prog.bytesOf e ≤ reachBytes


theorem opens (xss : List (List DL)) (h : All2 (ArgOk Try.prog SS VV) Try.f9.params.toList xss) : ∃ a : i9, (argCs Try.prog Try.f9.params.toList xss, []) = enc9 a ∧ (fun _ => True) a := by
  have e0 : Try.f9.params.toList = [33, 35, 3] := by kernel_rfl
  rw [e0] at h ⊢
  obtain ⟨xs0, r0, rfl, h0, h⟩ := h.cons_inv
  obtain ⟨xs1, r1, rfl, h1, h⟩ := h.cons_inv
  obtain ⟨xs2, r2, rfl, h2, h⟩ := h.cons_inv
  obtain rfl := h.nil_inv
  have l0 := h0.leaves (ks := [.slice 35]) (by kernel_rfl)
  obtain ⟨x0, _, rfl, k0, l0⟩ := l0.cons_inv
  obtain rfl := l0.nil_inv
  have l1 := h1.leaves (ks := [.int .i64, .int .i64, .int .i64, .int .i64, .int .i64, .int .i64]) (by kernel_rfl)
  obtain ⟨x1, _, rfl, k1, l1⟩ := l1.cons_inv
  obtain ⟨x2, _, rfl, k2, l1⟩ := l1.cons_inv
  obtain ⟨x3, _, rfl, k3, l1⟩ := l1.cons_inv
  obtain ⟨x4, _, rfl, k4, l1⟩ := l1.cons_inv
  obtain ⟨x5, _, rfl, k5, l1⟩ := l1.cons_inv
  obtain ⟨x6, _, rfl, k6, l1⟩ := l1.cons_inv
  obtain rfl := l1.nil_inv
  have l2 := h2.leaves (ks := [.int .i64]) (by kernel_rfl)
  obtain ⟨x7, _, rfl, k7, l2⟩ := l2.cons_inv
  obtain rfl := l2.nil_inv
  obtain ⟨n0, rfl, m0, v0, w0⟩ := k0.lst_inv (ks := [.int .i64, .int .i64, .int .i64, .int .i64, .int .i64, .int .i64]) (by kernel_rfl)
  obtain ⟨n1, rfl, b1⟩ := k1.int_inv
  obtain ⟨n2, rfl, b2⟩ := k2.int_inv
  obtain ⟨n3, rfl, b3⟩ := k3.int_inv
  obtain ⟨n4, rfl, b4⟩ := k4.int_inv
  obtain ⟨n5, rfl, b5⟩ := k5.int_inv
  obtain ⟨n6, rfl, b6⟩ := k6.int_inv
  obtain ⟨n7, rfl, b7⟩ := k7.int_inv
  exact ⟨(n0, n1, n2, n3, n4, n5, n6, n7), by kernel_rfl, trivial⟩

theorem hcall (xss : List (List DL)) (h : All2 (ArgOk Try.prog SS VV) Try.f9.params.toList xss) : CallOk Try.prog 9 (argCs Try.prog Try.f9.params.toList xss, []) ([.one (.d (.bool true))], []) := by
  obtain ⟨a, e, hc⟩ := opens xss h
  rw [e]
  exact ok9 _ _ _ _ s14 s13 s21 s15 a true (law9 a)

set_option maxRecDepth 100000 in
theorem lifted (os : Os) (started : os.Started) (H : Type) (enc : TypeId × Value → H) :
    ReturnsInHanded {} Try.checked os 9 .any (Rows.leaseOthersSpec.pre6 enc Try.prog Try.f9 Rows.leaseOthersRow.domain false) (Rows.leaseOthersSpec.post enc Try.prog Try.f9 false true false false) := by
  refine returnsInHanded_of_change_sized (C := Try.checked) own started (by kernel_rfl) Try.func9
    (ChangeSpec.witness6 (enc := enc) (C := Try.checked) false ⟨#[], #[.slice none 0 0, .agg #[.int .i64 0, .int .i64 0, .int .i64 0, .int .i64 0, .int .i64 0, .int .i64 0], .int .i64 0], []⟩ 8 (by kernel_rfl) (by kernel_rfl) (by kernel_rfl) (by kernel_rfl)) ?_
  intro W base args ds gs before hval hW _ hsz _
  have hlen := trodAll_len hW.choose_spec.choose_spec.1
  refine law_contract laidOut (spec := Rows.leaseOthersSpec) rfl (tb := 4) (by kernel_rfl) Try.underlying4 (by kernel_rfl) (fun ds hl => ?_) good_reach hcall hval hW (reach_args hsz hlen)
  have hl' : ds.length = 3 := hl
  match ds, hl' with
  | [d0, d1, d2], _ => rfl

theorem leaseOthers_holds : Rows.LeaseOthersSaid :=
  OpenClaim.holds_of_wide 9 Try.f9 rfl rfl rfl rfl rfl rfl rfl ⟨rfl, rfl, rfl, rfl, rfl⟩ rfl rfl rfl rfl rfl (by kernel_rfl) Try.func9 (by kernel_rfl)
    (of_decide_eq_true (by kernel_rfl)) (by unfold Func.isWrapper; first | (rw [if_pos (by decide +kernel)]; kernel_rfl) | (rw [if_neg (by decide +kernel)]; exact ⟨rfl, rfl⟩))
    (fun os started H enc _ => lifted os started H enc)

end Go.Proofs.Ytmhdaiichfphjaa
