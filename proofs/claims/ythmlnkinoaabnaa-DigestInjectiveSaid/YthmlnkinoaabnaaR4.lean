/- DigestInjective: Permute maps different states to different results: the law returns true for all pairs of states. Its condition: none. -/
import Derived.Test.YthmlnkinoaabnaaP
import Derived.Test.YthmlnkinoaabnaaRows
import Derived.SizedLaws
set_option linter.unusedVariables false
set_option linter.unusedSimpArgs false

namespace Go.Proofs.Ythmlnkinoaabnaa
open Go Go.Ev Go.Proofs.DgG Go.Proofs.Dig

theorem own : ownKnob Try.prog.godebug = none := by kernel_rfl
theorem laidOut : laidOutB Try.prog = true := by kernel_rfl

abbrev SS : Nat → Prop := fun n => n ≤ reachBytes
abbrev VV : TypeId → Nat → Prop := fun e n => n * Try.prog.bytesOf e ≤ reachBytes


theorem opens (xss : List (List DL)) (h : All2 (ArgOk Try.prog SS VV) Try.f4.params.toList xss) : ∃ a : i4, (argCs Try.prog Try.f4.params.toList xss, []) = enc4 a ∧ (fun a => p4 a) a := by
  have e0 : Try.f4.params.toList = [23, 23] := by kernel_rfl
  rw [e0] at h ⊢
  obtain ⟨xs0, r0, rfl, h0, h⟩ := h.cons_inv
  obtain ⟨xs1, r1, rfl, h1, h⟩ := h.cons_inv
  obtain rfl := h.nil_inv
  have l0 := h0.leaves (ks := [.int .u64, .int .u64, .int .u64, .int .u64, .int .u64]) (by kernel_rfl)
  obtain ⟨x0, _, rfl, k0, l0⟩ := l0.cons_inv
  obtain ⟨x1, _, rfl, k1, l0⟩ := l0.cons_inv
  obtain ⟨x2, _, rfl, k2, l0⟩ := l0.cons_inv
  obtain ⟨x3, _, rfl, k3, l0⟩ := l0.cons_inv
  obtain ⟨x4, _, rfl, k4, l0⟩ := l0.cons_inv
  obtain rfl := l0.nil_inv
  have l1 := h1.leaves (ks := [.int .u64, .int .u64, .int .u64, .int .u64, .int .u64]) (by kernel_rfl)
  obtain ⟨x5, _, rfl, k5, l1⟩ := l1.cons_inv
  obtain ⟨x6, _, rfl, k6, l1⟩ := l1.cons_inv
  obtain ⟨x7, _, rfl, k7, l1⟩ := l1.cons_inv
  obtain ⟨x8, _, rfl, k8, l1⟩ := l1.cons_inv
  obtain ⟨x9, _, rfl, k9, l1⟩ := l1.cons_inv
  obtain rfl := l1.nil_inv
  obtain ⟨n0, rfl, b0⟩ := k0.int_inv
  obtain ⟨n1, rfl, b1⟩ := k1.int_inv
  obtain ⟨n2, rfl, b2⟩ := k2.int_inv
  obtain ⟨n3, rfl, b3⟩ := k3.int_inv
  obtain ⟨n4, rfl, b4⟩ := k4.int_inv
  obtain ⟨n5, rfl, b5⟩ := k5.int_inv
  obtain ⟨n6, rfl, b6⟩ := k6.int_inv
  obtain ⟨n7, rfl, b7⟩ := k7.int_inv
  obtain ⟨n8, rfl, b8⟩ := k8.int_inv
  obtain ⟨n9, rfl, b9⟩ := k9.int_inv
  exact ⟨(n0, n1, n2, n3, n4, n5, n6, n7, n8, n9), by kernel_rfl, ⟨⟨u64W b0, u64W b1, u64W b2, u64W b3, u64W b4⟩, u64W b5, u64W b6, u64W b7, u64W b8, u64W b9⟩⟩

theorem hcall (xss : List (List DL)) (h : All2 (ArgOk Try.prog SS VV) Try.f4.params.toList xss) : CallOk Try.prog 4 (argCs Try.prog Try.f4.params.toList xss, []) ([.one (.d (.bool true))], []) := by
  obtain ⟨a, e, hc⟩ := opens xss h
  rw [e]
  exact s4 a true (prt_eq hc)

set_option maxRecDepth 100000 in
theorem lifted (os : Os) (started : os.Started) (H : Type) (enc : TypeId × Value → H) :
    ReturnsInHanded {} Try.checked os 4 .any (Rows.digestInjectiveSpec.pre6 enc Try.prog Try.f4 Rows.digestInjectiveRow.domain false) (Rows.digestInjectiveSpec.post enc Try.prog Try.f4 false true false false) := by
  refine returnsInHanded_of_change_sized (C := Try.checked) own started (by kernel_rfl) Try.func4
    (ChangeSpec.witness6 (enc := enc) (C := Try.checked) false ⟨#[], #[.agg #[.int .u64 0, .int .u64 0, .int .u64 0, .int .u64 0, .int .u64 0], .agg #[.int .u64 0, .int .u64 0, .int .u64 0, .int .u64 0, .int .u64 0]], []⟩ 8 (by kernel_rfl) (by kernel_rfl) (by kernel_rfl) (by kernel_rfl)) ?_
  intro W base args ds gs before hval hW _ hsz _
  have hlen := trodAll_len hW.choose_spec.choose_spec.1
  refine law_contract laidOut (spec := Rows.digestInjectiveSpec) rfl (tb := 4) (by kernel_rfl) Try.underlying4 (by kernel_rfl) (fun ds hl => ?_) good_reach hcall hval hW (reach_args hsz hlen)
  have hl' : ds.length = 2 := hl
  match ds, hl' with
  | [d0, d1], _ => rfl

theorem digestInjective_holds : Rows.DigestInjectiveSaid :=
  OpenClaim.holds_of_wide 4 Try.f4 rfl rfl rfl rfl rfl rfl rfl ⟨rfl, rfl, rfl, rfl, rfl⟩ rfl rfl rfl rfl rfl (by kernel_rfl) Try.func4 (by kernel_rfl)
    (of_decide_eq_true (by kernel_rfl)) (by unfold Func.isWrapper; first | (rw [if_pos (by decide +kernel)]; kernel_rfl) | (rw [if_neg (by decide +kernel)]; exact ⟨rfl, rfl⟩))
    (fun os started H enc _ => lifted os started H enc)

end Go.Proofs.Ythmlnkinoaabnaa
