/- DigestPermutes: Permute performs the twelve rounds: the law returns true for every state. Its condition: none. -/
import Derived.Test.YthmlnkinoaabnaaP
import Derived.Test.YthmlnkinoaabnaaRows
import Derived.SizedLaws
set_option linter.unusedVariables false
set_option linter.unusedSimpArgs false

namespace Go.Proofs.Ythmlnkinoaabnaa
open Go Go.Ev Go.Proofs.DgG Go.Proofs.Dig

theorem own : ownKnob Try.prog.godebug = none := by kernel_rfl
theorem laidOut : laidOutB Try.prog = true := by kernel_rfl

abbrev SS : Nat → Prop := fun n => n ≤ reachBytes
abbrev VV : TypeId → Nat → Prop := fun e n => n * Try.prog.bytesOf e ≤ reachBytes


theorem opens (xss : List (List DL)) (h : All2 (ArgOk Try.prog SS VV) Try.f3.params.toList xss) : ∃ a : i3, (argCs Try.prog Try.f3.params.toList xss, []) = enc3 a ∧ (fun a => isS a) a := by
  have e0 : Try.f3.params.toList = [23] := by kernel_rfl
  rw [e0] at h ⊢
  obtain ⟨xs0, r0, rfl, h0, h⟩ := h.cons_inv
  obtain rfl := h.nil_inv
  have l0 := h0.leaves (ks := [.int .u64, .int .u64, .int .u64, .int .u64, .int .u64]) (by kernel_rfl)
  obtain ⟨x0, _, rfl, k0, l0⟩ := l0.cons_inv
  obtain ⟨x1, _, rfl, k1, l0⟩ := l0.cons_inv
  obtain ⟨x2, _, rfl, k2, l0⟩ := l0.cons_inv
  obtain ⟨x3, _, rfl, k3, l0⟩ := l0.cons_inv
  obtain ⟨x4, _, rfl, k4, l0⟩ := l0.cons_inv
  obtain rfl := l0.nil_inv
  obtain ⟨n0, rfl, b0⟩ := k0.int_inv
  obtain ⟨n1, rfl, b1⟩ := k1.int_inv
  obtain ⟨n2, rfl, b2⟩ := k2.int_inv
  obtain ⟨n3, rfl, b3⟩ := k3.int_inv
  obtain ⟨n4, rfl, b4⟩ := k4.int_inv
  exact ⟨(n0, n1, n2, n3, n4), by kernel_rfl, ⟨u64W b0, u64W b1, u64W b2, u64W b3, u64W b4⟩⟩

theorem hcall (xss : List (List DL)) (h : All2 (ArgOk Try.prog SS VV) Try.f3.params.toList xss) : CallOk Try.prog 3 (argCs Try.prog Try.f3.params.toList xss, []) ([.one (.d (.bool true))], []) := by
  obtain ⟨a, e, hc⟩ := opens xss h
  rw [e]
  exact s3 a true (prt_eq hc)

set_option maxRecDepth 100000 in
theorem lifted (os : Os) (started : os.Started) (H : Type) (enc : TypeId × Value → H) :
    ReturnsInHanded {} Try.checked os 3 .any (Rows.digestPermutesSpec.pre6 enc Try.prog Try.f3 Rows.digestPermutesRow.domain false) (Rows.digestPermutesSpec.post enc Try.prog Try.f3 false true false false) := by
  refine returnsInHanded_of_change_sized (C := Try.checked) own started (by kernel_rfl) Try.func3
    (ChangeSpec.witness6 (enc := enc) (C := Try.checked) false ⟨#[], #[.agg #[.int .u64 0, .int .u64 0, .int .u64 0, .int .u64 0, .int .u64 0]], []⟩ 8 (by kernel_rfl) (by kernel_rfl) (by kernel_rfl) (by kernel_rfl)) ?_
  intro W base args ds gs before hval hW _ hsz _
  have hlen := trodAll_len hW.choose_spec.choose_spec.1
  refine law_contract laidOut (spec := Rows.digestPermutesSpec) rfl (tb := 4) (by kernel_rfl) Try.underlying4 (by kernel_rfl) (fun ds hl => ?_) good_reach hcall hval hW (reach_args hsz hlen)
  have hl' : ds.length = 1 := hl
  match ds, hl' with
  | [d0], _ => rfl

theorem digestPermutes_holds : Rows.DigestPermutesSaid :=
  OpenClaim.holds_of_wide 3 Try.f3 rfl rfl rfl rfl rfl rfl rfl ⟨rfl, rfl, rfl, rfl, rfl⟩ rfl rfl rfl rfl rfl (by kernel_rfl) Try.func3 (by kernel_rfl)
    (of_decide_eq_true (by kernel_rfl)) (by unfold Func.isWrapper; first | (rw [if_pos (by decide +kernel)]; kernel_rfl) | (rw [if_neg (by decide +kernel)]; exact ⟨rfl, rfl⟩))
    (fun os started H enc _ => lifted os started H enc)

end Go.Proofs.Ythmlnkinoaabnaa
