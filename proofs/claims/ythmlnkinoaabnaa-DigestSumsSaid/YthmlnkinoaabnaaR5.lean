/- DigestSums: Sum returns the specified digest: the law returns true for every domain and all bytes. Its condition: none. -/
import Derived.Test.YthmlnkinoaabnaaP
import Derived.Test.YthmlnkinoaabnaaRows
import Derived.SizedLaws
set_option linter.unusedVariables false
set_option linter.unusedSimpArgs false

namespace Go.Proofs.Ythmlnkinoaabnaa
open Go Go.Ev Go.Proofs.DgG Go.Proofs.Dig

theorem own : ownKnob Try.prog.godebug = none := by kernel_rfl
theorem laidOut : laidOutB Try.prog = true := by kernel_rfl

abbrev SS : Nat → Prop := fun n => n ≤ reachBytes
abbrev VV : TypeId → Nat → Prop := fun e n => n * Try.prog.bytesOf e ≤ reachBytes


theorem opens (xss : List (List DL)) (h : All2 (ArgOk Try.prog SS VV) Try.f5.params.toList xss) : ∃ a : i5, (argCs Try.prog Try.f5.params.toList xss, []) = enc5 a ∧ (fun a => isW a.1 ∧ ∃ bs : List By, a.2 = R bs) a := by
  have e0 : Try.f5.params.toList = [22, 28] := by kernel_rfl
  rw [e0] at h ⊢
  obtain ⟨xs0, r0, rfl, h0, h⟩ := h.cons_inv
  obtain ⟨xs1, r1, rfl, h1, h⟩ := h.cons_inv
  obtain rfl := h.nil_inv
  have l0 := h0.leaves (ks := [.int .u64]) (by kernel_rfl)
  obtain ⟨x0, _, rfl, k0, l0⟩ := l0.cons_inv
  obtain rfl := l0.nil_inv
  have l1 := h1.leaves (ks := [.slice 5]) (by kernel_rfl)
  obtain ⟨x1, _, rfl, k1, l1⟩ := l1.cons_inv
  obtain rfl := l1.nil_inv
  obtain ⟨n0, rfl, b0⟩ := k0.int_inv
  obtain ⟨n1, rfl, m1, v1, w1⟩ := k1.lst_inv (ks := [.int .u8]) (by kernel_rfl)
  exact ⟨(n0, n1), by kernel_rfl, ⟨u64W b0, rwf_R w1⟩⟩

theorem hcall (xss : List (List DL)) (h : All2 (ArgOk Try.prog SS VV) Try.f5.params.toList xss) : CallOk Try.prog 5 (argCs Try.prog Try.f5.params.toList xss, []) ([.one (.d (.bool true))], []) := by
  obtain ⟨a, e, hc⟩ := opens xss h
  rw [e]
  exact s5 a true (prt_eq hc)

set_option maxRecDepth 100000 in
theorem lifted (os : Os) (started : os.Started) (H : Type) (enc : TypeId × Value → H) :
    ReturnsInHanded {} Try.checked os 5 .any (Rows.digestSumsSpec.pre6 enc Try.prog Try.f5 Rows.digestSumsRow.domain false) (Rows.digestSumsSpec.post enc Try.prog Try.f5 false true false false) := by
  refine returnsInHanded_of_change_sized (C := Try.checked) own started (by kernel_rfl) Try.func5
    (ChangeSpec.witness6 (enc := enc) (C := Try.checked) false ⟨#[], #[.int .u64 0, .slice none 0 0], []⟩ 8 (by kernel_rfl) (by kernel_rfl) (by kernel_rfl) (by kernel_rfl)) ?_
  intro W base args ds gs before hval hW _ hsz _
  have hlen := trodAll_len hW.choose_spec.choose_spec.1
  refine law_contract laidOut (spec := Rows.digestSumsSpec) rfl (tb := 4) (by kernel_rfl) Try.underlying4 (by kernel_rfl) (fun ds hl => ?_) good_reach hcall hval hW (reach_args hsz hlen)
  have hl' : ds.length = 2 := hl
  match ds, hl' with
  | [d0, d1], _ => rfl

theorem digestSums_holds : Rows.DigestSumsSaid :=
  OpenClaim.holds_of_wide 5 Try.f5 rfl rfl rfl rfl rfl rfl rfl ⟨rfl, rfl, rfl, rfl, rfl⟩ rfl rfl rfl rfl rfl (by kernel_rfl) Try.func5 (by kernel_rfl)
    (of_decide_eq_true (by kernel_rfl)) (by unfold Func.isWrapper; first | (rw [if_pos (by decide +kernel)]; kernel_rfl) | (rw [if_neg (by decide +kernel)]; exact ⟨rfl, rfl⟩))
    (fun os started H enc _ => lifted os started H enc)

end Go.Proofs.Ythmlnkinoaabnaa
