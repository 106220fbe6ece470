/- SignatureChecks: of two messages with different digits each has a smaller one: the law returns true for all bytes. Its condition: none. -/
import Derived.Test.YtjmpecjcnmdnaaaQ
import Derived.Test.YtjmpecjcnmdnaaaP
import Derived.Test.YtjmpecjcnmdnaaaRows
import Derived.SizedLaws
set_option linter.unusedVariables false
set_option linter.unusedSimpArgs false

namespace Go.Proofs.Ytjmpecjcnmdnaaa
open Go Go.Ev Go.Proofs.SmG Go.Proofs.Dig

theorem own : ownKnob Try.prog.godebug = none := by kernel_rfl
theorem laidOut : laidOutB Try.prog = true := by kernel_rfl

abbrev SS : Nat → Prop := fun n => n ≤ reachBytes
abbrev VV : TypeId → Nat → Prop := fun e n => n * Try.prog.bytesOf e ≤ reachBytes


theorem opens (xss : List (List DL)) (h : All2 (ArgOk Try.prog SS VV) Try.f11.params.toList xss) : ∃ a : i11, (argCs Try.prog Try.f11.params.toList xss, []) = enc11 a ∧ (fun a => ∃ x y : List By, a = (R x, R y)) a := by
  have e0 : Try.f11.params.toList = [42, 42] := by kernel_rfl
  rw [e0] at h ⊢
  obtain ⟨xs0, r0, rfl, h0, h⟩ := h.cons_inv
  obtain ⟨xs1, r1, rfl, h1, h⟩ := h.cons_inv
  obtain rfl := h.nil_inv
  have l0 := h0.leaves (ks := [.slice 5]) (by kernel_rfl)
  obtain ⟨x0, _, rfl, k0, l0⟩ := l0.cons_inv
  obtain rfl := l0.nil_inv
  have l1 := h1.leaves (ks := [.slice 5]) (by kernel_rfl)
  obtain ⟨x1, _, rfl, k1, l1⟩ := l1.cons_inv
  obtain rfl := l1.nil_inv
  obtain ⟨n0, rfl, m0, v0, w0⟩ := k0.lst_inv (ks := [.int .u8]) (by kernel_rfl)
  obtain ⟨n1, rfl, m1, v1, w1⟩ := k1.lst_inv (ks := [.int .u8]) (by kernel_rfl)
  exact ⟨(n0, n1), by kernel_rfl, by obtain ⟨x, rfl⟩ := rwf_R w0; obtain ⟨y, rfl⟩ := rwf_R w1; exact ⟨x, y, rfl⟩⟩

theorem hcall (xss : List (List DL)) (h : All2 (ArgOk Try.prog SS VV) Try.f11.params.toList xss) : CallOk Try.prog 11 (argCs Try.prog Try.f11.params.toList xss, []) ([.one (.d (.bool true))], []) := by
  obtain ⟨a, e, hc⟩ := opens xss h
  rw [e]
  exact s11 a true (prt_eq hc)

set_option maxRecDepth 100000 in
theorem lifted (os : Os) (started : os.Started) (H : Type) (enc : TypeId × Value → H) :
    ReturnsInHanded {} Try.checked os 11 .any (Rows.signatureChecksSpec.pre6 enc Try.prog Try.f11 Rows.signatureChecksRow.domain false) (Rows.signatureChecksSpec.post enc Try.prog Try.f11 false true false false) := by
  refine returnsInHanded_of_change_sized (C := Try.checked) own started (by kernel_rfl) Try.func11
    (ChangeSpec.witness6 (enc := enc) (C := Try.checked) false ⟨#[], #[.slice none 0 0, .slice none 0 0], []⟩ 8 (by kernel_rfl) (by kernel_rfl) (by kernel_rfl) (by kernel_rfl)) ?_
  intro W base args ds gs before hval hW _ hsz _
  have hlen := trodAll_len hW.choose_spec.choose_spec.1
  refine law_contract laidOut (spec := Rows.signatureChecksSpec) rfl (tb := 4) (by kernel_rfl) Try.underlying4 (by kernel_rfl) (fun ds hl => ?_) good_reach hcall hval hW (reach_args hsz hlen)
  have hl' : ds.length = 2 := hl
  match ds, hl' with
  | [d0, d1], _ => rfl

theorem signatureChecks_holds : Rows.SignatureChecksSaid :=
  OpenClaim.holds_of_wide 11 Try.f11 rfl rfl rfl rfl rfl rfl rfl ⟨rfl, rfl, rfl, rfl, rfl⟩ rfl rfl rfl rfl rfl (by kernel_rfl) Try.func11 (by kernel_rfl)
    (of_decide_eq_true (by kernel_rfl)) (by unfold Func.isWrapper; first | (rw [if_pos (by decide +kernel)]; kernel_rfl) | (rw [if_neg (by decide +kernel)]; exact ⟨rfl, rfl⟩))
    (fun os started H enc _ => lifted os started H enc)

end Go.Proofs.Ytjmpecjcnmdnaaa
