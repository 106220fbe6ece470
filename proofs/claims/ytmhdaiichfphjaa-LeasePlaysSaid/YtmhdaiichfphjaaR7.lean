/- LeasePlays: sequences of operations agree with the specification: the law returns true for every list of operations. Its condition: none. -/
import Derived.Test.YtmhdaiichfphjaaP
import Derived.Test.YtmhdaiichfphjaaRows
import Derived.SizedLaws
set_option linter.unusedVariables false
set_option linter.unusedSimpArgs false

namespace Go.Proofs.Ytmhdaiichfphjaa
open Go Go.Ev Go.Proofs.LeG Go.Proofs.Lea

theorem own : ownKnob Try.prog.godebug = none := by kernel_rfl
theorem laidOut : laidOutB Try.prog = true := by kernel_rfl

abbrev SS : Nat → Prop := fun n => n ≤ reachBytes
abbrev VV : TypeId → Nat → Prop := fun e n => n * Try.prog.bytesOf e ≤ reachBytes


theorem opens (xss : List (List DL)) (h : All2 (ArgOk Try.prog SS VV) Try.f7.params.toList xss) : ∃ a : i7, (argCs Try.prog Try.f7.params.toList xss, []) = enc7 a ∧ (fun _ => True) a := by
  have e0 : Try.f7.params.toList = [33] := by kernel_rfl
  rw [e0] at h ⊢
  obtain ⟨xs0, r0, rfl, h0, h⟩ := h.cons_inv
  obtain rfl := h.nil_inv
  have l0 := h0.leaves (ks := [.slice 35]) (by kernel_rfl)
  obtain ⟨x0, _, rfl, k0, l0⟩ := l0.cons_inv
  obtain rfl := l0.nil_inv
  obtain ⟨n0, rfl, m0, v0, w0⟩ := k0.lst_inv (ks := [.int .i64, .int .i64, .int .i64, .int .i64, .int .i64, .int .i64]) (by kernel_rfl)
  exact ⟨n0, by kernel_rfl, trivial⟩

theorem hcall (xss : List (List DL)) (h : All2 (ArgOk Try.prog SS VV) Try.f7.params.toList xss) : CallOk Try.prog 7 (argCs Try.prog Try.f7.params.toList xss, []) ([.one (.d (.bool true))], []) := by
  obtain ⟨a, e, hc⟩ := opens xss h
  rw [e]
  exact ok7 _ _ _ _ _ s10 s19 s20 s13 s7L a true (law7 a)

set_option maxRecDepth 100000 in
theorem lifted (os : Os) (started : os.Started) (H : Type) (enc : TypeId × Value → H) :
    ReturnsInHanded {} Try.checked os 7 .any (Rows.leasePlaysSpec.pre6 enc Try.prog Try.f7 Rows.leasePlaysRow.domain false) (Rows.leasePlaysSpec.post enc Try.prog Try.f7 false true false false) := by
  refine returnsInHanded_of_change_sized (C := Try.checked) own started (by kernel_rfl) Try.func7
    (ChangeSpec.witness6 (enc := enc) (C := Try.checked) false ⟨#[], #[.slice none 0 0], []⟩ 8 (by kernel_rfl) (by kernel_rfl) (by kernel_rfl) (by kernel_rfl)) ?_
  intro W base args ds gs before hval hW _ hsz _
  have hlen := trodAll_len hW.choose_spec.choose_spec.1
  refine law_contract laidOut (spec := Rows.leasePlaysSpec) rfl (tb := 4) (by kernel_rfl) Try.underlying4 (by kernel_rfl) (fun ds hl => ?_) good_reach hcall hval hW (reach_args hsz hlen)
  have hl' : ds.length = 1 := hl
  match ds, hl' with
  | [d0], _ => rfl

theorem leasePlays_holds : Rows.LeasePlaysSaid :=
  OpenClaim.holds_of_wide 7 Try.f7 rfl rfl rfl rfl rfl rfl rfl ⟨rfl, rfl, rfl, rfl, rfl⟩ rfl rfl rfl rfl rfl (by kernel_rfl) Try.func7 (by kernel_rfl)
    (of_decide_eq_true (by kernel_rfl)) (by unfold Func.isWrapper; first | (rw [if_pos (by decide +kernel)]; kernel_rfl) | (rw [if_neg (by decide +kernel)]; exact ⟨rfl, rfl⟩))
    (fun os started H enc _ => lifted os started H enc)

end Go.Proofs.Ytmhdaiichfphjaa
