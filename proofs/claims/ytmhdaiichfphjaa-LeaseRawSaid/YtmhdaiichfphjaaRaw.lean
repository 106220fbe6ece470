/- LeaseRaw: one operation on an arbitrary table returns what the specification says: for every table and every operation the law returns true. Its condition: none (the form's own reach). -/
import Derived.Test.YtmhdaiichfphjaaP
import Derived.Test.YtmhdaiichfphjaaRows
import Derived.SizedLaws
set_option linter.unusedVariables false
set_option linter.unusedSimpArgs false

namespace Go.Proofs.Ytmhdaiichfphjaa
open Go Go.Ev Go.Proofs.LeG Go.Proofs.Lea

theorem own : ownKnob Try.prog.godebug = none := by kernel_rfl
theorem laidOut : laidOutB Try.prog = true := by kernel_rfl

abbrev SS : Nat → Prop := fun n => n ≤ reachBytes
abbrev VV : TypeId → Nat → Prop := fun e n => n * Try.prog.bytesOf e ≤ reachBytes

theorem rows_E {rows : Lea.Rows} (h : RWf Try.prog SS VV [.int .i64, .int .i64, .int .i64, .int .i64] rows) : rows = E (D rows) := by
  unfold E D
  rw [List.map_map]
  conv => lhs; rw [← List.map_id rows]
  refine List.map_congr_left fun x hx => ?_
  obtain ⟨hl, hk⟩ := h x hx
  match x, hl with
  | [a, b, c, d], _ =>
    obtain ⟨a, rfl, _⟩ := (hk 0 _ _ rfl rfl).int_inv
    obtain ⟨b, rfl, _⟩ := (hk 1 _ _ rfl rfl).int_inv
    obtain ⟨c, rfl, _⟩ := (hk 2 _ _ rfl rfl).int_inv
    obtain ⟨d, rfl, _⟩ := (hk 3 _ _ rfl rfl).int_inv
    rfl

theorem open8 (xss : List (List DL)) (h : All2 (ArgOk Try.prog SS VV) Try.f8.params.toList xss) : ∃ a : i8, (argCs Try.prog Try.f8.params.toList xss, []) = enc8 a ∧ isE a.2.1 := by
  have e0 : Try.f8.params.toList = [24, 35] := by kernel_rfl
  rw [e0] at h ⊢
  obtain ⟨xs0, r0, rfl, h0, h⟩ := h.cons_inv
  obtain ⟨xs1, r1, rfl, h1, h⟩ := h.cons_inv
  obtain rfl := h.nil_inv
  have l0 := h0.leaves (ks := [.int .i64, .slice 38]) (by kernel_rfl)
  obtain ⟨x0, _, rfl, k0, l0⟩ := l0.cons_inv
  obtain ⟨x1, _, rfl, k1, l0⟩ := l0.cons_inv
  obtain rfl := l0.nil_inv
  have l1 := h1.leaves (ks := [.int .i64, .int .i64, .int .i64, .int .i64, .int .i64, .int .i64]) (by kernel_rfl)
  obtain ⟨x2, _, rfl, k2, l1⟩ := l1.cons_inv
  obtain ⟨x3, _, rfl, k3, l1⟩ := l1.cons_inv
  obtain ⟨x4, _, rfl, k4, l1⟩ := l1.cons_inv
  obtain ⟨x5, _, rfl, k5, l1⟩ := l1.cons_inv
  obtain ⟨x6, _, rfl, k6, l1⟩ := l1.cons_inv
  obtain ⟨x7, _, rfl, k7, l1⟩ := l1.cons_inv
  obtain rfl := l1.nil_inv
  obtain ⟨n0, rfl, _⟩ := k0.int_inv
  obtain ⟨rows, rfl, hm, _, hr⟩ := k1.lst_inv (ks := [.int .i64, .int .i64, .int .i64, .int .i64]) (by kernel_rfl)
  obtain ⟨n2, rfl, _⟩ := k2.int_inv
  obtain ⟨n3, rfl, _⟩ := k3.int_inv
  obtain ⟨n4, rfl, _⟩ := k4.int_inv
  obtain ⟨n5, rfl, _⟩ := k5.int_inv
  obtain ⟨n6, rfl, _⟩ := k6.int_inv
  obtain ⟨n7, rfl, _⟩ := k7.int_inv
  refine ⟨(n0, rows, n2, n3, n4, n5, n6, n7), by kernel_rfl, D rows, rows_E hr, ?_⟩
  unfold maxLen at hm
  simp [D]; exact hm

theorem hcall8 (xss : List (List DL)) (h : All2 (ArgOk Try.prog SS VV) Try.f8.params.toList xss) : CallOk Try.prog 8 (argCs Try.prog Try.f8.params.toList xss, []) ([.one (.d (.bool true))], []) := by
  obtain ⟨a, e, hE⟩ := open8 xss h
  rw [e]
  exact ok8 _ _ _ _ _ _ s13 s21 s15 s22 s16 s23 a true (law8 a hE)

set_option maxRecDepth 100000 in
theorem lifted8 (os : Os) (started : os.Started) (H : Type) (enc : TypeId × Value → H) :
    ReturnsInHanded {} Try.checked os 8 .any (Rows.leaseRawSpec.pre6 enc Try.prog Try.f8 Rows.leaseRawRow.domain false) (Rows.leaseRawSpec.post enc Try.prog Try.f8 false true false false) := by
  refine returnsInHanded_of_change_sized (C := Try.checked) own started (by kernel_rfl) Try.func8
    (ChangeSpec.witness6 (enc := enc) (C := Try.checked) false ⟨#[], #[.agg #[.int .i64 0, .slice none 0 0], .agg #[.int .i64 0, .int .i64 0, .int .i64 0, .int .i64 0, .int .i64 0, .int .i64 0]], []⟩ 8 (by kernel_rfl) (by kernel_rfl) (by kernel_rfl) (by kernel_rfl)) ?_
  intro W base args ds gs before hval hW _ hsz _
  have hlen := trodAll_len hW.choose_spec.choose_spec.1
  refine law_contract laidOut (spec := Rows.leaseRawSpec) rfl (tb := 4) (by kernel_rfl) Try.underlying4 (by kernel_rfl) (fun ds hl => ?_) good_reach hcall8 hval hW (reach_args hsz hlen)
  have hl' : ds.length = 2 := hl
  match ds, hl' with
  | [d, d'], _ => rfl

theorem leaseRaw_holds : Rows.LeaseRawSaid :=
  OpenClaim.holds_of_wide 8 Try.f8 rfl rfl rfl rfl rfl rfl rfl ⟨rfl, rfl, rfl, rfl, rfl⟩ rfl rfl rfl rfl rfl (by kernel_rfl) Try.func8 (by kernel_rfl)
    (of_decide_eq_true (by kernel_rfl)) (by unfold Func.isWrapper; first | (rw [if_pos (by decide +kernel)]; kernel_rfl) | (rw [if_neg (by decide +kernel)]; exact ⟨rfl, rfl⟩))
    (fun os started H enc _ => lifted8 os started H enc)


end Go.Proofs.Ytmhdaiichfphjaa
