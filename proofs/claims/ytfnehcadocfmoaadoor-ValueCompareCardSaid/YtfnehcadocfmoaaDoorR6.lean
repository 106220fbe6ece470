/- ValueCompare: Compare and CompareRows agree with the definitions: the law returns true for all pairs of rows. Its conditions: the listed variables of the library read as the program's own text lays them, which the card ties. -/
import Derived.Test.YtfnehcadocfmoaaDoorQ3
import Derived.Test.YtfnehcadocfmoaaDoorC1
import Derived.Test.YtfnehcadocfmoaaDoorTie
import Derived.Test.YtfnehcadocfmoaaDoorCards
import Derived.SevenTiedAt
set_option linter.unusedVariables false
set_option linter.unusedSimpArgs false

namespace Go.Proofs.YtfnehcadocfmoaaDoor
open Go Go.Ev Go.Proofs.VaG Go.Proofs.Val


theorem opens (xss : List (List DL)) (h : All2 (ArgOk Tryd.prog SS VV) Tryd.f6.params.toList xss) : ∃ a : i6, (argCs Tryd.prog Tryd.f6.params.toList xss, []) = enc6 a ∧ (fun a => ∃ xs ys : List V, a = (VR xs, VR ys)) a := by
  have e0 : Tryd.f6.params.toList = [27, 27] := by kernel_rfl
  rw [e0] at h ⊢
  obtain ⟨xs0, r0, rfl, h0, h⟩ := h.cons_inv
  obtain ⟨xs1, r1, rfl, h1, h⟩ := h.cons_inv
  obtain rfl := h.nil_inv
  have l0 := h0.leaves (ks := [.slice 23]) (by kernel_rfl)
  obtain ⟨x0, _, rfl, k0, l0⟩ := l0.cons_inv
  obtain rfl := l0.nil_inv
  have l1 := h1.leaves (ks := [.slice 23]) (by kernel_rfl)
  obtain ⟨x1, _, rfl, k1, l1⟩ := l1.cons_inv
  obtain rfl := l1.nil_inv
  obtain ⟨n0, rfl, m0, v0, w0⟩ := k0.lst_inv (ks := [.int .i64, .int .i64, .str]) (by kernel_rfl)
  obtain ⟨n1, rfl, m1, v1, w1⟩ := k1.lst_inv (ks := [.int .i64, .int .i64, .str]) (by kernel_rfl)
  exact ⟨(n0, n1), by kernel_rfl, by obtain ⟨xs, rfl⟩ := rwf_VR w0; obtain ⟨ys, rfl⟩ := rwf_VR w1; exact ⟨xs, ys, rfl⟩⟩

theorem hcall (xss : List (List DL)) (h : All2 (ArgOk Tryd.prog SS VV) Tryd.f6.params.toList xss) : CallOk Tryd.prog 6 (argCs Tryd.prog Tryd.f6.params.toList xss, []) ([.one (.d (.bool true))], []) := by
  obtain ⟨a, e, hc⟩ := opens xss h
  rw [e]
  exact s6 a true (prt_eq hc)

set_option maxRecDepth 100000 in
theorem lifted (os : Os) (started : os.Started) (H : Type) (enc : TypeId × Value → H) :
    ReturnsInHanded {} Tryd.checked os 6 .any (fun w args => (Rows.valueCompareSpec.pre enc Tryd.prog Tryd.f6 Rows.valueCompareRow.domain false w args ∧ laidMetH Tryd.prog laid3 w) ∧ sizedMet enc Tryd.prog Tryd.f6 (OpenSpec.ofChange Rows.valueCompareSpec) false w args) (Rows.valueCompareSpec.post enc Tryd.prog Tryd.f6 false true false false) := by
  refine returnsInHanded_of_change_and (C := Tryd.checked) (X := fun w _ => laidMetH Tryd.prog laid3 w) (fun _ _ _ hh h => h.of_heap hh) own started (by kernel_rfl) Tryd.func6
    (ChangeSpec.witness_shaped (enc := enc) (C := Tryd.checked) (os := os) (X := fun w _ => laidMetH Tryd.prog laid3 w) false (World.doorLaid Tryd.prog 400 os) #[.slice none 0 0, .slice none 0 0] 8 rfl (World.shaped_of_RefB (by kernel_rfl) (by kernel_rfl)) (by kernel_rfl) (by kernel_rfl) (by kernel_rfl) (door_met os _)) ?_
  intro W base args ds gs before hval hW _ hsz hL _
  have hlen := trodAll_len hW.choose_spec.choose_spec.1
  refine law_contract_g laidOut (spec := Rows.valueCompareSpec) rfl (tb := 4) (by kernel_rfl) Tryd.underlying4 (by kernel_rfl) (fun ds hl => ?_) good_reach hcall (glob_of hL) (fun a h => ⟨h.2, h.1⟩) hval hW (reach_args hsz hlen)
  have hl' : ds.length = 2 := hl
  match ds, hl' with
  | [d0, d1], _ => rfl

theorem valueCompare_row : Rows.ValueCompareSaid :=
  OpenClaim.holds_of_wide 6 Tryd.f6 rfl rfl rfl rfl rfl rfl rfl ⟨rfl, rfl, rfl, rfl, rfl⟩ rfl rfl rfl rfl rfl (by kernel_rfl) Tryd.func6 (by kernel_rfl)
    (of_decide_eq_true (by kernel_rfl)) (by unfold Func.isWrapper; first | (rw [if_pos (by decide +kernel)]; kernel_rfl) | (rw [if_neg (by decide +kernel)]; exact ⟨rfl, rfl⟩))
    (fun os started H enc _ => lifted os started H enc)

theorem valueCompare_holds : Rows.ValueCompareCardSaid :=
  Claim7.holds_tied_plain_at .later [] [.data, .data, .data] true (true, "eceabb95b585453313724f40535bd0306dd09887390ced6abe24303f1ffaf82d") true
    valueCompare_row (fun _ h => by cases h) (by kernel_rfl) (fun _ h => by cases h) valueCompare_row_tie rfl ⟨rfl, rfl⟩ (by kernel_rfl) rfl
    (fun f fn hf hfn => by
      obtain rfl : f = 6 := Option.some.inj ((show Tryd.prog.funcNamed "erasure/erasurelaw01.ValueCompare" = some 6 by kernel_rfl).symm.trans hf) |>.symm
      obtain rfl : fn = Tryd.f6 := (Option.some.inj (Tryd.func6.symm.trans hfn)).symm
      exact ⟨by kernel_rfl, fun j t ht => by
        have hm : t ∈ [27, 27] := by
          have h1 := Array.mem_of_getElem? ht
          have h2 : Tryd.f6.params = #[27, 27] := by kernel_rfl
          rw [h2] at h1
          simpa using h1
        have hall : ([27, 27].all fun u => !Tryd.prog.wantsStandIn u) = true := by kernel_rfl
        exact (show Tryd.prog.wantsStandIn t = false by simpa using List.all_eq_true.1 hall t hm)⟩)
    (by kernel_rfl)

end Go.Proofs.YtfnehcadocfmoaaDoor
