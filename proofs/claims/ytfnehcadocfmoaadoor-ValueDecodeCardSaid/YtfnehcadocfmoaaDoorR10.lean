/- ValueDecode: DecodeRow agrees with the definition: the law returns true for every list of numbers and every string. Its conditions: the listed variables of the library read as the program's own text lays them, which the card ties. -/
import Derived.Test.YtfnehcadocfmoaaDoorQ9
import Derived.Test.YtfnehcadocfmoaaDoorQ4
import Derived.Test.YtfnehcadocfmoaaDoorC1
import Derived.Test.YtfnehcadocfmoaaDoorTie
import Derived.Test.YtfnehcadocfmoaaDoorCards
import Derived.SevenTiedAt
set_option linter.unusedVariables false
set_option linter.unusedSimpArgs false

namespace Go.Proofs.YtfnehcadocfmoaaDoor
open Go Go.Ev Go.Proofs.VaG Go.Proofs.Val


theorem opens (xss : List (List DL)) (h : All2 (ArgOk Tryd.prog SS VV) Tryd.f10.params.toList xss) : ∃ a : i10, (argCs Tryd.prog Tryd.f10.params.toList xss, []) = enc10 a ∧ (fun a => isTape a.1) a := by
  have e0 : Tryd.f10.params.toList = [35, 9] := by kernel_rfl
  rw [e0] at h ⊢
  obtain ⟨xs0, r0, rfl, h0, h⟩ := h.cons_inv
  obtain ⟨xs1, r1, rfl, h1, h⟩ := h.cons_inv
  obtain rfl := h.nil_inv
  have l0 := h0.leaves (ks := [.slice 3]) (by kernel_rfl)
  obtain ⟨x0, _, rfl, k0, l0⟩ := l0.cons_inv
  obtain rfl := l0.nil_inv
  have l1 := h1.leaves (ks := [.str]) (by kernel_rfl)
  obtain ⟨x1, _, rfl, k1, l1⟩ := l1.cons_inv
  obtain rfl := l1.nil_inv
  obtain ⟨n0, rfl, m0, v0, w0⟩ := k0.lst_inv (ks := [.int .i64]) (by kernel_rfl)
  obtain ⟨n1, rfl, m1, s1⟩ := k1.str_inv
  exact ⟨(n0, n1), by kernel_rfl, rwf_tape w0 (by by_cases h : n0 = []; (· subst h; simp); (· have this : n0.length * Tryd.prog.bytesOf 3 ≤ reachBytes := v0 h; rw [show Tryd.prog.bytesOf 3 = 8 by kernel_rfl] at this; exact this))⟩

theorem hcall (xss : List (List DL)) (h : All2 (ArgOk Tryd.prog SS VV) Tryd.f10.params.toList xss) : CallOk Tryd.prog 10 (argCs Tryd.prog Tryd.f10.params.toList xss, []) ([.one (.d (.bool true))], []) := by
  obtain ⟨a, e, hc⟩ := opens xss h
  rw [e]
  exact s10 a true (prt_eq hc)

set_option maxRecDepth 100000 in
theorem lifted (os : Os) (started : os.Started) (H : Type) (enc : TypeId × Value → H) :
    ReturnsInHanded {} Tryd.checked os 10 .any (fun w args => (Rows.valueDecodeSpec.pre enc Tryd.prog Tryd.f10 Rows.valueDecodeRow.domain false w args ∧ laidMetH Tryd.prog laid3 w) ∧ sizedMet enc Tryd.prog Tryd.f10 (OpenSpec.ofChange Rows.valueDecodeSpec) false w args) (Rows.valueDecodeSpec.post enc Tryd.prog Tryd.f10 false true false false) := by
  refine returnsInHanded_of_change_and (C := Tryd.checked) (X := fun w _ => laidMetH Tryd.prog laid3 w) (fun _ _ _ hh h => h.of_heap hh) own started (by kernel_rfl) Tryd.func10
    (ChangeSpec.witness_shaped (enc := enc) (C := Tryd.checked) (os := os) (X := fun w _ => laidMetH Tryd.prog laid3 w) false (World.doorLaid Tryd.prog 400 os) #[.slice none 0 0, .string "".toUTF8] 8 rfl (World.shaped_of_RefB (by kernel_rfl) (by kernel_rfl)) (by kernel_rfl) (by kernel_rfl) (by kernel_rfl) (door_met os _)) ?_
  intro W base args ds gs before hval hW _ hsz hL _
  have hlen := trodAll_len hW.choose_spec.choose_spec.1
  refine law_contract_g laidOut (spec := Rows.valueDecodeSpec) rfl (tb := 4) (by kernel_rfl) Tryd.underlying4 (by kernel_rfl) (fun ds hl => ?_) good_reach hcall (glob_of hL) (fun a h => ⟨h.2, h.1⟩) hval hW (reach_args hsz hlen)
  have hl' : ds.length = 2 := hl
  match ds, hl' with
  | [d0, d1], _ => rfl

theorem valueDecode_row : Rows.ValueDecodeSaid :=
  OpenClaim.holds_of_wide 10 Tryd.f10 rfl rfl rfl rfl rfl rfl rfl ⟨rfl, rfl, rfl, rfl, rfl⟩ rfl rfl rfl rfl rfl (by kernel_rfl) Tryd.func10 (by kernel_rfl)
    (of_decide_eq_true (by kernel_rfl)) (by unfold Func.isWrapper; first | (rw [if_pos (by decide +kernel)]; kernel_rfl) | (rw [if_neg (by decide +kernel)]; exact ⟨rfl, rfl⟩))
    (fun os started H enc _ => lifted os started H enc)

theorem valueDecode_holds : Rows.ValueDecodeCardSaid :=
  Claim7.holds_tied_plain_at .later [] [.data, .data, .data] true (true, "eceabb95b585453313724f40535bd0306dd09887390ced6abe24303f1ffaf82d") true
    valueDecode_row (fun _ h => by cases h) (by kernel_rfl) (fun _ h => by cases h) valueDecode_row_tie rfl ⟨rfl, rfl⟩ (by kernel_rfl) rfl
    (fun f fn hf hfn => by
      obtain rfl : f = 10 := Option.some.inj ((show Tryd.prog.funcNamed "erasure/erasurelaw01.ValueDecode" = some 10 by kernel_rfl).symm.trans hf) |>.symm
      obtain rfl : fn = Tryd.f10 := (Option.some.inj (Tryd.func10.symm.trans hfn)).symm
      exact ⟨by kernel_rfl, fun j t ht => by
        have hm : t ∈ [35, 9] := by
          have h1 := Array.mem_of_getElem? ht
          have h2 : Tryd.f10.params = #[35, 9] := by kernel_rfl
          rw [h2] at h1
          simpa using h1
        have hall : ([35, 9].all fun u => !Tryd.prog.wantsStandIn u) = true := by kernel_rfl
        exact (show Tryd.prog.wantsStandIn t = false by simpa using List.all_eq_true.1 hall t hm)⟩)
    (by kernel_rfl)

end Go.Proofs.YtfnehcadocfmoaaDoor
