/- ValueEmbeds: EncodeRow keeps the order of valid rows: the law returns true for every list of numbers. Its conditions: the listed variables of the library read as the program's own text lays them, which the card ties. -/
import Derived.Test.YtfnehcadocfmoaaDoorQ6
import Derived.Test.YtfnehcadocfmoaaDoorQ4
import Derived.Test.YtfnehcadocfmoaaDoorC1
import Derived.Test.YtfnehcadocfmoaaDoorTie
import Derived.Test.YtfnehcadocfmoaaDoorCards
import Derived.SevenTiedAt
set_option linter.unusedVariables false
set_option linter.unusedSimpArgs false

namespace Go.Proofs.YtfnehcadocfmoaaDoor
open Go Go.Ev Go.Proofs.VaG Go.Proofs.Val


theorem opens (xss : List (List DL)) (h : All2 (ArgOk Tryd.prog SS VV) Tryd.f8.params.toList xss) : ∃ a : i8, (argCs Tryd.prog Tryd.f8.params.toList xss, []) = enc8 a ∧ (fun a => isTape a) a := by
  have e0 : Tryd.f8.params.toList = [35] := by kernel_rfl
  rw [e0] at h ⊢
  obtain ⟨xs0, r0, rfl, h0, h⟩ := h.cons_inv
  obtain rfl := h.nil_inv
  have l0 := h0.leaves (ks := [.slice 3]) (by kernel_rfl)
  obtain ⟨x0, _, rfl, k0, l0⟩ := l0.cons_inv
  obtain rfl := l0.nil_inv
  obtain ⟨n0, rfl, m0, v0, w0⟩ := k0.lst_inv (ks := [.int .i64]) (by kernel_rfl)
  exact ⟨n0, by kernel_rfl, rwf_tape w0 (by by_cases h : n0 = []; (· subst h; simp); (· have this : n0.length * Tryd.prog.bytesOf 3 ≤ reachBytes := v0 h; rw [show Tryd.prog.bytesOf 3 = 8 by kernel_rfl] at this; exact this))⟩

theorem hcall (xss : List (List DL)) (h : All2 (ArgOk Tryd.prog SS VV) Tryd.f8.params.toList xss) : CallOk Tryd.prog 8 (argCs Tryd.prog Tryd.f8.params.toList xss, []) ([.one (.d (.bool true))], []) := by
  obtain ⟨a, e, hc⟩ := opens xss h
  rw [e]
  exact s8 a true (prt_eq hc)

set_option maxRecDepth 100000 in
theorem lifted (os : Os) (started : os.Started) (H : Type) (enc : TypeId × Value → H) :
    ReturnsInHanded {} Tryd.checked os 8 .any (fun w args => (Rows.valueEmbedsSpec.pre enc Tryd.prog Tryd.f8 Rows.valueEmbedsRow.domain false w args ∧ laidMetH Tryd.prog laid3 w) ∧ sizedMet enc Tryd.prog Tryd.f8 (OpenSpec.ofChange Rows.valueEmbedsSpec) false w args) (Rows.valueEmbedsSpec.post enc Tryd.prog Tryd.f8 false true false false) := by
  refine returnsInHanded_of_change_and (C := Tryd.checked) (X := fun w _ => laidMetH Tryd.prog laid3 w) (fun _ _ _ hh h => h.of_heap hh) own started (by kernel_rfl) Tryd.func8
    (ChangeSpec.witness_shaped (enc := enc) (C := Tryd.checked) (os := os) (X := fun w _ => laidMetH Tryd.prog laid3 w) false (World.doorLaid Tryd.prog 400 os) #[.slice none 0 0] 8 rfl (World.shaped_of_RefB (by kernel_rfl) (by kernel_rfl)) (by kernel_rfl) (by kernel_rfl) (by kernel_rfl) (door_met os _)) ?_
  intro W base args ds gs before hval hW _ hsz hL _
  have hlen := trodAll_len hW.choose_spec.choose_spec.1
  refine law_contract_g laidOut (spec := Rows.valueEmbedsSpec) rfl (tb := 4) (by kernel_rfl) Tryd.underlying4 (by kernel_rfl) (fun ds hl => ?_) good_reach hcall (glob_of hL) (fun a h => ⟨h.2, h.1⟩) hval hW (reach_args hsz hlen)
  have hl' : ds.length = 1 := hl
  match ds, hl' with
  | [d0], _ => rfl

theorem valueEmbeds_row : Rows.ValueEmbedsSaid :=
  OpenClaim.holds_of_wide 8 Tryd.f8 rfl rfl rfl rfl rfl rfl rfl ⟨rfl, rfl, rfl, rfl, rfl⟩ rfl rfl rfl rfl rfl (by kernel_rfl) Tryd.func8 (by kernel_rfl)
    (of_decide_eq_true (by kernel_rfl)) (by unfold Func.isWrapper; first | (rw [if_pos (by decide +kernel)]; kernel_rfl) | (rw [if_neg (by decide +kernel)]; exact ⟨rfl, rfl⟩))
    (fun os started H enc _ => lifted os started H enc)

theorem valueEmbeds_holds : Rows.ValueEmbedsCardSaid :=
  Claim7.holds_tied_plain_at .later [] [.data, .data, .data] true (true, "eceabb95b585453313724f40535bd0306dd09887390ced6abe24303f1ffaf82d") true
    valueEmbeds_row (fun _ h => by cases h) (by kernel_rfl) (fun _ h => by cases h) valueEmbeds_row_tie rfl ⟨rfl, rfl⟩ (by kernel_rfl) rfl
    (fun f fn hf hfn => by
      obtain rfl : f = 8 := Option.some.inj ((show Tryd.prog.funcNamed "erasure/erasurelaw01.ValueEmbeds" = some 8 by kernel_rfl).symm.trans hf) |>.symm
      obtain rfl : fn = Tryd.f8 := (Option.some.inj (Tryd.func8.symm.trans hfn)).symm
      exact ⟨by kernel_rfl, fun j t ht => by
        have hm : t ∈ [35] := by
          have h1 := Array.mem_of_getElem? ht
          have h2 : Tryd.f8.params = #[35] := by kernel_rfl
          rw [h2] at h1
          simpa using h1
        have hall : ([35].all fun u => !Tryd.prog.wantsStandIn u) = true := by kernel_rfl
        exact (show Tryd.prog.wantsStandIn t = false by simpa using List.all_eq_true.1 hall t hm)⟩)
    (by kernel_rfl)

end Go.Proofs.YtfnehcadocfmoaaDoor
