/- SignatureVerifies: Verify agrees with the specification for arbitrary signatures: the law returns true for all arguments. Its condition: none. -/
import Derived.Test.YtjmpecjcnmdnaaaQ
import Derived.Test.YtjmpecjcnmdnaaaRows
import Derived.SizedLaws
set_option linter.unusedVariables false
set_option linter.unusedSimpArgs false

namespace Go.Proofs.Ytjmpecjcnmdnaaa
open Go Go.Ev Go.Proofs.SmG Go.Proofs.Dig

theorem own : ownKnob Try.prog.godebug = none := by kernel_rfl
theorem laidOut : laidOutB Try.prog = true := by kernel_rfl

abbrev SS : Nat → Prop := fun n => n ≤ reachBytes
abbrev VV : TypeId → Nat → Prop := fun e n => n * Try.prog.bytesOf e ≤ reachBytes


theorem opens (xss : List (List DL)) (h : All2 (ArgOk Try.prog SS VV) Try.f12.params.toList xss) : ∃ a : i12, (argCs Try.prog Try.f12.params.toList xss, []) = enc12 a ∧ (fun a => p12 a) a := by
  have e0 : Try.f12.params.toList = [25, 42, 49] := by kernel_rfl
  rw [e0] at h ⊢
  obtain ⟨xs0, r0, rfl, h0, h⟩ := h.cons_inv
  obtain ⟨xs1, r1, rfl, h1, h⟩ := h.cons_inv
  obtain ⟨xs2, r2, rfl, h2, h⟩ := h.cons_inv
  obtain rfl := h.nil_inv
  have l0 := h0.leaves (ks := [.int .u8, .int .u8, .int .u8, .int .u8, .int .u8, .int .u8, .int .u8, .int .u8, .int .u8, .int .u8, .int .u8, .int .u8, .int .u8, .int .u8, .int .u8, .int .u8, .int .u8, .int .u8, .int .u8, .int .u8, .int .u8, .int .u8, .int .u8, .int .u8, .int .u8, .int .u8, .int .u8, .int .u8, .int .u8, .int .u8, .int .u8, .int .u8]) (by kernel_rfl)
  obtain ⟨x0, _, rfl, k0, l0⟩ := l0.cons_inv
  obtain ⟨x1, _, rfl, k1, l0⟩ := l0.cons_inv
  obtain ⟨x2, _, rfl, k2, l0⟩ := l0.cons_inv
  obtain ⟨x3, _, rfl, k3, l0⟩ := l0.cons_inv
  obtain ⟨x4, _, rfl, k4, l0⟩ := l0.cons_inv
  obtain ⟨x5, _, rfl, k5, l0⟩ := l0.cons_inv
  obtain ⟨x6, _, rfl, k6, l0⟩ := l0.cons_inv
  obtain ⟨x7, _, rfl, k7, l0⟩ := l0.cons_inv
  obtain ⟨x8, _, rfl, k8, l0⟩ := l0.cons_inv
  obtain ⟨x9, _, rfl, k9, l0⟩ := l0.cons_inv
  obtain ⟨x10, _, rfl, k10, l0⟩ := l0.cons_inv
  obtain ⟨x11, _, rfl, k11, l0⟩ := l0.cons_inv
  obtain ⟨x12, _, rfl, k12, l0⟩ := l0.cons_inv
  obtain ⟨x13, _, rfl, k13, l0⟩ := l0.cons_inv
  obtain ⟨x14, _, rfl, k14, l0⟩ := l0.cons_inv
  obtain ⟨x15, _, rfl, k15, l0⟩ := l0.cons_inv
  obtain ⟨x16, _, rfl, k16, l0⟩ := l0.cons_inv
  obtain ⟨x17, _, rfl, k17, l0⟩ := l0.cons_inv
  obtain ⟨x18, _, rfl, k18, l0⟩ := l0.cons_inv
  obtain ⟨x19, _, rfl, k19, l0⟩ := l0.cons_inv
  obtain ⟨x20, _, rfl, k20, l0⟩ := l0.cons_inv
  obtain ⟨x21, _, rfl, k21, l0⟩ := l0.cons_inv
  obtain ⟨x22, _, rfl, k22, l0⟩ := l0.cons_inv
  obtain ⟨x23, _, rfl, k23, l0⟩ := l0.cons_inv
  obtain ⟨x24, _, rfl, k24, l0⟩ := l0.cons_inv
  obtain ⟨x25, _, rfl, k25, l0⟩ := l0.cons_inv
  obtain ⟨x26, _, rfl, k26, l0⟩ := l0.cons_inv
  obtain ⟨x27, _, rfl, k27, l0⟩ := l0.cons_inv
  obtain ⟨x28, _, rfl, k28, l0⟩ := l0.cons_inv
  obtain ⟨x29, _, rfl, k29, l0⟩ := l0.cons_inv
  obtain ⟨x30, _, rfl, k30, l0⟩ := l0.cons_inv
  obtain ⟨x31, _, rfl, k31, l0⟩ := l0.cons_inv
  obtain rfl := l0.nil_inv
  have l1 := h1.leaves (ks := [.slice 5]) (by kernel_rfl)
  obtain ⟨x32, _, rfl, k32, l1⟩ := l1.cons_inv
  obtain rfl := l1.nil_inv
  have l2 := h2.leaves (ks := [.int .i64, .slice 25, .int .i64, .int .i64, .slice 25]) (by kernel_rfl)
  obtain ⟨x33, _, rfl, k33, l2⟩ := l2.cons_inv
  obtain ⟨x34, _, rfl, k34, l2⟩ := l2.cons_inv
  obtain ⟨x35, _, rfl, k35, l2⟩ := l2.cons_inv
  obtain ⟨x36, _, rfl, k36, l2⟩ := l2.cons_inv
  obtain ⟨x37, _, rfl, k37, l2⟩ := l2.cons_inv
  obtain rfl := l2.nil_inv
  obtain ⟨n0, rfl, b0⟩ := k0.int_inv
  obtain ⟨n1, rfl, b1⟩ := k1.int_inv
  obtain ⟨n2, rfl, b2⟩ := k2.int_inv
  obtain ⟨n3, rfl, b3⟩ := k3.int_inv
  obtain ⟨n4, rfl, b4⟩ := k4.int_inv
  obtain ⟨n5, rfl, b5⟩ := k5.int_inv
  obtain ⟨n6, rfl, b6⟩ := k6.int_inv
  obtain ⟨n7, rfl, b7⟩ := k7.int_inv
  obtain ⟨n8, rfl, b8⟩ := k8.int_inv
  obtain ⟨n9, rfl, b9⟩ := k9.int_inv
  obtain ⟨n10, rfl, b10⟩ := k10.int_inv
  obtain ⟨n11, rfl, b11⟩ := k11.int_inv
  obtain ⟨n12, rfl, b12⟩ := k12.int_inv
  obtain ⟨n13, rfl, b13⟩ := k13.int_inv
  obtain ⟨n14, rfl, b14⟩ := k14.int_inv
  obtain ⟨n15, rfl, b15⟩ := k15.int_inv
  obtain ⟨n16, rfl, b16⟩ := k16.int_inv
  obtain ⟨n17, rfl, b17⟩ := k17.int_inv
  obtain ⟨n18, rfl, b18⟩ := k18.int_inv
  obtain ⟨n19, rfl, b19⟩ := k19.int_inv
  obtain ⟨n20, rfl, b20⟩ := k20.int_inv
  obtain ⟨n21, rfl, b21⟩ := k21.int_inv
  obtain ⟨n22, rfl, b22⟩ := k22.int_inv
  obtain ⟨n23, rfl, b23⟩ := k23.int_inv
  obtain ⟨n24, rfl, b24⟩ := k24.int_inv
  obtain ⟨n25, rfl, b25⟩ := k25.int_inv
  obtain ⟨n26, rfl, b26⟩ := k26.int_inv
  obtain ⟨n27, rfl, b27⟩ := k27.int_inv
  obtain ⟨n28, rfl, b28⟩ := k28.int_inv
  obtain ⟨n29, rfl, b29⟩ := k29.int_inv
  obtain ⟨n30, rfl, b30⟩ := k30.int_inv
  obtain ⟨n31, rfl, b31⟩ := k31.int_inv
  obtain ⟨n32, rfl, m32, v32, w32⟩ := k32.lst_inv (ks := [.int .u8]) (by kernel_rfl)
  obtain ⟨n33, rfl, b33⟩ := k33.int_inv
  obtain ⟨n34, rfl, m34, v34, w34⟩ := k34.lst_inv (ks := [.int .u8, .int .u8, .int .u8, .int .u8, .int .u8, .int .u8, .int .u8, .int .u8, .int .u8, .int .u8, .int .u8, .int .u8, .int .u8, .int .u8, .int .u8, .int .u8, .int .u8, .int .u8, .int .u8, .int .u8, .int .u8, .int .u8, .int .u8, .int .u8, .int .u8, .int .u8, .int .u8, .int .u8, .int .u8, .int .u8, .int .u8, .int .u8]) (by kernel_rfl)
  obtain ⟨n35, rfl, b35⟩ := k35.int_inv
  obtain ⟨n36, rfl, b36⟩ := k36.int_inv
  obtain ⟨n37, rfl, m37, v37, w37⟩ := k37.lst_inv (ks := [.int .u8, .int .u8, .int .u8, .int .u8, .int .u8, .int .u8, .int .u8, .int .u8, .int .u8, .int .u8, .int .u8, .int .u8, .int .u8, .int .u8, .int .u8, .int .u8, .int .u8, .int .u8, .int .u8, .int .u8, .int .u8, .int .u8, .int .u8, .int .u8, .int .u8, .int .u8, .int .u8, .int .u8, .int .u8, .int .u8, .int .u8, .int .u8]) (by kernel_rfl)
  exact ⟨([n0, n1, n2, n3, n4, n5, n6, n7, n8, n9, n10, n11, n12, n13, n14, n15, n16, n17, n18, n19, n20, n21, n22, n23, n24, n25, n26, n27, n28, n29, n30, n31], n32, n33, n34, n35, n36, n37), by kernel_rfl, ⟨pack_nI _ (by simp only [List.forall_mem_cons]; exact ⟨u8I b0, u8I b1, u8I b2, u8I b3, u8I b4, u8I b5, u8I b6, u8I b7, u8I b8, u8I b9, u8I b10, u8I b11, u8I b12, u8I b13, u8I b14, u8I b15, u8I b16, u8I b17, u8I b18, u8I b19, u8I b20, u8I b21, u8I b22, u8I b23, u8I b24, u8I b25, u8I b26, u8I b27, u8I b28, u8I b29, u8I b30, u8I b31, by simp⟩), rwf_R w32, rwf_DR rfl w34, rwf_DR rfl w37⟩⟩

theorem hcall (xss : List (List DL)) (h : All2 (ArgOk Try.prog SS VV) Try.f12.params.toList xss) : CallOk Try.prog 12 (argCs Try.prog Try.f12.params.toList xss, []) ([.one (.d (.bool true))], []) := by
  obtain ⟨a, e, hc⟩ := opens xss h
  rw [e]
  exact s12 a true (prt_eq hc)

set_option maxRecDepth 100000 in
theorem lifted (os : Os) (started : os.Started) (H : Type) (enc : TypeId × Value → H) :
    ReturnsInHanded {} Try.checked os 12 .any (Rows.signatureVerifiesSpec.pre6 enc Try.prog Try.f12 Rows.signatureVerifiesRow.domain false) (Rows.signatureVerifiesSpec.post enc Try.prog Try.f12 false true false false) := by
  refine returnsInHanded_of_change_sized (C := Try.checked) own started (by kernel_rfl) Try.func12
    (ChangeSpec.witness6 (enc := enc) (C := Try.checked) false ⟨#[], #[.agg #[.int .u8 0, .int .u8 0, .int .u8 0, .int .u8 0, .int .u8 0, .int .u8 0, .int .u8 0, .int .u8 0, .int .u8 0, .int .u8 0, .int .u8 0, .int .u8 0, .int .u8 0, .int .u8 0, .int .u8 0, .int .u8 0, .int .u8 0, .int .u8 0, .int .u8 0, .int .u8 0, .int .u8 0, .int .u8 0, .int .u8 0, .int .u8 0, .int .u8 0, .int .u8 0, .int .u8 0, .int .u8 0, .int .u8 0, .int .u8 0, .int .u8 0, .int .u8 0], .slice none 0 0, .agg #[.int .i64 0, .slice none 0 0, .int .i64 0, .int .i64 0, .slice none 0 0]], []⟩ 8 (by kernel_rfl) (by kernel_rfl) (by kernel_rfl) (by kernel_rfl)) ?_
  intro W base args ds gs before hval hW _ hsz _
  have hlen := trodAll_len hW.choose_spec.choose_spec.1
  refine law_contract laidOut (spec := Rows.signatureVerifiesSpec) rfl (tb := 4) (by kernel_rfl) Try.underlying4 (by kernel_rfl) (fun ds hl => ?_) good_reach hcall hval hW (reach_args hsz hlen)
  have hl' : ds.length = 3 := hl
  match ds, hl' with
  | [d0, d1, d2], _ => rfl

theorem signatureVerifies_holds : Rows.SignatureVerifiesSaid :=
  OpenClaim.holds_of_wide 12 Try.f12 rfl rfl rfl rfl rfl rfl rfl ⟨rfl, rfl, rfl, rfl, rfl⟩ rfl rfl rfl rfl rfl (by kernel_rfl) Try.func12 (by kernel_rfl)
    (of_decide_eq_true (by kernel_rfl)) (by unfold Func.isWrapper; first | (rw [if_pos (by decide +kernel)]; kernel_rfl) | (rw [if_neg (by decide +kernel)]; exact ⟨rfl, rfl⟩))
    (fun os started H enc _ => lifted os started H enc)

end Go.Proofs.Ytjmpecjcnmdnaaa
