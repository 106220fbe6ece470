/- Printed by a tool of mine: plain functions, their equations and contracts. -/
import Derived.Test.YtjmpecjcnmdnaaaG3
set_option linter.unusedVariables false
set_option linter.unusedSimpArgs false

namespace Go.Proofs.SmG
open Go Go.Ev
/-! 12 erasure/erasurelaw39.SignatureVerifies -/
abbrev i12 : Type := List Int × Rows × Int × Rows × Int × Int × Rows
def enc12 : i12 → CSt := fun a => ([Go.Ev.SV.agg (Go.Ev.pkS Go.IntKind.u8 a.1 (32 : Nat)), Go.Ev.SV.one (Go.Ev.SL.d (Go.Ev.DL.lst (5 : Nat) a.2.1)), Go.Ev.SV.agg [Go.Ev.SL.d (Go.Ev.DL.int Go.IntKind.i64 a.2.2.1), Go.Ev.SL.d (Go.Ev.DL.lst (25 : Nat) a.2.2.2.1), Go.Ev.SL.d (Go.Ev.DL.int Go.IntKind.i64 a.2.2.2.2.1), Go.Ev.SL.d (Go.Ev.DL.int Go.IntKind.i64 a.2.2.2.2.2.1), Go.Ev.SL.d (Go.Ev.DL.lst (25 : Nat) a.2.2.2.2.2.2)]], [])
def dec12 : (c : CSt) → Option { a : i12 // c = enc12 a }
  | ([Go.Ev.SV.agg [Go.Ev.SL.d (Go.Ev.DL.int Go.IntKind.u8 x1_0), Go.Ev.SL.d (Go.Ev.DL.int Go.IntKind.u8 x1_1), Go.Ev.SL.d (Go.Ev.DL.int Go.IntKind.u8 x1_2), Go.Ev.SL.d (Go.Ev.DL.int Go.IntKind.u8 x1_3), Go.Ev.SL.d (Go.Ev.DL.int Go.IntKind.u8 x1_4), Go.Ev.SL.d (Go.Ev.DL.int Go.IntKind.u8 x1_5), Go.Ev.SL.d (Go.Ev.DL.int Go.IntKind.u8 x1_6), Go.Ev.SL.d (Go.Ev.DL.int Go.IntKind.u8 x1_7), Go.Ev.SL.d (Go.Ev.DL.int Go.IntKind.u8 x1_8), Go.Ev.SL.d (Go.Ev.DL.int Go.IntKind.u8 x1_9), Go.Ev.SL.d (Go.Ev.DL.int Go.IntKind.u8 x1_10), Go.Ev.SL.d (Go.Ev.DL.int Go.IntKind.u8 x1_11), Go.Ev.SL.d (Go.Ev.DL.int Go.IntKind.u8 x1_12), Go.Ev.SL.d (Go.Ev.DL.int Go.IntKind.u8 x1_13), Go.Ev.SL.d (Go.Ev.DL.int Go.IntKind.u8 x1_14), Go.Ev.SL.d (Go.Ev.DL.int Go.IntKind.u8 x1_15), Go.Ev.SL.d (Go.Ev.DL.int Go.IntKind.u8 x1_16), Go.Ev.SL.d (Go.Ev.DL.int Go.IntKind.u8 x1_17), Go.Ev.SL.d (Go.Ev.DL.int Go.IntKind.u8 x1_18), Go.Ev.SL.d (Go.Ev.DL.int Go.IntKind.u8 x1_19), Go.Ev.SL.d (Go.Ev.DL.int Go.IntKind.u8 x1_20), Go.Ev.SL.d (Go.Ev.DL.int Go.IntKind.u8 x1_21), Go.Ev.SL.d (Go.Ev.DL.int Go.IntKind.u8 x1_22), Go.Ev.SL.d (Go.Ev.DL.int Go.IntKind.u8 x1_23), Go.Ev.SL.d (Go.Ev.DL.int Go.IntKind.u8 x1_24), Go.Ev.SL.d (Go.Ev.DL.int Go.IntKind.u8 x1_25), Go.Ev.SL.d (Go.Ev.DL.int Go.IntKind.u8 x1_26), Go.Ev.SL.d (Go.Ev.DL.int Go.IntKind.u8 x1_27), Go.Ev.SL.d (Go.Ev.DL.int Go.IntKind.u8 x1_28), Go.Ev.SL.d (Go.Ev.DL.int Go.IntKind.u8 x1_29), Go.Ev.SL.d (Go.Ev.DL.int Go.IntKind.u8 x1_30), Go.Ev.SL.d (Go.Ev.DL.int Go.IntKind.u8 x1_31)], Go.Ev.SV.one (Go.Ev.SL.d (Go.Ev.DL.lst (5 : Nat) x2)), Go.Ev.SV.agg [Go.Ev.SL.d (Go.Ev.DL.int Go.IntKind.i64 x3), Go.Ev.SL.d (Go.Ev.DL.lst (25 : Nat) x4), Go.Ev.SL.d (Go.Ev.DL.int Go.IntKind.i64 x5), Go.Ev.SL.d (Go.Ev.DL.int Go.IntKind.i64 x6), Go.Ev.SL.d (Go.Ev.DL.lst (25 : Nat) x7)]], []) => some ⟨([x1_0, x1_1, x1_2, x1_3, x1_4, x1_5, x1_6, x1_7, x1_8, x1_9, x1_10, x1_11, x1_12, x1_13, x1_14, x1_15, x1_16, x1_17, x1_18, x1_19, x1_20, x1_21, x1_22, x1_23, x1_24, x1_25, x1_26, x1_27, x1_28, x1_29, x1_30, x1_31], x2, x3, x4, x5, x6, x7), rfl⟩
  | _ => none
abbrev o12 : Type := Bool
def ret12 : o12 → CSt := fun b => ([Go.Ev.SV.one (Go.Ev.SL.d (Go.Ev.DL.bool b))], [])
def retK12 {R : Type} (K : CSt → Option R) : o12 → Option R := fun b => K (([Go.Ev.SV.one (Go.Ev.SL.d (Go.Ev.DL.bool b))], []))
theorem retK12_eq {R : Type} (K : CSt → Option R) (b : o12) : retK12 K b = K (ret12 b) := rfl
abbrev Sd12 (f : i12 → Option o12) : Prop := ∀ a b, f a = some b → CallOk Try.prog 12 (enc12 a) (ret12 b)
def ent12 (f : i12 → Option o12) : Ent := mkEnt 12 dec12 ret12 retK12 retK12_eq f
def ann12 : Nat → List Nat × List Nat := fun id => ([], [])
def br12 : FuncId → Bool := fun (g : Nat) => ([67, 72] : List Nat).any (Nat.beq g)
def ar12 : TypeId → Bool := fun (t : Nat) => ([24, 25, 79, 82] : List Nat).any (Nat.beq t)
noncomputable def t12 {R : Type} (sh : Sh) (f28 : i28 → Option o28) (f32 : i32 → Option o32) (f33 : i33 → Option o33) (x1 : List Int) (x2 : Rows) (x3 : Int) (x4 : Rows) (x5 : Int) (x6 : Int) (x7 : Rows) (k : o12 → Option R) : Option R :=
  sh (Go.Ev.colD (Go.Ev.mapD Go.IntKind.u8 (Go.Ev.pkL x1 (32 : Nat))) : Rows) fun y1 =>
  sh ((↑(List.length x2) : Int)) fun y2 =>
  bif Decidable.decide (y2 > (200 : Int)) then
    (f28 ()).bind fun (r3 : Bool) =>
    k (r3)
  else
    sh ((↑(List.length x4) : Int)) fun y4 =>
    bif Decidable.decide (y4 > (40 : Int)) then
      (f28 ()).bind fun (r5 : Bool) =>
      k (r5)
    else
      sh ((↑(List.length x7) : Int)) fun y6 =>
      bif Decidable.decide (y6 > (20 : Int)) then
        (f28 ()).bind fun (r7 : Bool) =>
        k (r7)
      else
        bif Decidable.decide (List.length y1 = (32 : Nat)) then
          (f32 (Go.Ev.colI y1 (32 : Nat), x2, x3, x4, x5, x6, x7)).bind fun (r8 : Bool) =>
          bif Decidable.decide (List.length y1 = (32 : Nat)) then
            (f33 (Go.Ev.colI y1 (32 : Nat), x2, x3, x4, x5, x6, x7)).bind fun (r9 : Bool) =>
            bif r8 == r9 then
              (f28 ()).bind fun (r10 : Bool) =>
              k (r10)
            else
              k (Bool.false)
          else none
        else none
theorem t12_eq {R : Type} (sh : Sh) (hsh : ∀ {α R : Type} (x : α) (K : α → Option R), sh x K = K x) (f28 : i28 → Option o28) (f32 : i32 → Option o32) (f33 : i33 → Option o33) (x1 : List Int) (x2 : Rows) (x3 : Int) (x4 : Rows) (x5 : Int) (x6 : Int) (x7 : Rows) (K : CSt → Option R) : bodyK Try.prog (tabO sh hsh br12 ar12 [ent28 f28, ent32 f32, ent33 f33]) (tabL []) ann12 false Try.f12 (enc12 (x1, x2, x3, x4, x5, x6, x7)) K = t12 sh f28 f32 f33 x1 x2 x3 x4 x5 x6 x7 (retK12 K) := by kernel_rfl
theorem t12_law {R : Type} (f28 : i28 → Option o28) (f32 : i32 → Option o32) (f33 : i33 → Option o33) (x1 : List Int) (x2 : Rows) (x3 : Int) (x4 : Rows) (x5 : Int) (x6 : Int) (x7 : Rows) (K : o12 → Option R) : t12 sh0 f28 f32 f33 x1 x2 x3 x4 x5 x6 x7 K = (t12 sh0 f28 f32 f33 x1 x2 x3 x4 x5 x6 x7 some).bind K := by
  simp only [t12, sh0, cond_bind', two_bind, none_bind', Option.bind_assoc, Option.bind_some]
theorem ok12 (f28 : i28 → Option o28) (f32 : i32 → Option o32) (f33 : i33 → Option o33) (hf28 : Sd28 f28) (hf32 : Sd32 f32) (hf33 : Sd33 f33) : Sd12 (fun a => t12 sh0 f28 f32 f33 a.1 a.2.1 a.2.2.1 a.2.2.2.1 a.2.2.2.2.1 a.2.2.2.2.2.1 a.2.2.2.2.2.2 some) := by
  intro a b h
  refine call_ok (sh := sh0) (hsh := fun _ _ => rfl) (br := br12) (ar := ar12) (own := false) Try.mixed Try.func12 (by kernel_rfl) (.cons (mkEnt_ok hf28) (.cons (mkEnt_ok hf32) (.cons (mkEnt_ok hf33) .nil))) (fun nt => .nil) ((t12_eq sh0 (fun _ _ => rfl) f28 f32 f33 a.1 a.2.1 a.2.2.1 a.2.2.2.1 a.2.2.2.2.1 a.2.2.2.2.2.1 a.2.2.2.2.2.2 _).trans ?_)
  rw [t12_law]
  simp only at h
  rw [h, Option.bind_some, retK12_eq]

end Go.Proofs.SmG
