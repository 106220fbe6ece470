/- Printed by a tool of mine: plain functions, their equations and contracts. -/
import Derived.Test.YtjmpecjcnmdnaaaG3
set_option linter.unusedVariables false
set_option linter.unusedSimpArgs false

namespace Go.Proofs.SmG
open Go Go.Ev
/-! 11 erasure/erasurelaw39.SignatureChecks -/
abbrev i11 : Type := Rows × Rows
def enc11 : i11 → CSt := fun a => ([Go.Ev.SV.one (Go.Ev.SL.d (Go.Ev.DL.lst (5 : Nat) a.1)), Go.Ev.SV.one (Go.Ev.SL.d (Go.Ev.DL.lst (5 : Nat) a.2))], [])
def dec11 : (c : CSt) → Option { a : i11 // c = enc11 a }
  | ([Go.Ev.SV.one (Go.Ev.SL.d (Go.Ev.DL.lst (5 : Nat) x1)), Go.Ev.SV.one (Go.Ev.SL.d (Go.Ev.DL.lst (5 : Nat) x2))], []) => some ⟨(x1, x2), rfl⟩
  | _ => none
abbrev o11 : Type := Bool
def ret11 : o11 → CSt := fun b => ([Go.Ev.SV.one (Go.Ev.SL.d (Go.Ev.DL.bool b))], [])
def retK11 {R : Type} (K : CSt → Option R) : o11 → Option R := fun b => K (([Go.Ev.SV.one (Go.Ev.SL.d (Go.Ev.DL.bool b))], []))
theorem retK11_eq {R : Type} (K : CSt → Option R) (b : o11) : retK11 K b = K (ret11 b) := rfl
abbrev Sd11 (f : i11 → Option o11) : Prop := ∀ a b, f a = some b → CallOk Try.prog 11 (enc11 a) (ret11 b)
def ent11 (f : i11 → Option o11) : Ent := mkEnt 11 dec11 ret11 retK11 retK11_eq f
def ann11 : Nat → List Nat × List Nat := fun id => bif Nat.beq id 8 then ([5, 6, 7, 8, 9], [7, 8]) else ([], [])
def br11 : FuncId → Bool := fun (g : Nat) => ([67, 72] : List Nat).any (Nat.beq g)
def ar11 : TypeId → Bool := fun (t : Nat) => ([24, 25, 79, 82] : List Nat).any (Nat.beq t)
abbrev iL11_8 : Type := Rows × Rows × Bool × Bool × Int
def encL11_8 : iL11_8 → CSt := fun a => ([Go.Ev.SV.one (Go.Ev.SL.d (Go.Ev.DL.lst (3 : Nat) a.1)), Go.Ev.SV.one (Go.Ev.SL.d (Go.Ev.DL.lst (3 : Nat) a.2.1)), Go.Ev.SV.one (Go.Ev.SL.d (Go.Ev.DL.bool a.2.2.1)), Go.Ev.SV.one (Go.Ev.SL.d (Go.Ev.DL.bool a.2.2.2.1)), Go.Ev.SV.one (Go.Ev.SL.d (Go.Ev.DL.int Go.IntKind.i64 a.2.2.2.2))], [])
def decL11_8 : (c : CSt) → Option { a : iL11_8 // c = encL11_8 a }
  | ([Go.Ev.SV.one (Go.Ev.SL.d (Go.Ev.DL.lst (3 : Nat) x1)), Go.Ev.SV.one (Go.Ev.SL.d (Go.Ev.DL.lst (3 : Nat) x2)), Go.Ev.SV.one (Go.Ev.SL.d (Go.Ev.DL.bool x3)), Go.Ev.SV.one (Go.Ev.SL.d (Go.Ev.DL.bool x4)), Go.Ev.SV.one (Go.Ev.SL.d (Go.Ev.DL.int Go.IntKind.i64 x5))], []) => some ⟨(x1, x2, x3, x4, x5), rfl⟩
  | _ => none
abbrev oL11_8 : Type := Bool × Bool
def retL11_8 : oL11_8 → Ex × CSt := fun b => (Go.Ev.Ex.exit (0 : Nat), ([Go.Ev.SV.one (Go.Ev.SL.d (Go.Ev.DL.bool b.1)), Go.Ev.SV.one (Go.Ev.SL.d (Go.Ev.DL.bool b.2))], []))
def retKL11_8 {R : Type} (K : Ex → CSt → Option R) : oL11_8 → Option R := fun b => K (Go.Ev.Ex.exit (0 : Nat)) (([Go.Ev.SV.one (Go.Ev.SL.d (Go.Ev.DL.bool b.1)), Go.Ev.SV.one (Go.Ev.SL.d (Go.Ev.DL.bool b.2))], []))
theorem retKL11_8_eq {R : Type} (K : Ex → CSt → Option R) (b : oL11_8) : retKL11_8 K b = K (retL11_8 b).1 (retL11_8 b).2 := rfl
def entL11_8 (l : iL11_8 → Option oL11_8) : LEnt := mkLEnt 8 decL11_8 retL11_8 retKL11_8 retKL11_8_eq l
abbrev SdL11_8 (l : iL11_8 → Option oL11_8) : Prop := ∀ nt a b, l a = some b → LoopAt Try.prog nt 0 ann11 Try.f11 8 (encL11_8 a) (retL11_8 b)
noncomputable def u11_8 {R : Type} (sh : Sh) (l11_8 : iL11_8 → Option oL11_8) (x1 : Rows) (x2 : Rows) (x3 : Bool) (x4 : Bool) (x5 : Int) (k : oL11_8 → Option R) : Option R :=
  bif Decidable.decide (x5 < (35 : Int)) then
    bif x3 then
      bif x4 then
        (l11_8 (x1, x2, Bool.true, Bool.true, Go.IntKind.wrap Go.IntKind.i64 (x5 + (1 : Int)))).bind k
      else
        bif Decidable.decide ((0 : Int) ≤ x5 ∧ x5 < (↑(List.length x1) : Int)) then
          sh (Go.Ev.DL.getI (Go.Ev.cellAt x1 (Int.toNat x5) (0 : Nat))) fun y9 =>
          bif Decidable.decide ((0 : Int) ≤ x5 ∧ x5 < (↑(List.length x2) : Int)) then
            sh (Go.Ev.DL.getI (Go.Ev.cellAt x2 (Int.toNat x5) (0 : Nat))) fun y10 =>
            (l11_8 (x1, x2, Bool.true, Decidable.decide (y9 > y10), Go.IntKind.wrap Go.IntKind.i64 (x5 + (1 : Int)))).bind k
          else none
        else none
    else
      bif Decidable.decide ((0 : Int) ≤ x5 ∧ x5 < (↑(List.length x1) : Int)) then
        sh (Go.Ev.DL.getI (Go.Ev.cellAt x1 (Int.toNat x5) (0 : Nat))) fun y11 =>
        bif Decidable.decide ((0 : Int) ≤ x5 ∧ x5 < (↑(List.length x2) : Int)) then
          sh (Go.Ev.DL.getI (Go.Ev.cellAt x2 (Int.toNat x5) (0 : Nat))) fun y12 =>
          bif x4 then
            (l11_8 (x1, x2, Decidable.decide (y11 < y12), Bool.true, Go.IntKind.wrap Go.IntKind.i64 (x5 + (1 : Int)))).bind k
          else
            bif Decidable.decide ((0 : Int) ≤ x5 ∧ x5 < (↑(List.length x1) : Int)) then
              sh (Go.Ev.DL.getI (Go.Ev.cellAt x1 (Int.toNat x5) (0 : Nat))) fun y13 =>
              bif Decidable.decide ((0 : Int) ≤ x5 ∧ x5 < (↑(List.length x2) : Int)) then
                sh (Go.Ev.DL.getI (Go.Ev.cellAt x2 (Int.toNat x5) (0 : Nat))) fun y14 =>
                (l11_8 (x1, x2, Decidable.decide (y11 < y12), Decidable.decide (y13 > y14), Go.IntKind.wrap Go.IntKind.i64 (x5 + (1 : Int)))).bind k
              else none
            else none
        else none
      else none
  else
    k ((x3, x4))
theorem u11_8_eq {R : Type} (sh : Sh) (hsh : ∀ {α R : Type} (x : α) (K : α → Option R), sh x K = K x) (l11_8 : iL11_8 → Option oL11_8) (x1 : Rows) (x2 : Rows) (x3 : Bool) (x4 : Bool) (x5 : Int) (K : Ex → CSt → Option R) : roundK Try.prog (tabO sh hsh br11 ar11 []) (tabL [entL11_8 l11_8]) ann11 0 Try.f11 8 (encL11_8 (x1, x2, x3, x4, x5)) K = u11_8 sh l11_8 x1 x2 x3 x4 x5 (retKL11_8 K) := by kernel_rfl
theorem u11_8_law {R : Type} (l11_8 : iL11_8 → Option oL11_8) (x1 : Rows) (x2 : Rows) (x3 : Bool) (x4 : Bool) (x5 : Int) (K : oL11_8 → Option R) : u11_8 sh0 l11_8 x1 x2 x3 x4 x5 K = (u11_8 sh0 l11_8 x1 x2 x3 x4 x5 some).bind K := by
  simp only [u11_8, sh0, cond_bind', two_bind, none_bind', Option.bind_assoc, Option.bind_some]
theorem okL11_8 (l11_8 : iL11_8 → Option oL11_8) (hl11_8 : SdL11_8 l11_8) : SdL11_8 (fun a => u11_8 sh0 l11_8 a.1 a.2.1 a.2.2.1 a.2.2.2.1 a.2.2.2.2 some) := by
  intro nt a b h
  refine round_ok (sh := sh0) (hsh := fun _ _ => rfl) (br := br11) (ar := ar11) Try.mixed (by kernel_rfl) .nil (.cons (mkLEnt_ok (hl11_8 nt)) .nil) ((u11_8_eq sh0 (fun _ _ => rfl) l11_8  a.1 a.2.1 a.2.2.1 a.2.2.2.1 a.2.2.2.2 _).trans ?_)
  rw [u11_8_law]
  simp only at h
  rw [h, Option.bind_some, retKL11_8_eq]
noncomputable def t11 {R : Type} (sh : Sh) (f28 : i28 → Option o28) (f29 : i29 → Option o29) (l11_8 : iL11_8 → Option oL11_8) (x1 : Rows) (x2 : Rows) (k : o11 → Option R) : Option R :=
  sh ((↑(List.length x1) : Int)) fun y1 =>
  bif Decidable.decide (y1 > (200 : Int)) then
    (f28 ()).bind fun (r2 : Bool) =>
    k (r2)
  else
    sh ((↑(List.length x2) : Int)) fun y3 =>
    bif Decidable.decide (y3 > (200 : Int)) then
      (f28 ()).bind fun (r4 : Bool) =>
      k (r4)
    else
      (f29 (x1)).bind fun (r5 : Rows) =>
      (f29 (x2)).bind fun (r6 : Rows) =>
      sh ((↑(List.length r5) : Int)) fun y7 =>
      bif y7 != (35 : Int) then
        k (Bool.false)
      else
        sh ((↑(List.length r6) : Int)) fun y8 =>
        bif y8 != (35 : Int) then
          k (Bool.false)
        else
          (l11_8 (r5, r6, Bool.false, Bool.false, (0 : Int))).bind fun (r15 : Bool × Bool) =>
          bif Prod.fst r15 == Prod.snd r15 then
            (f28 ()).bind fun (r16 : Bool) =>
            k (r16)
          else
            k (Bool.false)
theorem t11_eq {R : Type} (sh : Sh) (hsh : ∀ {α R : Type} (x : α) (K : α → Option R), sh x K = K x) (f28 : i28 → Option o28) (f29 : i29 → Option o29) (l11_8 : iL11_8 → Option oL11_8) (x1 : Rows) (x2 : Rows) (K : CSt → Option R) : bodyK Try.prog (tabO sh hsh br11 ar11 [ent28 f28, ent29 f29]) (tabL [entL11_8 l11_8]) ann11 false Try.f11 (enc11 (x1, x2)) K = t11 sh f28 f29 l11_8 x1 x2 (retK11 K) := by kernel_rfl
theorem t11_law {R : Type} (f28 : i28 → Option o28) (f29 : i29 → Option o29) (l11_8 : iL11_8 → Option oL11_8) (x1 : Rows) (x2 : Rows) (K : o11 → Option R) : t11 sh0 f28 f29 l11_8 x1 x2 K = (t11 sh0 f28 f29 l11_8 x1 x2 some).bind K := by
  simp only [t11, sh0, cond_bind', two_bind, none_bind', Option.bind_assoc, Option.bind_some]
theorem ok11 (f28 : i28 → Option o28) (f29 : i29 → Option o29) (l11_8 : iL11_8 → Option oL11_8) (hf28 : Sd28 f28) (hf29 : Sd29 f29) (hl11_8 : SdL11_8 l11_8) : Sd11 (fun a => t11 sh0 f28 f29 l11_8 a.1 a.2 some) := by
  intro a b h
  refine call_ok (sh := sh0) (hsh := fun _ _ => rfl) (br := br11) (ar := ar11) (own := false) Try.mixed Try.func11 (by kernel_rfl) (.cons (mkEnt_ok hf28) (.cons (mkEnt_ok hf29) .nil)) (fun nt => (.cons (mkLEnt_ok (hl11_8 nt)) .nil)) ((t11_eq sh0 (fun _ _ => rfl) f28 f29 l11_8 a.1 a.2 _).trans ?_)
  rw [t11_law]
  simp only at h
  rw [h, Option.bind_some, retK11_eq]

end Go.Proofs.SmG
