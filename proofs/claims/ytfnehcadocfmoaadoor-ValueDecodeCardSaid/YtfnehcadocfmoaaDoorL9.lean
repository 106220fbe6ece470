/- Printed by a tool of mine: plain functions, their equations and contracts. -/
import Derived.Test.YtfnehcadocfmoaaDoorG2
set_option linter.unusedVariables false
set_option linter.unusedSimpArgs false

namespace Go.Proofs.VaG
open Go Go.Ev
/-! 9 erasure/erasurelaw01.ValueEncode -/
abbrev i9 : Type := Rows
def enc9 : i9 → CSt := fun a => ([Go.Ev.SV.one (Go.Ev.SL.d (Go.Ev.DL.lst (23 : Nat) a))], [])
def dec9 : (c : CSt) → Option { a : i9 // c = enc9 a }
  | ([Go.Ev.SV.one (Go.Ev.SL.d (Go.Ev.DL.lst (23 : Nat) x1))], []) => some ⟨x1, rfl⟩
  | _ => none
abbrev o9 : Type := Bool
def ret9 : o9 → CSt := fun b => ([Go.Ev.SV.one (Go.Ev.SL.d (Go.Ev.DL.bool b))], [])
def retK9 {R : Type} (K : CSt → Option R) : o9 → Option R := fun b => K (([Go.Ev.SV.one (Go.Ev.SL.d (Go.Ev.DL.bool b))], []))
theorem retK9_eq {R : Type} (K : CSt → Option R) (b : o9) : retK9 K b = K (ret9 b) := rfl
abbrev Sd9 (f : i9 → Option o9) : Prop := ∀ a b, f a = some b → CallOk Tryd.prog 9 (enc9 a) (ret9 b)
def ent9 (f : i9 → Option o9) : Ent := mkEnt 9 dec9 ret9 retK9 retK9_eq f
def ann9 : Nat → List Nat × List Nat := fun id => ([], [])
def br9 : FuncId → Bool := fun (g : Nat) => ([71] : List Nat).any (Nat.beq g)
def ar9 : TypeId → Bool := fun (t : Nat) => ([88, 91, 97] : List Nat).any (Nat.beq t)
noncomputable def t9 {R : Type} (sh : Sh) (f17 : i17 → Option o17) (f14 : i14 → Option o14) (f33 : i33 → Option o33) (f34 : i34 → Option o34) (f35 : i35 → Option o35) (f36 : i36 → Option o36) (f30 : i30 → Option o30) (x1 : Rows) (k : o9 → Option R) : Option R :=
  (f17 (x1)).bind fun (r1 : Bool) =>
  bif r1 then
    (f14 ()).bind fun (r2 : Bool) =>
    k (r2)
  else
    (f33 (x1)).bind fun (r3 : ByteArray) =>
    (f34 (x1)).bind fun (r4 : ByteArray) =>
    bif !Go.Ev.strEq r3 r4 then
      k (Bool.false)
    else
      (f35 (r3)).bind fun (r5 : Rows × Int) =>
      sh ((↑(List.length x1) : Int)) fun y6 =>
      bif Decidable.decide (y6 > (16 : Int)) then
        bif Prod.snd r5 == (1 : Int) then
          sh ((↑(List.length (Prod.fst r5)) : Int)) fun y7 =>
          bif y7 == (0 : Int) then
            (f14 ()).bind fun (r8 : Bool) =>
            k (r8)
          else
            k (Bool.false)
        else
          k (Bool.false)
      else
        bif Prod.snd r5 == (0 : Int) then
          (f36 (x1)).bind fun (r9 : Rows) =>
          (f30 (Prod.fst r5, r9)).bind fun (r10 : Bool) =>
          bif r10 then
            (f14 ()).bind fun (r11 : Bool) =>
            k (r11)
          else
            k (Bool.false)
        else
          k (Bool.false)
theorem t9_eq {R : Type} (sh : Sh) (hsh : ∀ {α R : Type} (x : α) (K : α → Option R), sh x K = K x) (f17 : i17 → Option o17) (f14 : i14 → Option o14) (f33 : i33 → Option o33) (f34 : i34 → Option o34) (f35 : i35 → Option o35) (f36 : i36 → Option o36) (f30 : i30 → Option o30) (x1 : Rows) (K : CSt → Option R) : bodyK Tryd.prog (tabO sh hsh br9 ar9 [ent17 f17, ent14 f14, ent33 f33, ent34 f34, ent35 f35, ent36 f36, ent30 f30]) (tabL []) ann9 false Tryd.f9 (enc9 x1) K = t9 sh f17 f14 f33 f34 f35 f36 f30 x1 (retK9 K) := by kernel_rfl
theorem t9_law {R : Type} (f17 : i17 → Option o17) (f14 : i14 → Option o14) (f33 : i33 → Option o33) (f34 : i34 → Option o34) (f35 : i35 → Option o35) (f36 : i36 → Option o36) (f30 : i30 → Option o30) (x1 : Rows) (K : o9 → Option R) : t9 sh0 f17 f14 f33 f34 f35 f36 f30 x1 K = (t9 sh0 f17 f14 f33 f34 f35 f36 f30 x1 some).bind K := by
  have key : ∀ (sh : Sh) (_ : ∀ {α R S : Type} (x : α) (f : α → Option R) (K : R → Option S), (sh x f).bind K = sh x fun y => (f y).bind K), t9 sh f17 f14 f33 f34 f35 f36 f30 x1 K = (t9 sh f17 f14 f33 f34 f35 f36 f30 x1 some).bind K := by
    intro sh hb
    simp only [t9, hb, cond_bind', two_bind, none_bind', Option.bind_assoc, Option.bind_some]
  exact key sh0 (fun _ _ _ => rfl)
theorem ok9 (f17 : i17 → Option o17) (f14 : i14 → Option o14) (f33 : i33 → Option o33) (f34 : i34 → Option o34) (f35 : i35 → Option o35) (f36 : i36 → Option o36) (f30 : i30 → Option o30) (hf17 : Sd17 f17) (hf14 : Sd14 f14) (hf33 : Sd33 f33) (hf34 : Sd34 f34) (hf35 : Sd35 f35) (hf36 : Sd36 f36) (hf30 : Sd30 f30) : Sd9 (fun a => t9 sh0 f17 f14 f33 f34 f35 f36 f30 a some) := by
  intro a b h
  refine call_ok (sh := sh0) (hsh := fun _ _ => rfl) (br := br9) (ar := ar9) (own := false) Tryd.mixed Tryd.func9 (by kernel_rfl) (.cons (mkEnt_ok hf17) (.cons (mkEnt_ok hf14) (.cons (mkEnt_ok hf33) (.cons (mkEnt_ok hf34) (.cons (mkEnt_ok hf35) (.cons (mkEnt_ok hf36) (.cons (mkEnt_ok hf30) .nil))))))) (fun nt => .nil) ((t9_eq sh0 (fun _ _ => rfl) f17 f14 f33 f34 f35 f36 f30 a _).trans ?_)
  rw [t9_law]
  simp only at h
  rw [h, Option.bind_some, retK9_eq]

end Go.Proofs.VaG
