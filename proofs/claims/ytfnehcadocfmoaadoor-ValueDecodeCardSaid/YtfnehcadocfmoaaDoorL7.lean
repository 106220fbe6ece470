/- Printed by a tool of mine: plain functions, their equations and contracts. -/
import Derived.Test.YtfnehcadocfmoaaDoorG2
set_option linter.unusedVariables false
set_option linter.unusedSimpArgs false

namespace Go.Proofs.VaG
open Go Go.Ev
/-! 7 erasure/erasurelaw01.ValueOrder -/
abbrev i7 : Type := Rows
def enc7 : i7 → CSt := fun a => ([Go.Ev.SV.one (Go.Ev.SL.d (Go.Ev.DL.lst (3 : Nat) a))], [])
def dec7 : (c : CSt) → Option { a : i7 // c = enc7 a }
  | ([Go.Ev.SV.one (Go.Ev.SL.d (Go.Ev.DL.lst (3 : Nat) x1))], []) => some ⟨x1, rfl⟩
  | _ => none
abbrev o7 : Type := Bool
def ret7 : o7 → CSt := fun b => ([Go.Ev.SV.one (Go.Ev.SL.d (Go.Ev.DL.bool b))], [])
def retK7 {R : Type} (K : CSt → Option R) : o7 → Option R := fun b => K (([Go.Ev.SV.one (Go.Ev.SL.d (Go.Ev.DL.bool b))], []))
theorem retK7_eq {R : Type} (K : CSt → Option R) (b : o7) : retK7 K b = K (ret7 b) := rfl
abbrev Sd7 (f : i7 → Option o7) : Prop := ∀ a b, f a = some b → CallOk Tryd.prog 7 (enc7 a) (ret7 b)
def ent7 (f : i7 → Option o7) : Ent := mkEnt 7 dec7 ret7 retK7 retK7_eq f
def ann7 : Nat → List Nat × List Nat := fun id => ([], [])
def br7 : FuncId → Bool := fun (g : Nat) => ([71] : List Nat).any (Nat.beq g)
def ar7 : TypeId → Bool := fun (t : Nat) => ([88, 91, 97] : List Nat).any (Nat.beq t)
noncomputable def t7 {R : Type} (sh : Sh) (f28 : i28 → Option o28) (f29 : i29 → Option o29) (f26 : i26 → Option o26) (f30 : i30 → Option o30) (f14 : i14 → Option o14) (x1 : Rows) (k : o7 → Option R) : Option R :=
  (f28 (x1)).bind fun (r1 : Int × Rows) =>
  (f29 ((3 : Int), Prod.fst r1, Prod.snd r1)).bind fun (r2 : Rows × Int × Rows) =>
  (f29 ((3 : Int), Prod.fst r2.2, Prod.snd r2.2)).bind fun (r3 : Rows × Int × Rows) =>
  (f29 ((3 : Int), Prod.fst r3.2, Prod.snd r3.2)).bind fun (r4 : Rows × Int × Rows) =>
  (f26 (Prod.fst r2, Prod.fst r3)).bind fun (r5 : Int) =>
  (f26 (Prod.fst r3, Prod.fst r4)).bind fun (r6 : Int) =>
  (f26 (Prod.fst r2, Prod.fst r4)).bind fun (r7 : Int) =>
  (f26 (Prod.fst r3, Prod.fst r2)).bind fun (r8 : Int) =>
  sh (Go.IntKind.wrap Go.IntKind.i64 ((0 : Int) - r5)) fun y9 =>
  bif r8 != y9 then
    k (Bool.false)
  else
    (f30 (Prod.fst r2, Prod.fst r3)).bind fun (r10 : Bool) =>
    bif !(r5 == (0 : Int)) == r10 then
      k (Bool.false)
    else
      (f26 (Prod.fst r2, Prod.fst r2)).bind fun (r11 : Int) =>
      bif r11 != (0 : Int) then
        k (Bool.false)
      else
        bif Decidable.decide (r5 ≤ (0 : Int)) then
          bif Decidable.decide (r6 ≤ (0 : Int)) then
            bif !Decidable.decide (r7 > (0 : Int)) then
              bif Decidable.decide (r5 < (0 : Int)) then
                bif Decidable.decide (r6 < (0 : Int)) then
                  bif !Decidable.decide (r7 ≥ (0 : Int)) then
                    (f14 ()).bind fun (r12 : Bool) =>
                    k (r12)
                  else
                    k (Bool.false)
                else
                  (f14 ()).bind fun (r13 : Bool) =>
                  k (r13)
              else
                (f14 ()).bind fun (r14 : Bool) =>
                k (r14)
            else
              k (Bool.false)
          else
            bif Decidable.decide (r5 < (0 : Int)) then
              bif Decidable.decide (r6 < (0 : Int)) then
                bif !Decidable.decide (r7 ≥ (0 : Int)) then
                  (f14 ()).bind fun (r15 : Bool) =>
                  k (r15)
                else
                  k (Bool.false)
              else
                (f14 ()).bind fun (r16 : Bool) =>
                k (r16)
            else
              (f14 ()).bind fun (r17 : Bool) =>
              k (r17)
        else
          bif Decidable.decide (r5 < (0 : Int)) then
            bif Decidable.decide (r6 < (0 : Int)) then
              bif !Decidable.decide (r7 ≥ (0 : Int)) then
                (f14 ()).bind fun (r18 : Bool) =>
                k (r18)
              else
                k (Bool.false)
            else
              (f14 ()).bind fun (r19 : Bool) =>
              k (r19)
          else
            (f14 ()).bind fun (r20 : Bool) =>
            k (r20)
theorem t7_eq {R : Type} (sh : Sh) (hsh : ∀ {α R : Type} (x : α) (K : α → Option R), sh x K = K x) (f28 : i28 → Option o28) (f29 : i29 → Option o29) (f26 : i26 → Option o26) (f30 : i30 → Option o30) (f14 : i14 → Option o14) (x1 : Rows) (K : CSt → Option R) : bodyK Tryd.prog (tabO sh hsh br7 ar7 [ent28 f28, ent29 f29, ent26 f26, ent30 f30, ent14 f14]) (tabL []) ann7 false Tryd.f7 (enc7 x1) K = t7 sh f28 f29 f26 f30 f14 x1 (retK7 K) := by kernel_rfl
theorem t7_law {R : Type} (f28 : i28 → Option o28) (f29 : i29 → Option o29) (f26 : i26 → Option o26) (f30 : i30 → Option o30) (f14 : i14 → Option o14) (x1 : Rows) (K : o7 → Option R) : t7 sh0 f28 f29 f26 f30 f14 x1 K = (t7 sh0 f28 f29 f26 f30 f14 x1 some).bind K := by
  have key : ∀ (sh : Sh) (_ : ∀ {α R S : Type} (x : α) (f : α → Option R) (K : R → Option S), (sh x f).bind K = sh x fun y => (f y).bind K), t7 sh f28 f29 f26 f30 f14 x1 K = (t7 sh f28 f29 f26 f30 f14 x1 some).bind K := by
    intro sh hb
    simp only [t7, hb, cond_bind', two_bind, none_bind', Option.bind_assoc, Option.bind_some]
  exact key sh0 (fun _ _ _ => rfl)
theorem ok7 (f28 : i28 → Option o28) (f29 : i29 → Option o29) (f26 : i26 → Option o26) (f30 : i30 → Option o30) (f14 : i14 → Option o14) (hf28 : Sd28 f28) (hf29 : Sd29 f29) (hf26 : Sd26 f26) (hf30 : Sd30 f30) (hf14 : Sd14 f14) : Sd7 (fun a => t7 sh0 f28 f29 f26 f30 f14 a some) := by
  intro a b h
  refine call_ok (sh := sh0) (hsh := fun _ _ => rfl) (br := br7) (ar := ar7) (own := false) Tryd.mixed Tryd.func7 (by kernel_rfl) (.cons (mkEnt_ok hf28) (.cons (mkEnt_ok hf29) (.cons (mkEnt_ok hf26) (.cons (mkEnt_ok hf30) (.cons (mkEnt_ok hf14) .nil))))) (fun nt => .nil) ((t7_eq sh0 (fun _ _ => rfl) f28 f29 f26 f30 f14 a _).trans ?_)
  rw [t7_law]
  simp only at h
  rw [h, Option.bind_some, retK7_eq]

end Go.Proofs.VaG
