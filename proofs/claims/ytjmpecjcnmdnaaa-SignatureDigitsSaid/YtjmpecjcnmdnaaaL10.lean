/- Printed by a tool of mine: plain functions, their equations and contracts. -/
import Derived.Test.YtjmpecjcnmdnaaaG3
set_option linter.unusedVariables false
set_option linter.unusedSimpArgs false

namespace Go.Proofs.SmG
open Go Go.Ev
/-! 10 erasure/erasurelaw39.SignatureDigits -/
abbrev i10 : Type := Rows
def enc10 : i10 → CSt := fun a => ([Go.Ev.SV.one (Go.Ev.SL.d (Go.Ev.DL.lst (5 : Nat) a))], [])
def dec10 : (c : CSt) → Option { a : i10 // c = enc10 a }
  | ([Go.Ev.SV.one (Go.Ev.SL.d (Go.Ev.DL.lst (5 : Nat) x1))], []) => some ⟨x1, rfl⟩
  | _ => none
abbrev o10 : Type := Bool
def ret10 : o10 → CSt := fun b => ([Go.Ev.SV.one (Go.Ev.SL.d (Go.Ev.DL.bool b))], [])
def retK10 {R : Type} (K : CSt → Option R) : o10 → Option R := fun b => K (([Go.Ev.SV.one (Go.Ev.SL.d (Go.Ev.DL.bool b))], []))
theorem retK10_eq {R : Type} (K : CSt → Option R) (b : o10) : retK10 K b = K (ret10 b) := rfl
abbrev Sd10 (f : i10 → Option o10) : Prop := ∀ a b, f a = some b → CallOk Try.prog 10 (enc10 a) (ret10 b)
def ent10 (f : i10 → Option o10) : Ent := mkEnt 10 dec10 ret10 retK10 retK10_eq f
def ann10 : Nat → List Nat × List Nat := fun id => bif Nat.beq id 5 then ([0, 3, 4], [0, 2, 3]) else ([], [])
def br10 : FuncId → Bool := fun (g : Nat) => ([67, 72] : List Nat).any (Nat.beq g)
def ar10 : TypeId → Bool := fun (t : Nat) => ([24, 25, 79, 82] : List Nat).any (Nat.beq t)
abbrev iL10_5 : Type := Rows × Rows × Int
def encL10_5 : iL10_5 → CSt := fun a => ([Go.Ev.SV.one (Go.Ev.SL.d (Go.Ev.DL.lst (5 : Nat) a.1)), Go.Ev.SV.one (Go.Ev.SL.d (Go.Ev.DL.lst (3 : Nat) a.2.1)), Go.Ev.SV.one (Go.Ev.SL.d (Go.Ev.DL.int Go.IntKind.i64 a.2.2))], [])
def decL10_5 : (c : CSt) → Option { a : iL10_5 // c = encL10_5 a }
  | ([Go.Ev.SV.one (Go.Ev.SL.d (Go.Ev.DL.lst (5 : Nat) x1)), Go.Ev.SV.one (Go.Ev.SL.d (Go.Ev.DL.lst (3 : Nat) x2)), Go.Ev.SV.one (Go.Ev.SL.d (Go.Ev.DL.int Go.IntKind.i64 x3))], []) => some ⟨(x1, x2, x3), rfl⟩
  | _ => none
abbrev oL10_5 : Type := (Rows × Bool × Rows) ⊕ (Rows × Rows)
def retL10_5 : oL10_5 → Ex × CSt := two (fun b => (Go.Ev.Ex.ret, ([Go.Ev.SV.one (Go.Ev.SL.d (Go.Ev.DL.lst (5 : Nat) b.1)), Go.Ev.SV.one (Go.Ev.SL.d (Go.Ev.DL.bool b.2.1)), Go.Ev.SV.one (Go.Ev.SL.d (Go.Ev.DL.lst (3 : Nat) b.2.2))], []))) (fun b => (Go.Ev.Ex.exit (0 : Nat), ([Go.Ev.SV.one (Go.Ev.SL.d (Go.Ev.DL.lst (5 : Nat) b.1)), Go.Ev.SV.one Go.Ev.SL.un, Go.Ev.SV.one (Go.Ev.SL.d (Go.Ev.DL.lst (3 : Nat) b.2))], [])))
def retKL10_5 {R : Type} (K : Ex → CSt → Option R) : oL10_5 → Option R := two (fun b => K (Go.Ev.Ex.ret) (([Go.Ev.SV.one (Go.Ev.SL.d (Go.Ev.DL.lst (5 : Nat) b.1)), Go.Ev.SV.one (Go.Ev.SL.d (Go.Ev.DL.bool b.2.1)), Go.Ev.SV.one (Go.Ev.SL.d (Go.Ev.DL.lst (3 : Nat) b.2.2))], []))) (fun b => K (Go.Ev.Ex.exit (0 : Nat)) (([Go.Ev.SV.one (Go.Ev.SL.d (Go.Ev.DL.lst (5 : Nat) b.1)), Go.Ev.SV.one Go.Ev.SL.un, Go.Ev.SV.one (Go.Ev.SL.d (Go.Ev.DL.lst (3 : Nat) b.2))], [])))
theorem retKL10_5_eq {R : Type} (K : Ex → CSt → Option R) (b : oL10_5) : retKL10_5 K b = K (retL10_5 b).1 (retL10_5 b).2 := by
  unfold retKL10_5 retL10_5
  repeat' (first | rfl | cases b with | inl b => rfl | inr b => ?_)
def entL10_5 (l : iL10_5 → Option oL10_5) : LEnt := mkLEnt 5 decL10_5 retL10_5 retKL10_5 retKL10_5_eq l
abbrev SdL10_5 (l : iL10_5 → Option oL10_5) : Prop := ∀ nt a b, l a = some b → LoopAt Try.prog nt 0 ann10 Try.f10 5 (encL10_5 a) (retL10_5 b)
noncomputable def u10_5 {R : Type} (sh : Sh) (l10_5 : iL10_5 → Option oL10_5) (x1 : Rows) (x2 : Rows) (x3 : Int) (k : oL10_5 → Option R) : Option R :=
  sh ((↑(List.length x2) : Int)) fun y4 =>
  bif Decidable.decide (x3 < y4) then
    bif Decidable.decide ((0 : Int) ≤ x3 ∧ x3 < (↑(List.length x2) : Int)) then
      sh (Go.Ev.DL.getI (Go.Ev.cellAt x2 (Int.toNat x3) (0 : Nat))) fun y5 =>
      bif Decidable.decide (y5 < (0 : Int)) then
        k ((.inl (x1, Bool.false, x2)))
      else
        bif Decidable.decide ((0 : Int) ≤ x3 ∧ x3 < (↑(List.length x2) : Int)) then
          sh (Go.Ev.DL.getI (Go.Ev.cellAt x2 (Int.toNat x3) (0 : Nat))) fun y6 =>
          bif Decidable.decide (y6 > (15 : Int)) then
            k ((.inl (x1, Bool.false, x2)))
          else
            (l10_5 (x1, x2, Go.IntKind.wrap Go.IntKind.i64 (x3 + (1 : Int)))).bind k
        else none
    else none
  else
    k ((.inr (x1, x2)))
theorem u10_5_eq {R : Type} (sh : Sh) (hsh : ∀ {α R : Type} (x : α) (K : α → Option R), sh x K = K x) (l10_5 : iL10_5 → Option oL10_5) (x1 : Rows) (x2 : Rows) (x3 : Int) (K : Ex → CSt → Option R) : roundK Try.prog (tabO sh hsh br10 ar10 []) (tabL [entL10_5 l10_5]) ann10 0 Try.f10 5 (encL10_5 (x1, x2, x3)) K = u10_5 sh l10_5 x1 x2 x3 (retKL10_5 K) := by kernel_rfl
theorem u10_5_law {R : Type} (l10_5 : iL10_5 → Option oL10_5) (x1 : Rows) (x2 : Rows) (x3 : Int) (K : oL10_5 → Option R) : u10_5 sh0 l10_5 x1 x2 x3 K = (u10_5 sh0 l10_5 x1 x2 x3 some).bind K := by
  simp only [u10_5, sh0, cond_bind', two_bind, none_bind', Option.bind_assoc, Option.bind_some]
theorem okL10_5 (l10_5 : iL10_5 → Option oL10_5) (hl10_5 : SdL10_5 l10_5) : SdL10_5 (fun a => u10_5 sh0 l10_5 a.1 a.2.1 a.2.2 some) := by
  intro nt a b h
  refine round_ok (sh := sh0) (hsh := fun _ _ => rfl) (br := br10) (ar := ar10) Try.mixed (by kernel_rfl) .nil (.cons (mkLEnt_ok (hl10_5 nt)) .nil) ((u10_5_eq sh0 (fun _ _ => rfl) l10_5  a.1 a.2.1 a.2.2 _).trans ?_)
  rw [u10_5_law]
  simp only at h
  rw [h, Option.bind_some, retKL10_5_eq]
noncomputable def t10 {R : Type} (sh : Sh) (f28 : i28 → Option o28) (f29 : i29 → Option o29) (f31 : i31 → Option o31) (f30 : i30 → Option o30) (l10_5 : iL10_5 → Option oL10_5) (x1 : Rows) (k : o10 → Option R) : Option R :=
  sh ((↑(List.length x1) : Int)) fun y1 =>
  bif Decidable.decide (y1 > (200 : Int)) then
    (f28 ()).bind fun (r2 : Bool) =>
    k (r2)
  else
    (f29 (x1)).bind fun (r3 : Rows) =>
    (l10_5 (x1, r3, (0 : Int))).bind (two (fun (r7 : Rows × Bool × Rows) =>
      k (Prod.fst r7.2)
    ) (fun (r8 : Rows × Rows) =>
      sh ((↑(List.length (Prod.snd r8)) : Int)) fun y9 =>
      bif y9 == (35 : Int) then
        (f31 (Prod.fst r8)).bind fun (r10 : Rows) =>
        (f30 (Prod.snd r8, r10)).bind fun (r11 : Bool) =>
        bif r11 then
          (f28 ()).bind fun (r12 : Bool) =>
          k (r12)
        else
          k (Bool.false)
      else
        k (Bool.false)
    ))
theorem t10_eq {R : Type} (sh : Sh) (hsh : ∀ {α R : Type} (x : α) (K : α → Option R), sh x K = K x) (f28 : i28 → Option o28) (f29 : i29 → Option o29) (f31 : i31 → Option o31) (f30 : i30 → Option o30) (l10_5 : iL10_5 → Option oL10_5) (x1 : Rows) (K : CSt → Option R) : bodyK Try.prog (tabO sh hsh br10 ar10 [ent28 f28, ent29 f29, ent31 f31, ent30 f30]) (tabL [entL10_5 l10_5]) ann10 false Try.f10 (enc10 x1) K = t10 sh f28 f29 f31 f30 l10_5 x1 (retK10 K) := by kernel_rfl
theorem t10_law {R : Type} (f28 : i28 → Option o28) (f29 : i29 → Option o29) (f31 : i31 → Option o31) (f30 : i30 → Option o30) (l10_5 : iL10_5 → Option oL10_5) (x1 : Rows) (K : o10 → Option R) : t10 sh0 f28 f29 f31 f30 l10_5 x1 K = (t10 sh0 f28 f29 f31 f30 l10_5 x1 some).bind K := by
  simp only [t10, sh0, cond_bind', two_bind, none_bind', Option.bind_assoc, Option.bind_some]
theorem ok10 (f28 : i28 → Option o28) (f29 : i29 → Option o29) (f31 : i31 → Option o31) (f30 : i30 → Option o30) (l10_5 : iL10_5 → Option oL10_5) (hf28 : Sd28 f28) (hf29 : Sd29 f29) (hf31 : Sd31 f31) (hf30 : Sd30 f30) (hl10_5 : SdL10_5 l10_5) : Sd10 (fun a => t10 sh0 f28 f29 f31 f30 l10_5 a some) := by
  intro a b h
  refine call_ok (sh := sh0) (hsh := fun _ _ => rfl) (br := br10) (ar := ar10) (own := false) Try.mixed Try.func10 (by kernel_rfl) (.cons (mkEnt_ok hf28) (.cons (mkEnt_ok hf29) (.cons (mkEnt_ok hf31) (.cons (mkEnt_ok hf30) .nil)))) (fun nt => (.cons (mkLEnt_ok (hl10_5 nt)) .nil)) ((t10_eq sh0 (fun _ _ => rfl) f28 f29 f31 f30 l10_5 a _).trans ?_)
  rw [t10_law]
  simp only at h
  rw [h, Option.bind_some, retK10_eq]

end Go.Proofs.SmG
