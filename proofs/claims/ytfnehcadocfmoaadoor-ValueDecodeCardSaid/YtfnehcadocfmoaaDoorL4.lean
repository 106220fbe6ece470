/- Printed by a tool of mine: plain functions, their equations and contracts. -/
import Derived.Test.YtfnehcadocfmoaaDoorG2
set_option linter.unusedVariables false
set_option linter.unusedSimpArgs false

namespace Go.Proofs.VaG
open Go Go.Ev
/-! 4 erasure/erasurelaw01.ValueValid -/
abbrev i4 : Type := Rows
def enc4 : i4 → CSt := fun a => ([Go.Ev.SV.one (Go.Ev.SL.d (Go.Ev.DL.lst (23 : Nat) a))], [])
def dec4 : (c : CSt) → Option { a : i4 // c = enc4 a }
  | ([Go.Ev.SV.one (Go.Ev.SL.d (Go.Ev.DL.lst (23 : Nat) x1))], []) => some ⟨x1, rfl⟩
  | _ => none
abbrev o4 : Type := Bool
def ret4 : o4 → CSt := fun b => ([Go.Ev.SV.one (Go.Ev.SL.d (Go.Ev.DL.bool b))], [])
def retK4 {R : Type} (K : CSt → Option R) : o4 → Option R := fun b => K (([Go.Ev.SV.one (Go.Ev.SL.d (Go.Ev.DL.bool b))], []))
theorem retK4_eq {R : Type} (K : CSt → Option R) (b : o4) : retK4 K b = K (ret4 b) := rfl
abbrev Sd4 (f : i4 → Option o4) : Prop := ∀ a b, f a = some b → CallOk Tryd.prog 4 (enc4 a) (ret4 b)
def ent4 (f : i4 → Option o4) : Ent := mkEnt 4 dec4 ret4 retK4 retK4_eq f
def ann4 : Nat → List Nat × List Nat := fun id => bif Nat.beq id 4 then ([0, 3], [0, 2]) else ([], [])
def br4 : FuncId → Bool := fun (g : Nat) => ([71] : List Nat).any (Nat.beq g)
def ar4 : TypeId → Bool := fun (t : Nat) => ([88, 91, 97] : List Nat).any (Nat.beq t)
abbrev iL4_4 : Type := Rows × Int
def encL4_4 : iL4_4 → CSt := fun a => ([Go.Ev.SV.one (Go.Ev.SL.d (Go.Ev.DL.lst (23 : Nat) a.1)), Go.Ev.SV.one (Go.Ev.SL.d (Go.Ev.DL.int Go.IntKind.i64 a.2))], [])
def decL4_4 : (c : CSt) → Option { a : iL4_4 // c = encL4_4 a }
  | ([Go.Ev.SV.one (Go.Ev.SL.d (Go.Ev.DL.lst (23 : Nat) x1)), Go.Ev.SV.one (Go.Ev.SL.d (Go.Ev.DL.int Go.IntKind.i64 x2))], []) => some ⟨(x1, x2), rfl⟩
  | _ => none
abbrev oL4_4 : Type := (Rows × Bool) ⊕ (Rows)
def retL4_4 : oL4_4 → Ex × CSt := two (fun b => (Go.Ev.Ex.ret, ([Go.Ev.SV.one (Go.Ev.SL.d (Go.Ev.DL.lst (23 : Nat) b.1)), Go.Ev.SV.one (Go.Ev.SL.d (Go.Ev.DL.bool b.2))], []))) (fun b => (Go.Ev.Ex.exit (0 : Nat), ([Go.Ev.SV.one (Go.Ev.SL.d (Go.Ev.DL.lst (23 : Nat) b)), Go.Ev.SV.one Go.Ev.SL.un], [])))
def retKL4_4 {R : Type} (K : Ex → CSt → Option R) : oL4_4 → Option R := two (fun b => K (Go.Ev.Ex.ret) (([Go.Ev.SV.one (Go.Ev.SL.d (Go.Ev.DL.lst (23 : Nat) b.1)), Go.Ev.SV.one (Go.Ev.SL.d (Go.Ev.DL.bool b.2))], []))) (fun b => K (Go.Ev.Ex.exit (0 : Nat)) (([Go.Ev.SV.one (Go.Ev.SL.d (Go.Ev.DL.lst (23 : Nat) b)), Go.Ev.SV.one Go.Ev.SL.un], [])))
theorem retKL4_4_eq {R : Type} (K : Ex → CSt → Option R) (b : oL4_4) : retKL4_4 K b = K (retL4_4 b).1 (retL4_4 b).2 := by
  unfold retKL4_4 retL4_4
  repeat' (first | rfl | cases b with | inl b => rfl | inr b => ?_)
def entL4_4 (l : iL4_4 → Option oL4_4) : LEnt := mkLEnt 4 decL4_4 retL4_4 retKL4_4 retKL4_4_eq l
abbrev SdL4_4 (l : iL4_4 → Option oL4_4) : Prop := ∀ nt a b, l a = some b → LoopAt Tryd.prog nt 0 ann4 Tryd.f4 4 (encL4_4 a) (retL4_4 b)
noncomputable def u4_4 {R : Type} (sh : Sh) (f18 : i18 → Option o18) (f19 : i19 → Option o19) (f20 : i20 → Option o20) (f21 : i21 → Option o21) (l4_4 : iL4_4 → Option oL4_4) (x1 : Rows) (x2 : Int) (k : oL4_4 → Option R) : Option R :=
  sh ((↑(List.length x1) : Int)) fun y3 =>
  bif Decidable.decide (x2 < y3) then
    bif Decidable.decide ((0 : Int) ≤ x2 ∧ x2 < (↑(List.length x1) : Int)) then
      (f18 (Go.Ev.DL.getI (Go.Ev.cellAt x1 (Int.toNat x2) (0 : Nat)), Go.Ev.DL.getI (Go.Ev.cellAt x1 (Int.toNat x2) (1 : Nat)), Go.Ev.DL.getS (Go.Ev.cellAt x1 (Int.toNat x2) (2 : Nat)))).bind fun (r4 : Bool) =>
      bif Decidable.decide ((0 : Int) ≤ x2 ∧ x2 < (↑(List.length x1) : Int)) then
        (f19 (Go.Ev.DL.getI (Go.Ev.cellAt x1 (Int.toNat x2) (0 : Nat)), Go.Ev.DL.getI (Go.Ev.cellAt x1 (Int.toNat x2) (1 : Nat)), Go.Ev.DL.getS (Go.Ev.cellAt x1 (Int.toNat x2) (2 : Nat)))).bind fun (r5 : Bool) =>
        bif !r4 == r5 then
          k ((.inl (x1, Bool.false)))
        else
          bif Decidable.decide ((0 : Int) ≤ x2 ∧ x2 < (↑(List.length x1) : Int)) then
            (f20 (Go.Ev.DL.getI (Go.Ev.cellAt x1 (Int.toNat x2) (0 : Nat)), Go.Ev.DL.getI (Go.Ev.cellAt x1 (Int.toNat x2) (1 : Nat)), Go.Ev.DL.getS (Go.Ev.cellAt x1 (Int.toNat x2) (2 : Nat)))).bind fun (r6 : Int × Int × ByteArray) =>
            bif Decidable.decide ((0 : Int) ≤ x2 ∧ x2 < (↑(List.length x1) : Int)) then
              (f21 (Go.Ev.DL.getI (Go.Ev.cellAt x1 (Int.toNat x2) (0 : Nat)), Go.Ev.DL.getI (Go.Ev.cellAt x1 (Int.toNat x2) (1 : Nat)), Go.Ev.DL.getS (Go.Ev.cellAt x1 (Int.toNat x2) (2 : Nat)))).bind fun (r7 : Int × Int × ByteArray) =>
              bif !(Prod.fst r6 == Prod.fst r7 && (Prod.fst r6.2 == Prod.fst r7.2 && (Prod.snd r6.2 == Prod.snd r7.2 && Bool.true))) then
                k ((.inl (x1, Bool.false)))
              else
                bif Decidable.decide ((0 : Int) ≤ x2 ∧ x2 < (↑(List.length x1) : Int)) then
                  (f20 (Go.Ev.DL.getI (Go.Ev.cellAt x1 (Int.toNat x2) (0 : Nat)), Go.Ev.DL.getI (Go.Ev.cellAt x1 (Int.toNat x2) (1 : Nat)), Go.Ev.DL.getS (Go.Ev.cellAt x1 (Int.toNat x2) (2 : Nat)))).bind fun (r8 : Int × Int × ByteArray) =>
                  (f18 (Prod.fst r8, Prod.fst r8.2, Prod.snd r8.2)).bind fun (r9 : Bool) =>
                  bif !r9 then
                    k ((.inl (x1, Bool.false)))
                  else
                    (l4_4 (x1, Go.IntKind.wrap Go.IntKind.i64 (x2 + (1 : Int)))).bind k
                else none
            else none
          else none
      else none
    else none
  else
    k ((.inr x1))
theorem u4_4_eq {R : Type} (sh : Sh) (hsh : ∀ {α R : Type} (x : α) (K : α → Option R), sh x K = K x) (f18 : i18 → Option o18) (f19 : i19 → Option o19) (f20 : i20 → Option o20) (f21 : i21 → Option o21) (l4_4 : iL4_4 → Option oL4_4) (x1 : Rows) (x2 : Int) (K : Ex → CSt → Option R) : roundK Tryd.prog (tabO sh hsh br4 ar4 [ent18 f18, ent19 f19, ent20 f20, ent21 f21]) (tabL [entL4_4 l4_4]) ann4 0 Tryd.f4 4 (encL4_4 (x1, x2)) K = u4_4 sh f18 f19 f20 f21 l4_4 x1 x2 (retKL4_4 K) := by kernel_rfl
theorem u4_4_law {R : Type} (f18 : i18 → Option o18) (f19 : i19 → Option o19) (f20 : i20 → Option o20) (f21 : i21 → Option o21) (l4_4 : iL4_4 → Option oL4_4) (x1 : Rows) (x2 : Int) (K : oL4_4 → Option R) : u4_4 sh0 f18 f19 f20 f21 l4_4 x1 x2 K = (u4_4 sh0 f18 f19 f20 f21 l4_4 x1 x2 some).bind K := by
  have key : ∀ (sh : Sh) (_ : ∀ {α R S : Type} (x : α) (f : α → Option R) (K : R → Option S), (sh x f).bind K = sh x fun y => (f y).bind K), u4_4 sh f18 f19 f20 f21 l4_4 x1 x2 K = (u4_4 sh f18 f19 f20 f21 l4_4 x1 x2 some).bind K := by
    intro sh hb
    simp only [u4_4, hb, cond_bind', two_bind, none_bind', Option.bind_assoc, Option.bind_some]
  exact key sh0 (fun _ _ _ => rfl)
theorem okL4_4 (f18 : i18 → Option o18) (f19 : i19 → Option o19) (f20 : i20 → Option o20) (f21 : i21 → Option o21) (l4_4 : iL4_4 → Option oL4_4) (hf18 : Sd18 f18) (hf19 : Sd19 f19) (hf20 : Sd20 f20) (hf21 : Sd21 f21) (hl4_4 : SdL4_4 l4_4) : SdL4_4 (fun a => u4_4 sh0 f18 f19 f20 f21 l4_4 a.1 a.2 some) := by
  intro nt a b h
  refine round_ok (sh := sh0) (hsh := fun _ _ => rfl) (br := br4) (ar := ar4) Tryd.mixed (by kernel_rfl) (.cons (mkEnt_ok hf18) (.cons (mkEnt_ok hf19) (.cons (mkEnt_ok hf20) (.cons (mkEnt_ok hf21) .nil)))) (.cons (mkLEnt_ok (hl4_4 nt)) .nil) ((u4_4_eq sh0 (fun _ _ => rfl) f18 f19 f20 f21 l4_4  a.1 a.2 _).trans ?_)
  rw [u4_4_law]
  simp only at h
  rw [h, Option.bind_some, retKL4_4_eq]
noncomputable def t4 {R : Type} (sh : Sh) (f17 : i17 → Option o17) (f14 : i14 → Option o14) (f22 : i22 → Option o22) (f23 : i23 → Option o23) (l4_4 : iL4_4 → Option oL4_4) (x1 : Rows) (k : o4 → Option R) : Option R :=
  (f17 (x1)).bind fun (r1 : Bool) =>
  bif r1 then
    (f14 ()).bind fun (r2 : Bool) =>
    k (r2)
  else
    (l4_4 (x1, (0 : Int))).bind (two (fun (r10 : Rows × Bool) =>
      k (Prod.snd r10)
    ) (fun (r11 : Rows) =>
      (f22 (r11)).bind fun (r12 : Bool) =>
      (f23 (r11)).bind fun (r13 : Bool) =>
      bif r12 == r13 then
        (f14 ()).bind fun (r14 : Bool) =>
        k (r14)
      else
        k (Bool.false)
    ))
theorem t4_eq {R : Type} (sh : Sh) (hsh : ∀ {α R : Type} (x : α) (K : α → Option R), sh x K = K x) (f17 : i17 → Option o17) (f14 : i14 → Option o14) (f22 : i22 → Option o22) (f23 : i23 → Option o23) (l4_4 : iL4_4 → Option oL4_4) (x1 : Rows) (K : CSt → Option R) : bodyK Tryd.prog (tabO sh hsh br4 ar4 [ent17 f17, ent14 f14, ent22 f22, ent23 f23]) (tabL [entL4_4 l4_4]) ann4 false Tryd.f4 (enc4 x1) K = t4 sh f17 f14 f22 f23 l4_4 x1 (retK4 K) := by kernel_rfl
theorem t4_law {R : Type} (f17 : i17 → Option o17) (f14 : i14 → Option o14) (f22 : i22 → Option o22) (f23 : i23 → Option o23) (l4_4 : iL4_4 → Option oL4_4) (x1 : Rows) (K : o4 → Option R) : t4 sh0 f17 f14 f22 f23 l4_4 x1 K = (t4 sh0 f17 f14 f22 f23 l4_4 x1 some).bind K := by
  have key : ∀ (sh : Sh) (_ : ∀ {α R S : Type} (x : α) (f : α → Option R) (K : R → Option S), (sh x f).bind K = sh x fun y => (f y).bind K), t4 sh f17 f14 f22 f23 l4_4 x1 K = (t4 sh f17 f14 f22 f23 l4_4 x1 some).bind K := by
    intro sh hb
    simp only [t4, hb, cond_bind', two_bind, none_bind', Option.bind_assoc, Option.bind_some]
  exact key sh0 (fun _ _ _ => rfl)
theorem ok4 (f17 : i17 → Option o17) (f14 : i14 → Option o14) (f22 : i22 → Option o22) (f23 : i23 → Option o23) (l4_4 : iL4_4 → Option oL4_4) (hf17 : Sd17 f17) (hf14 : Sd14 f14) (hf22 : Sd22 f22) (hf23 : Sd23 f23) (hl4_4 : SdL4_4 l4_4) : Sd4 (fun a => t4 sh0 f17 f14 f22 f23 l4_4 a some) := by
  intro a b h
  refine call_ok (sh := sh0) (hsh := fun _ _ => rfl) (br := br4) (ar := ar4) (own := false) Tryd.mixed Tryd.func4 (by kernel_rfl) (.cons (mkEnt_ok hf17) (.cons (mkEnt_ok hf14) (.cons (mkEnt_ok hf22) (.cons (mkEnt_ok hf23) .nil)))) (fun nt => (.cons (mkLEnt_ok (hl4_4 nt)) .nil)) ((t4_eq sh0 (fun _ _ => rfl) f17 f14 f22 f23 l4_4 a _).trans ?_)
  rw [t4_law]
  simp only at h
  rw [h, Option.bind_some, retK4_eq]

end Go.Proofs.VaG
