/- Printed by a tool of mine: plain functions, their equations and contracts. -/
import Derived.Test.YtfnehcadocfmoaaDoorG2
set_option linter.unusedVariables false
set_option linter.unusedSimpArgs false

namespace Go.Proofs.VaG
open Go Go.Ev
/-! 6 erasure/erasurelaw01.ValueCompare -/
abbrev i6 : Type := Rows × Rows
def enc6 : i6 → CSt := fun a => ([Go.Ev.SV.one (Go.Ev.SL.d (Go.Ev.DL.lst (23 : Nat) a.1)), Go.Ev.SV.one (Go.Ev.SL.d (Go.Ev.DL.lst (23 : Nat) a.2))], [])
def dec6 : (c : CSt) → Option { a : i6 // c = enc6 a }
  | ([Go.Ev.SV.one (Go.Ev.SL.d (Go.Ev.DL.lst (23 : Nat) x1)), Go.Ev.SV.one (Go.Ev.SL.d (Go.Ev.DL.lst (23 : Nat) x2))], []) => some ⟨(x1, x2), rfl⟩
  | _ => none
abbrev o6 : Type := Bool
def ret6 : o6 → CSt := fun b => ([Go.Ev.SV.one (Go.Ev.SL.d (Go.Ev.DL.bool b))], [])
def retK6 {R : Type} (K : CSt → Option R) : o6 → Option R := fun b => K (([Go.Ev.SV.one (Go.Ev.SL.d (Go.Ev.DL.bool b))], []))
theorem retK6_eq {R : Type} (K : CSt → Option R) (b : o6) : retK6 K b = K (ret6 b) := rfl
abbrev Sd6 (f : i6 → Option o6) : Prop := ∀ a b, f a = some b → CallOk Tryd.prog 6 (enc6 a) (ret6 b)
def ent6 (f : i6 → Option o6) : Ent := mkEnt 6 dec6 ret6 retK6 retK6_eq f
def ann6 : Nat → List Nat × List Nat := fun id => bif Nat.beq id 4 then ([0, 1, 5], [0, 1, 4]) else ([], [])
def br6 : FuncId → Bool := fun (g : Nat) => ([71] : List Nat).any (Nat.beq g)
def ar6 : TypeId → Bool := fun (t : Nat) => ([88, 91, 97] : List Nat).any (Nat.beq t)
abbrev iL6_4 : Type := Rows × Rows × Int
def encL6_4 : iL6_4 → CSt := fun a => ([Go.Ev.SV.one (Go.Ev.SL.d (Go.Ev.DL.lst (23 : Nat) a.1)), Go.Ev.SV.one (Go.Ev.SL.d (Go.Ev.DL.lst (23 : Nat) a.2.1)), Go.Ev.SV.one (Go.Ev.SL.d (Go.Ev.DL.int Go.IntKind.i64 a.2.2))], [])
def decL6_4 : (c : CSt) → Option { a : iL6_4 // c = encL6_4 a }
  | ([Go.Ev.SV.one (Go.Ev.SL.d (Go.Ev.DL.lst (23 : Nat) x1)), Go.Ev.SV.one (Go.Ev.SL.d (Go.Ev.DL.lst (23 : Nat) x2)), Go.Ev.SV.one (Go.Ev.SL.d (Go.Ev.DL.int Go.IntKind.i64 x3))], []) => some ⟨(x1, x2, x3), rfl⟩
  | _ => none
abbrev oL6_4 : Type := (Rows × Rows × Bool) ⊕ (Rows × Rows)
def retL6_4 : oL6_4 → Ex × CSt := two (fun b => (Go.Ev.Ex.ret, ([Go.Ev.SV.one (Go.Ev.SL.d (Go.Ev.DL.lst (23 : Nat) b.1)), Go.Ev.SV.one (Go.Ev.SL.d (Go.Ev.DL.lst (23 : Nat) b.2.1)), Go.Ev.SV.one (Go.Ev.SL.d (Go.Ev.DL.bool b.2.2))], []))) (fun b => (Go.Ev.Ex.exit (0 : Nat), ([Go.Ev.SV.one (Go.Ev.SL.d (Go.Ev.DL.lst (23 : Nat) b.1)), Go.Ev.SV.one (Go.Ev.SL.d (Go.Ev.DL.lst (23 : Nat) b.2)), Go.Ev.SV.one Go.Ev.SL.un], [])))
def retKL6_4 {R : Type} (K : Ex → CSt → Option R) : oL6_4 → Option R := two (fun b => K (Go.Ev.Ex.ret) (([Go.Ev.SV.one (Go.Ev.SL.d (Go.Ev.DL.lst (23 : Nat) b.1)), Go.Ev.SV.one (Go.Ev.SL.d (Go.Ev.DL.lst (23 : Nat) b.2.1)), Go.Ev.SV.one (Go.Ev.SL.d (Go.Ev.DL.bool b.2.2))], []))) (fun b => K (Go.Ev.Ex.exit (0 : Nat)) (([Go.Ev.SV.one (Go.Ev.SL.d (Go.Ev.DL.lst (23 : Nat) b.1)), Go.Ev.SV.one (Go.Ev.SL.d (Go.Ev.DL.lst (23 : Nat) b.2)), Go.Ev.SV.one Go.Ev.SL.un], [])))
theorem retKL6_4_eq {R : Type} (K : Ex → CSt → Option R) (b : oL6_4) : retKL6_4 K b = K (retL6_4 b).1 (retL6_4 b).2 := by
  unfold retKL6_4 retL6_4
  repeat' (first | rfl | cases b with | inl b => rfl | inr b => ?_)
def entL6_4 (l : iL6_4 → Option oL6_4) : LEnt := mkLEnt 4 decL6_4 retL6_4 retKL6_4 retKL6_4_eq l
abbrev SdL6_4 (l : iL6_4 → Option oL6_4) : Prop := ∀ nt a b, l a = some b → LoopAt Tryd.prog nt 0 ann6 Tryd.f6 4 (encL6_4 a) (retL6_4 b)
noncomputable def u6_4 {R : Type} (sh : Sh) (f24 : i24 → Option o24) (f25 : i25 → Option o25) (l6_4 : iL6_4 → Option oL6_4) (x1 : Rows) (x2 : Rows) (x3 : Int) (k : oL6_4 → Option R) : Option R :=
  sh ((↑(List.length x1) : Int)) fun y5 =>
  bif Decidable.decide (x3 < y5) then
    sh ((↑(List.length x2) : Int)) fun y6 =>
    bif Decidable.decide (x3 < y6) then
      bif Decidable.decide ((0 : Int) ≤ x3 ∧ x3 < (↑(List.length x1) : Int)) then
        bif Decidable.decide ((0 : Int) ≤ x3 ∧ x3 < (↑(List.length x2) : Int)) then
          (f24 (Go.Ev.DL.getI (Go.Ev.cellAt x1 (Int.toNat x3) (0 : Nat)), Go.Ev.DL.getI (Go.Ev.cellAt x1 (Int.toNat x3) (1 : Nat)), Go.Ev.DL.getS (Go.Ev.cellAt x1 (Int.toNat x3) (2 : Nat)), Go.Ev.DL.getI (Go.Ev.cellAt x2 (Int.toNat x3) (0 : Nat)), Go.Ev.DL.getI (Go.Ev.cellAt x2 (Int.toNat x3) (1 : Nat)), Go.Ev.DL.getS (Go.Ev.cellAt x2 (Int.toNat x3) (2 : Nat)))).bind fun (r7 : Int) =>
          bif Decidable.decide ((0 : Int) ≤ x3 ∧ x3 < (↑(List.length x1) : Int)) then
            bif Decidable.decide ((0 : Int) ≤ x3 ∧ x3 < (↑(List.length x2) : Int)) then
              (f25 (Go.Ev.DL.getI (Go.Ev.cellAt x1 (Int.toNat x3) (0 : Nat)), Go.Ev.DL.getI (Go.Ev.cellAt x1 (Int.toNat x3) (1 : Nat)), Go.Ev.DL.getS (Go.Ev.cellAt x1 (Int.toNat x3) (2 : Nat)), Go.Ev.DL.getI (Go.Ev.cellAt x2 (Int.toNat x3) (0 : Nat)), Go.Ev.DL.getI (Go.Ev.cellAt x2 (Int.toNat x3) (1 : Nat)), Go.Ev.DL.getS (Go.Ev.cellAt x2 (Int.toNat x3) (2 : Nat)))).bind fun (r8 : Int) =>
              bif r7 != r8 then
                k ((.inl (x1, x2, Bool.false)))
              else
                (l6_4 (x1, x2, Go.IntKind.wrap Go.IntKind.i64 (x3 + (1 : Int)))).bind k
            else none
          else none
        else none
      else none
    else
      k ((.inr (x1, x2)))
  else
    k ((.inr (x1, x2)))
theorem u6_4_eq {R : Type} (sh : Sh) (hsh : ∀ {α R : Type} (x : α) (K : α → Option R), sh x K = K x) (f24 : i24 → Option o24) (f25 : i25 → Option o25) (l6_4 : iL6_4 → Option oL6_4) (x1 : Rows) (x2 : Rows) (x3 : Int) (K : Ex → CSt → Option R) : roundK Tryd.prog (tabO sh hsh br6 ar6 [ent24 f24, ent25 f25]) (tabL [entL6_4 l6_4]) ann6 0 Tryd.f6 4 (encL6_4 (x1, x2, x3)) K = u6_4 sh f24 f25 l6_4 x1 x2 x3 (retKL6_4 K) := by kernel_rfl
theorem u6_4_law {R : Type} (f24 : i24 → Option o24) (f25 : i25 → Option o25) (l6_4 : iL6_4 → Option oL6_4) (x1 : Rows) (x2 : Rows) (x3 : Int) (K : oL6_4 → Option R) : u6_4 sh0 f24 f25 l6_4 x1 x2 x3 K = (u6_4 sh0 f24 f25 l6_4 x1 x2 x3 some).bind K := by
  have key : ∀ (sh : Sh) (_ : ∀ {α R S : Type} (x : α) (f : α → Option R) (K : R → Option S), (sh x f).bind K = sh x fun y => (f y).bind K), u6_4 sh f24 f25 l6_4 x1 x2 x3 K = (u6_4 sh f24 f25 l6_4 x1 x2 x3 some).bind K := by
    intro sh hb
    simp only [u6_4, hb, cond_bind', two_bind, none_bind', Option.bind_assoc, Option.bind_some]
  exact key sh0 (fun _ _ _ => rfl)
theorem okL6_4 (f24 : i24 → Option o24) (f25 : i25 → Option o25) (l6_4 : iL6_4 → Option oL6_4) (hf24 : Sd24 f24) (hf25 : Sd25 f25) (hl6_4 : SdL6_4 l6_4) : SdL6_4 (fun a => u6_4 sh0 f24 f25 l6_4 a.1 a.2.1 a.2.2 some) := by
  intro nt a b h
  refine round_ok (sh := sh0) (hsh := fun _ _ => rfl) (br := br6) (ar := ar6) Tryd.mixed (by kernel_rfl) (.cons (mkEnt_ok hf24) (.cons (mkEnt_ok hf25) .nil)) (.cons (mkLEnt_ok (hl6_4 nt)) .nil) ((u6_4_eq sh0 (fun _ _ => rfl) f24 f25 l6_4  a.1 a.2.1 a.2.2 _).trans ?_)
  rw [u6_4_law]
  simp only at h
  rw [h, Option.bind_some, retKL6_4_eq]
noncomputable def t6 {R : Type} (sh : Sh) (f17 : i17 → Option o17) (f14 : i14 → Option o14) (f26 : i26 → Option o26) (f27 : i27 → Option o27) (l6_4 : iL6_4 → Option oL6_4) (x1 : Rows) (x2 : Rows) (k : o6 → Option R) : Option R :=
  (f17 (x1)).bind fun (r1 : Bool) =>
  bif r1 then
    (f14 ()).bind fun (r2 : Bool) =>
    k (r2)
  else
    (f17 (x2)).bind fun (r3 : Bool) =>
    bif r3 then
      (f14 ()).bind fun (r4 : Bool) =>
      k (r4)
    else
      (l6_4 (x1, x2, (0 : Int))).bind (two (fun (r9 : Rows × Rows × Bool) =>
        k (Prod.snd r9.2)
      ) (fun (r10 : Rows × Rows) =>
        (f26 (Prod.fst r10, Prod.snd r10)).bind fun (r11 : Int) =>
        (f27 (Prod.fst r10, Prod.snd r10)).bind fun (r12 : Int) =>
        bif r11 == r12 then
          (f14 ()).bind fun (r13 : Bool) =>
          k (r13)
        else
          k (Bool.false)
      ))
theorem t6_eq {R : Type} (sh : Sh) (hsh : ∀ {α R : Type} (x : α) (K : α → Option R), sh x K = K x) (f17 : i17 → Option o17) (f14 : i14 → Option o14) (f26 : i26 → Option o26) (f27 : i27 → Option o27) (l6_4 : iL6_4 → Option oL6_4) (x1 : Rows) (x2 : Rows) (K : CSt → Option R) : bodyK Tryd.prog (tabO sh hsh br6 ar6 [ent17 f17, ent14 f14, ent26 f26, ent27 f27]) (tabL [entL6_4 l6_4]) ann6 false Tryd.f6 (enc6 (x1, x2)) K = t6 sh f17 f14 f26 f27 l6_4 x1 x2 (retK6 K) := by kernel_rfl
theorem t6_law {R : Type} (f17 : i17 → Option o17) (f14 : i14 → Option o14) (f26 : i26 → Option o26) (f27 : i27 → Option o27) (l6_4 : iL6_4 → Option oL6_4) (x1 : Rows) (x2 : Rows) (K : o6 → Option R) : t6 sh0 f17 f14 f26 f27 l6_4 x1 x2 K = (t6 sh0 f17 f14 f26 f27 l6_4 x1 x2 some).bind K := by
  have key : ∀ (sh : Sh) (_ : ∀ {α R S : Type} (x : α) (f : α → Option R) (K : R → Option S), (sh x f).bind K = sh x fun y => (f y).bind K), t6 sh f17 f14 f26 f27 l6_4 x1 x2 K = (t6 sh f17 f14 f26 f27 l6_4 x1 x2 some).bind K := by
    intro sh hb
    simp only [t6, hb, cond_bind', two_bind, none_bind', Option.bind_assoc, Option.bind_some]
  exact key sh0 (fun _ _ _ => rfl)
theorem ok6 (f17 : i17 → Option o17) (f14 : i14 → Option o14) (f26 : i26 → Option o26) (f27 : i27 → Option o27) (l6_4 : iL6_4 → Option oL6_4) (hf17 : Sd17 f17) (hf14 : Sd14 f14) (hf26 : Sd26 f26) (hf27 : Sd27 f27) (hl6_4 : SdL6_4 l6_4) : Sd6 (fun a => t6 sh0 f17 f14 f26 f27 l6_4 a.1 a.2 some) := by
  intro a b h
  refine call_ok (sh := sh0) (hsh := fun _ _ => rfl) (br := br6) (ar := ar6) (own := false) Tryd.mixed Tryd.func6 (by kernel_rfl) (.cons (mkEnt_ok hf17) (.cons (mkEnt_ok hf14) (.cons (mkEnt_ok hf26) (.cons (mkEnt_ok hf27) .nil)))) (fun nt => (.cons (mkLEnt_ok (hl6_4 nt)) .nil)) ((t6_eq sh0 (fun _ _ => rfl) f17 f14 f26 f27 l6_4 a.1 a.2 _).trans ?_)
  rw [t6_law]
  simp only at h
  rw [h, Option.bind_some, retK6_eq]

end Go.Proofs.VaG
