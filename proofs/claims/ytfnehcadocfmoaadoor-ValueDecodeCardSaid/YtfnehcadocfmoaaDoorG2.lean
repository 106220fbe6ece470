/- Printed by a tool of mine: plain functions, their equations and contracts. -/
import Derived.Test.YtfnehcadocfmoaaDoorG1
set_option linter.unusedVariables false
set_option linter.unusedSimpArgs false

namespace Go.Proofs.VaG
open Go Go.Ev
/-! 19 erasure/erasureref01.Valid -/
abbrev i19 : Type := Int × Int × ByteArray
def enc19 : i19 → CSt := fun a => ([Go.Ev.SV.agg [Go.Ev.SL.d (Go.Ev.DL.int Go.IntKind.i64 a.1), Go.Ev.SL.d (Go.Ev.DL.int Go.IntKind.i64 a.2.1), Go.Ev.SL.d (Go.Ev.DL.str a.2.2)]], [])
def dec19 : (c : CSt) → Option { a : i19 // c = enc19 a }
  | ([Go.Ev.SV.agg [Go.Ev.SL.d (Go.Ev.DL.int Go.IntKind.i64 x1), Go.Ev.SL.d (Go.Ev.DL.int Go.IntKind.i64 x2), Go.Ev.SL.d (Go.Ev.DL.str x3)]], []) => some ⟨(x1, x2, x3), rfl⟩
  | _ => none
abbrev o19 : Type := Bool
def ret19 : o19 → CSt := fun b => ([Go.Ev.SV.one (Go.Ev.SL.d (Go.Ev.DL.bool b))], [])
def retK19 {R : Type} (K : CSt → Option R) : o19 → Option R := fun b => K (([Go.Ev.SV.one (Go.Ev.SL.d (Go.Ev.DL.bool b))], []))
theorem retK19_eq {R : Type} (K : CSt → Option R) (b : o19) : retK19 K b = K (ret19 b) := rfl
abbrev Sd19 (f : i19 → Option o19) : Prop := ∀ a b, f a = some b → CallOk Tryd.prog 19 (enc19 a) (ret19 b)
def ent19 (f : i19 → Option o19) : Ent := mkEnt 19 dec19 ret19 retK19 retK19_eq f
def ann19 : Nat → List Nat × List Nat := fun id => ([], [])
def br19 : FuncId → Bool := fun (g : Nat) => ([71] : List Nat).any (Nat.beq g)
def ar19 : TypeId → Bool := fun (t : Nat) => ([88, 91, 97] : List Nat).any (Nat.beq t)
noncomputable def t19 {R : Type} (sh : Sh) (x1 : Int) (x2 : Int) (x3 : ByteArray) (k : o19 → Option R) : Option R :=
  bif x1 == (0 : Int) then
    bif x2 == (0 : Int) then
      k (Go.Ev.strEq x3 { data := #[] })
    else
      k (Bool.false)
  else
    bif x1 == (1 : Int) then
      bif Decidable.decide (x2 ≥ (-4294967296 : Int)) then
        bif Decidable.decide (x2 ≤ (4294967296 : Int)) then
          k (Go.Ev.strEq x3 { data := #[] })
        else
          k (Bool.false)
      else
        k (Bool.false)
    else
      bif x1 == (2 : Int) then
        bif x2 == (0 : Int) then
          sh ((↑(ByteArray.size x3) : Int)) fun y1 =>
          k (Decidable.decide (y1 ≤ (32 : Int)))
        else
          k (Bool.false)
      else
        k (Bool.false)
theorem t19_eq {R : Type} (sh : Sh) (hsh : ∀ {α R : Type} (x : α) (K : α → Option R), sh x K = K x) (x1 : Int) (x2 : Int) (x3 : ByteArray) (K : CSt → Option R) : bodyK Tryd.prog (tabO sh hsh br19 ar19 []) (tabL []) ann19 false Tryd.f19 (enc19 (x1, x2, x3)) K = t19 sh x1 x2 x3 (retK19 K) := by kernel_rfl
theorem t19_law {R : Type} (x1 : Int) (x2 : Int) (x3 : ByteArray) (K : o19 → Option R) : t19 sh0 x1 x2 x3 K = (t19 sh0 x1 x2 x3 some).bind K := by
  have key : ∀ (sh : Sh) (_ : ∀ {α R S : Type} (x : α) (f : α → Option R) (K : R → Option S), (sh x f).bind K = sh x fun y => (f y).bind K), t19 sh x1 x2 x3 K = (t19 sh x1 x2 x3 some).bind K := by
    intro sh hb
    simp only [t19, hb, cond_bind', two_bind, none_bind', Option.bind_assoc, Option.bind_some]
  exact key sh0 (fun _ _ _ => rfl)
theorem ok19 : Sd19 (fun a => t19 sh0 a.1 a.2.1 a.2.2 some) := by
  intro a b h
  refine call_ok (sh := sh0) (hsh := fun _ _ => rfl) (br := br19) (ar := ar19) (own := false) Tryd.mixed Tryd.func19 (by kernel_rfl) .nil (fun nt => .nil) ((t19_eq sh0 (fun _ _ => rfl) a.1 a.2.1 a.2.2 _).trans ?_)
  rw [t19_law]
  simp only at h
  rw [h, Option.bind_some, retK19_eq]

/-! 21 erasure/erasureref01.Clean -/
abbrev i21 : Type := Int × Int × ByteArray
def enc21 : i21 → CSt := fun a => ([Go.Ev.SV.agg [Go.Ev.SL.d (Go.Ev.DL.int Go.IntKind.i64 a.1), Go.Ev.SL.d (Go.Ev.DL.int Go.IntKind.i64 a.2.1), Go.Ev.SL.d (Go.Ev.DL.str a.2.2)]], [])
def dec21 : (c : CSt) → Option { a : i21 // c = enc21 a }
  | ([Go.Ev.SV.agg [Go.Ev.SL.d (Go.Ev.DL.int Go.IntKind.i64 x1), Go.Ev.SL.d (Go.Ev.DL.int Go.IntKind.i64 x2), Go.Ev.SL.d (Go.Ev.DL.str x3)]], []) => some ⟨(x1, x2, x3), rfl⟩
  | _ => none
abbrev o21 : Type := Int × Int × ByteArray
def ret21 : o21 → CSt := fun b => ([Go.Ev.SV.agg [Go.Ev.SL.d (Go.Ev.DL.int Go.IntKind.i64 b.1), Go.Ev.SL.d (Go.Ev.DL.int Go.IntKind.i64 b.2.1), Go.Ev.SL.d (Go.Ev.DL.str b.2.2)]], [])
def retK21 {R : Type} (K : CSt → Option R) : o21 → Option R := fun b => K (([Go.Ev.SV.agg [Go.Ev.SL.d (Go.Ev.DL.int Go.IntKind.i64 b.1), Go.Ev.SL.d (Go.Ev.DL.int Go.IntKind.i64 b.2.1), Go.Ev.SL.d (Go.Ev.DL.str b.2.2)]], []))
theorem retK21_eq {R : Type} (K : CSt → Option R) (b : o21) : retK21 K b = K (ret21 b) := rfl
abbrev Sd21 (f : i21 → Option o21) : Prop := ∀ a b, f a = some b → CallOk Tryd.prog 21 (enc21 a) (ret21 b)
def ent21 (f : i21 → Option o21) : Ent := mkEnt 21 dec21 ret21 retK21 retK21_eq f
def ann21 : Nat → List Nat × List Nat := fun id => ([], [])
def br21 : FuncId → Bool := fun (g : Nat) => ([71] : List Nat).any (Nat.beq g)
def ar21 : TypeId → Bool := fun (t : Nat) => ([88, 91, 97] : List Nat).any (Nat.beq t)
noncomputable def t21 {R : Type} (sh : Sh) (f19 : i19 → Option o19) (x1 : Int) (x2 : Int) (x3 : ByteArray) (k : o21 → Option R) : Option R :=
  (f19 (x1, x2, x3)).bind fun (r1 : Bool) =>
  bif r1 then
    k ((x1, x2, x3))
  else
    k (((0 : Int), (0 : Int), { data := #[] }))
theorem t21_eq {R : Type} (sh : Sh) (hsh : ∀ {α R : Type} (x : α) (K : α → Option R), sh x K = K x) (f19 : i19 → Option o19) (x1 : Int) (x2 : Int) (x3 : ByteArray) (K : CSt → Option R) : bodyK Tryd.prog (tabO sh hsh br21 ar21 [ent19 f19]) (tabL []) ann21 false Tryd.f21 (enc21 (x1, x2, x3)) K = t21 sh f19 x1 x2 x3 (retK21 K) := by kernel_rfl
theorem t21_law {R : Type} (f19 : i19 → Option o19) (x1 : Int) (x2 : Int) (x3 : ByteArray) (K : o21 → Option R) : t21 sh0 f19 x1 x2 x3 K = (t21 sh0 f19 x1 x2 x3 some).bind K := by
  have key : ∀ (sh : Sh) (_ : ∀ {α R S : Type} (x : α) (f : α → Option R) (K : R → Option S), (sh x f).bind K = sh x fun y => (f y).bind K), t21 sh f19 x1 x2 x3 K = (t21 sh f19 x1 x2 x3 some).bind K := by
    intro sh hb
    simp only [t21, hb, cond_bind', two_bind, none_bind', Option.bind_assoc, Option.bind_some]
  exact key sh0 (fun _ _ _ => rfl)
theorem ok21 (f19 : i19 → Option o19) (hf19 : Sd19 f19) : Sd21 (fun a => t21 sh0 f19 a.1 a.2.1 a.2.2 some) := by
  intro a b h
  refine call_ok (sh := sh0) (hsh := fun _ _ => rfl) (br := br21) (ar := ar21) (own := false) Tryd.mixed Tryd.func21 (by kernel_rfl) (.cons (mkEnt_ok hf19) .nil) (fun nt => .nil) ((t21_eq sh0 (fun _ _ => rfl) f19 a.1 a.2.1 a.2.2 _).trans ?_)
  rw [t21_law]
  simp only at h
  rw [h, Option.bind_some, retK21_eq]

/-! 22 erasure/value.ValidRow -/
abbrev i22 : Type := Rows
def enc22 : i22 → CSt := fun a => ([Go.Ev.SV.one (Go.Ev.SL.d (Go.Ev.DL.lst (23 : Nat) a))], [])
def dec22 : (c : CSt) → Option { a : i22 // c = enc22 a }
  | ([Go.Ev.SV.one (Go.Ev.SL.d (Go.Ev.DL.lst (23 : Nat) x1))], []) => some ⟨x1, rfl⟩
  | _ => none
abbrev o22 : Type := Bool
def ret22 : o22 → CSt := fun b => ([Go.Ev.SV.one (Go.Ev.SL.d (Go.Ev.DL.bool b))], [])
def retK22 {R : Type} (K : CSt → Option R) : o22 → Option R := fun b => K (([Go.Ev.SV.one (Go.Ev.SL.d (Go.Ev.DL.bool b))], []))
theorem retK22_eq {R : Type} (K : CSt → Option R) (b : o22) : retK22 K b = K (ret22 b) := rfl
abbrev Sd22 (f : i22 → Option o22) : Prop := ∀ a b, f a = some b → CallOk Tryd.prog 22 (enc22 a) (ret22 b)
def ent22 (f : i22 → Option o22) : Ent := mkEnt 22 dec22 ret22 retK22 retK22_eq f
def ann22 : Nat → List Nat × List Nat := fun id => bif Nat.beq id 2 then ([0, 5, 6, 7], [0, 2]) else ([], [])
def br22 : FuncId → Bool := fun (g : Nat) => ([71] : List Nat).any (Nat.beq g)
def ar22 : TypeId → Bool := fun (t : Nat) => ([88, 91, 97] : List Nat).any (Nat.beq t)
abbrev iL22_2 : Type := Rows × Rows × Int × Int
def encL22_2 : iL22_2 → CSt := fun a => ([Go.Ev.SV.one (Go.Ev.SL.d (Go.Ev.DL.lst (23 : Nat) a.1)), Go.Ev.SV.one (Go.Ev.SL.d (Go.Ev.DL.lst (23 : Nat) a.2.1)), Go.Ev.SV.one (Go.Ev.SL.d (Go.Ev.DL.int Go.IntKind.i64 a.2.2.1)), Go.Ev.SV.one (Go.Ev.SL.d (Go.Ev.DL.int Go.IntKind.i64 a.2.2.2))], [])
def decL22_2 : (c : CSt) → Option { a : iL22_2 // c = encL22_2 a }
  | ([Go.Ev.SV.one (Go.Ev.SL.d (Go.Ev.DL.lst (23 : Nat) x1)), Go.Ev.SV.one (Go.Ev.SL.d (Go.Ev.DL.lst (23 : Nat) x2)), Go.Ev.SV.one (Go.Ev.SL.d (Go.Ev.DL.int Go.IntKind.i64 x3)), Go.Ev.SV.one (Go.Ev.SL.d (Go.Ev.DL.int Go.IntKind.i64 x4))], []) => some ⟨(x1, x2, x3, x4), rfl⟩
  | _ => none
abbrev oL22_2 : Type := (Rows × Bool) ⊕ (Rows)
def retL22_2 : oL22_2 → Ex × CSt := two (fun b => (Go.Ev.Ex.ret, ([Go.Ev.SV.one (Go.Ev.SL.d (Go.Ev.DL.lst (23 : Nat) b.1)), Go.Ev.SV.one (Go.Ev.SL.d (Go.Ev.DL.bool b.2))], []))) (fun b => (Go.Ev.Ex.exit (0 : Nat), ([Go.Ev.SV.one (Go.Ev.SL.d (Go.Ev.DL.lst (23 : Nat) b)), Go.Ev.SV.one Go.Ev.SL.un], [])))
def retKL22_2 {R : Type} (K : Ex → CSt → Option R) : oL22_2 → Option R := two (fun b => K (Go.Ev.Ex.ret) (([Go.Ev.SV.one (Go.Ev.SL.d (Go.Ev.DL.lst (23 : Nat) b.1)), Go.Ev.SV.one (Go.Ev.SL.d (Go.Ev.DL.bool b.2))], []))) (fun b => K (Go.Ev.Ex.exit (0 : Nat)) (([Go.Ev.SV.one (Go.Ev.SL.d (Go.Ev.DL.lst (23 : Nat) b)), Go.Ev.SV.one Go.Ev.SL.un], [])))
theorem retKL22_2_eq {R : Type} (K : Ex → CSt → Option R) (b : oL22_2) : retKL22_2 K b = K (retL22_2 b).1 (retL22_2 b).2 := by
  unfold retKL22_2 retL22_2
  repeat' (first | rfl | cases b with | inl b => rfl | inr b => ?_)
def entL22_2 (l : iL22_2 → Option oL22_2) : LEnt := mkLEnt 2 decL22_2 retL22_2 retKL22_2 retKL22_2_eq l
abbrev SdL22_2 (l : iL22_2 → Option oL22_2) : Prop := ∀ nt a b, l a = some b → LoopAt Tryd.prog nt 0 ann22 Tryd.f22 2 (encL22_2 a) (retL22_2 b)
noncomputable def u22_2 {R : Type} (sh : Sh) (f18 : i18 → Option o18) (l22_2 : iL22_2 → Option oL22_2) (x1 : Rows) (x2 : Rows) (x3 : Int) (x4 : Int) (k : oL22_2 → Option R) : Option R :=
  bif Decidable.decide (x4 < x3) then
    bif Decidable.decide ((0 : Int) ≤ x4 ∧ x4 < (↑(List.length x2) : Int)) then
      (f18 (Go.Ev.DL.getI (Go.Ev.cellAt x2 (Int.toNat x4) (0 : Nat)), Go.Ev.DL.getI (Go.Ev.cellAt x2 (Int.toNat x4) (1 : Nat)), Go.Ev.DL.getS (Go.Ev.cellAt x2 (Int.toNat x4) (2 : Nat)))).bind fun (r2 : Bool) =>
      bif !r2 then
        k ((.inl (x1, Bool.false)))
      else
        (l22_2 (x1, x2, x3, Go.IntKind.wrap Go.IntKind.i64 (x4 + (1 : Int)))).bind k
    else none
  else
    k ((.inr x1))
theorem u22_2_eq {R : Type} (sh : Sh) (hsh : ∀ {α R : Type} (x : α) (K : α → Option R), sh x K = K x) (f18 : i18 → Option o18) (l22_2 : iL22_2 → Option oL22_2) (x1 : Rows) (x2 : Rows) (x3 : Int) (x4 : Int) (K : Ex → CSt → Option R) : roundK Tryd.prog (tabO sh hsh br22 ar22 [ent18 f18]) (tabL [entL22_2 l22_2]) ann22 0 Tryd.f22 2 (encL22_2 (x1, x2, x3, x4)) K = u22_2 sh f18 l22_2 x1 x2 x3 x4 (retKL22_2 K) := by kernel_rfl
theorem u22_2_law {R : Type} (f18 : i18 → Option o18) (l22_2 : iL22_2 → Option oL22_2) (x1 : Rows) (x2 : Rows) (x3 : Int) (x4 : Int) (K : oL22_2 → Option R) : u22_2 sh0 f18 l22_2 x1 x2 x3 x4 K = (u22_2 sh0 f18 l22_2 x1 x2 x3 x4 some).bind K := by
  have key : ∀ (sh : Sh) (_ : ∀ {α R S : Type} (x : α) (f : α → Option R) (K : R → Option S), (sh x f).bind K = sh x fun y => (f y).bind K), u22_2 sh f18 l22_2 x1 x2 x3 x4 K = (u22_2 sh f18 l22_2 x1 x2 x3 x4 some).bind K := by
    intro sh hb
    simp only [u22_2, hb, cond_bind', two_bind, none_bind', Option.bind_assoc, Option.bind_some]
  exact key sh0 (fun _ _ _ => rfl)
theorem okL22_2 (f18 : i18 → Option o18) (l22_2 : iL22_2 → Option oL22_2) (hf18 : Sd18 f18) (hl22_2 : SdL22_2 l22_2) : SdL22_2 (fun a => u22_2 sh0 f18 l22_2 a.1 a.2.1 a.2.2.1 a.2.2.2 some) := by
  intro nt a b h
  refine round_ok (sh := sh0) (hsh := fun _ _ => rfl) (br := br22) (ar := ar22) Tryd.mixed (by kernel_rfl) (.cons (mkEnt_ok hf18) .nil) (.cons (mkLEnt_ok (hl22_2 nt)) .nil) ((u22_2_eq sh0 (fun _ _ => rfl) f18 l22_2  a.1 a.2.1 a.2.2.1 a.2.2.2 _).trans ?_)
  rw [u22_2_law]
  simp only at h
  rw [h, Option.bind_some, retKL22_2_eq]
noncomputable def t22 {R : Type} (sh : Sh) (l22_2 : iL22_2 → Option oL22_2) (x1 : Rows) (k : o22 → Option R) : Option R :=
  sh ((↑(List.length x1) : Int)) fun y1 =>
  (l22_2 (x1, x1, y1, (0 : Int))).bind (two (fun (r3 : Rows × Bool) =>
    k (Prod.snd r3)
  ) (fun (r4 : Rows) =>
    sh ((↑(List.length r4) : Int)) fun y5 =>
    k (Decidable.decide (y5 ≤ (16 : Int)))
  ))
theorem t22_eq {R : Type} (sh : Sh) (hsh : ∀ {α R : Type} (x : α) (K : α → Option R), sh x K = K x) (l22_2 : iL22_2 → Option oL22_2) (x1 : Rows) (K : CSt → Option R) : bodyK Tryd.prog (tabO sh hsh br22 ar22 []) (tabL [entL22_2 l22_2]) ann22 false Tryd.f22 (enc22 x1) K = t22 sh l22_2 x1 (retK22 K) := by kernel_rfl
theorem t22_law {R : Type} (l22_2 : iL22_2 → Option oL22_2) (x1 : Rows) (K : o22 → Option R) : t22 sh0 l22_2 x1 K = (t22 sh0 l22_2 x1 some).bind K := by
  have key : ∀ (sh : Sh) (_ : ∀ {α R S : Type} (x : α) (f : α → Option R) (K : R → Option S), (sh x f).bind K = sh x fun y => (f y).bind K), t22 sh l22_2 x1 K = (t22 sh l22_2 x1 some).bind K := by
    intro sh hb
    simp only [t22, hb, cond_bind', two_bind, none_bind', Option.bind_assoc, Option.bind_some]
  exact key sh0 (fun _ _ _ => rfl)
theorem ok22 (l22_2 : iL22_2 → Option oL22_2) (hl22_2 : SdL22_2 l22_2) : Sd22 (fun a => t22 sh0 l22_2 a some) := by
  intro a b h
  refine call_ok (sh := sh0) (hsh := fun _ _ => rfl) (br := br22) (ar := ar22) (own := false) Tryd.mixed Tryd.func22 (by kernel_rfl) .nil (fun nt => (.cons (mkLEnt_ok (hl22_2 nt)) .nil)) ((t22_eq sh0 (fun _ _ => rfl) l22_2 a _).trans ?_)
  rw [t22_law]
  simp only at h
  rw [h, Option.bind_some, retK22_eq]

/-! 23 erasure/erasureref01.ValidRow -/
abbrev i23 : Type := Rows
def enc23 : i23 → CSt := fun a => ([Go.Ev.SV.one (Go.Ev.SL.d (Go.Ev.DL.lst (23 : Nat) a))], [])
def dec23 : (c : CSt) → Option { a : i23 // c = enc23 a }
  | ([Go.Ev.SV.one (Go.Ev.SL.d (Go.Ev.DL.lst (23 : Nat) x1))], []) => some ⟨x1, rfl⟩
  | _ => none
abbrev o23 : Type := Bool
def ret23 : o23 → CSt := fun b => ([Go.Ev.SV.one (Go.Ev.SL.d (Go.Ev.DL.bool b))], [])
def retK23 {R : Type} (K : CSt → Option R) : o23 → Option R := fun b => K (([Go.Ev.SV.one (Go.Ev.SL.d (Go.Ev.DL.bool b))], []))
theorem retK23_eq {R : Type} (K : CSt → Option R) (b : o23) : retK23 K b = K (ret23 b) := rfl
abbrev Sd23 (f : i23 → Option o23) : Prop := ∀ a b, f a = some b → CallOk Tryd.prog 23 (enc23 a) (ret23 b)
def ent23 (f : i23 → Option o23) : Ent := mkEnt 23 dec23 ret23 retK23 retK23_eq f
def ann23 : Nat → List Nat × List Nat := fun id => bif Nat.beq id 4 then ([0, 3], [2]) else ([], [])
def br23 : FuncId → Bool := fun (g : Nat) => ([71] : List Nat).any (Nat.beq g)
def ar23 : TypeId → Bool := fun (t : Nat) => ([88, 91, 97] : List Nat).any (Nat.beq t)
abbrev iL23_4 : Type := Rows × Int
def encL23_4 : iL23_4 → CSt := fun a => ([Go.Ev.SV.one (Go.Ev.SL.d (Go.Ev.DL.lst (23 : Nat) a.1)), Go.Ev.SV.one (Go.Ev.SL.d (Go.Ev.DL.int Go.IntKind.i64 a.2))], [])
def decL23_4 : (c : CSt) → Option { a : iL23_4 // c = encL23_4 a }
  | ([Go.Ev.SV.one (Go.Ev.SL.d (Go.Ev.DL.lst (23 : Nat) x1)), Go.Ev.SV.one (Go.Ev.SL.d (Go.Ev.DL.int Go.IntKind.i64 x2))], []) => some ⟨(x1, x2), rfl⟩
  | _ => none
abbrev oL23_4 : Type := (Bool) ⊕ (Unit)
def retL23_4 : oL23_4 → Ex × CSt := two (fun b => (Go.Ev.Ex.ret, ([Go.Ev.SV.one (Go.Ev.SL.d (Go.Ev.DL.bool b))], []))) (fun b => (Go.Ev.Ex.exit (0 : Nat), ([Go.Ev.SV.one Go.Ev.SL.un], [])))
def retKL23_4 {R : Type} (K : Ex → CSt → Option R) : oL23_4 → Option R := two (fun b => K (Go.Ev.Ex.ret) (([Go.Ev.SV.one (Go.Ev.SL.d (Go.Ev.DL.bool b))], []))) (fun b => K (Go.Ev.Ex.exit (0 : Nat)) (([Go.Ev.SV.one Go.Ev.SL.un], [])))
theorem retKL23_4_eq {R : Type} (K : Ex → CSt → Option R) (b : oL23_4) : retKL23_4 K b = K (retL23_4 b).1 (retL23_4 b).2 := by
  unfold retKL23_4 retL23_4
  repeat' (first | rfl | cases b with | inl b => rfl | inr b => ?_)
def entL23_4 (l : iL23_4 → Option oL23_4) : LEnt := mkLEnt 4 decL23_4 retL23_4 retKL23_4 retKL23_4_eq l
abbrev SdL23_4 (l : iL23_4 → Option oL23_4) : Prop := ∀ nt a b, l a = some b → LoopAt Tryd.prog nt 0 ann23 Tryd.f23 4 (encL23_4 a) (retL23_4 b)
noncomputable def u23_4 {R : Type} (sh : Sh) (f19 : i19 → Option o19) (l23_4 : iL23_4 → Option oL23_4) (x1 : Rows) (x2 : Int) (k : oL23_4 → Option R) : Option R :=
  sh ((↑(List.length x1) : Int)) fun y2 =>
  bif Decidable.decide (x2 < y2) then
    bif Decidable.decide ((0 : Int) ≤ x2 ∧ x2 < (↑(List.length x1) : Int)) then
      (f19 (Go.Ev.DL.getI (Go.Ev.cellAt x1 (Int.toNat x2) (0 : Nat)), Go.Ev.DL.getI (Go.Ev.cellAt x1 (Int.toNat x2) (1 : Nat)), Go.Ev.DL.getS (Go.Ev.cellAt x1 (Int.toNat x2) (2 : Nat)))).bind fun (r3 : Bool) =>
      bif !r3 then
        k ((.inl Bool.false))
      else
        (l23_4 (x1, Go.IntKind.wrap Go.IntKind.i64 (x2 + (1 : Int)))).bind k
    else none
  else
    k ((.inr ()))
theorem u23_4_eq {R : Type} (sh : Sh) (hsh : ∀ {α R : Type} (x : α) (K : α → Option R), sh x K = K x) (f19 : i19 → Option o19) (l23_4 : iL23_4 → Option oL23_4) (x1 : Rows) (x2 : Int) (K : Ex → CSt → Option R) : roundK Tryd.prog (tabO sh hsh br23 ar23 [ent19 f19]) (tabL [entL23_4 l23_4]) ann23 0 Tryd.f23 4 (encL23_4 (x1, x2)) K = u23_4 sh f19 l23_4 x1 x2 (retKL23_4 K) := by kernel_rfl
theorem u23_4_law {R : Type} (f19 : i19 → Option o19) (l23_4 : iL23_4 → Option oL23_4) (x1 : Rows) (x2 : Int) (K : oL23_4 → Option R) : u23_4 sh0 f19 l23_4 x1 x2 K = (u23_4 sh0 f19 l23_4 x1 x2 some).bind K := by
  have key : ∀ (sh : Sh) (_ : ∀ {α R S : Type} (x : α) (f : α → Option R) (K : R → Option S), (sh x f).bind K = sh x fun y => (f y).bind K), u23_4 sh f19 l23_4 x1 x2 K = (u23_4 sh f19 l23_4 x1 x2 some).bind K := by
    intro sh hb
    simp only [u23_4, hb, cond_bind', two_bind, none_bind', Option.bind_assoc, Option.bind_some]
  exact key sh0 (fun _ _ _ => rfl)
theorem okL23_4 (f19 : i19 → Option o19) (l23_4 : iL23_4 → Option oL23_4) (hf19 : Sd19 f19) (hl23_4 : SdL23_4 l23_4) : SdL23_4 (fun a => u23_4 sh0 f19 l23_4 a.1 a.2 some) := by
  intro nt a b h
  refine round_ok (sh := sh0) (hsh := fun _ _ => rfl) (br := br23) (ar := ar23) Tryd.mixed (by kernel_rfl) (.cons (mkEnt_ok hf19) .nil) (.cons (mkLEnt_ok (hl23_4 nt)) .nil) ((u23_4_eq sh0 (fun _ _ => rfl) f19 l23_4  a.1 a.2 _).trans ?_)
  rw [u23_4_law]
  simp only at h
  rw [h, Option.bind_some, retKL23_4_eq]
noncomputable def t23 {R : Type} (sh : Sh) (l23_4 : iL23_4 → Option oL23_4) (x1 : Rows) (k : o23 → Option R) : Option R :=
  sh ((↑(List.length x1) : Int)) fun y1 =>
  bif Decidable.decide (y1 > (16 : Int)) then
    k (Bool.false)
  else
    (l23_4 (x1, (0 : Int))).bind (two (fun (r4 : Bool) =>
      k (r4)
    ) (fun _ =>
      k (Bool.true)
    ))
theorem t23_eq {R : Type} (sh : Sh) (hsh : ∀ {α R : Type} (x : α) (K : α → Option R), sh x K = K x) (l23_4 : iL23_4 → Option oL23_4) (x1 : Rows) (K : CSt → Option R) : bodyK Tryd.prog (tabO sh hsh br23 ar23 []) (tabL [entL23_4 l23_4]) ann23 false Tryd.f23 (enc23 x1) K = t23 sh l23_4 x1 (retK23 K) := by kernel_rfl
theorem t23_law {R : Type} (l23_4 : iL23_4 → Option oL23_4) (x1 : Rows) (K : o23 → Option R) : t23 sh0 l23_4 x1 K = (t23 sh0 l23_4 x1 some).bind K := by
  have key : ∀ (sh : Sh) (_ : ∀ {α R S : Type} (x : α) (f : α → Option R) (K : R → Option S), (sh x f).bind K = sh x fun y => (f y).bind K), t23 sh l23_4 x1 K = (t23 sh l23_4 x1 some).bind K := by
    intro sh hb
    simp only [t23, hb, cond_bind', two_bind, none_bind', Option.bind_assoc, Option.bind_some]
  exact key sh0 (fun _ _ _ => rfl)
theorem ok23 (l23_4 : iL23_4 → Option oL23_4) (hl23_4 : SdL23_4 l23_4) : Sd23 (fun a => t23 sh0 l23_4 a some) := by
  intro a b h
  refine call_ok (sh := sh0) (hsh := fun _ _ => rfl) (br := br23) (ar := ar23) (own := false) Tryd.mixed Tryd.func23 (by kernel_rfl) .nil (fun nt => (.cons (mkLEnt_ok (hl23_4 nt)) .nil)) ((t23_eq sh0 (fun _ _ => rfl) l23_4 a _).trans ?_)
  rw [t23_law]
  simp only at h
  rw [h, Option.bind_some, retK23_eq]

/-! 62 cmp.isNaN[int] -/
abbrev i62 : Type := Int
def enc62 : i62 → CSt := fun a => ([Go.Ev.SV.one (Go.Ev.SL.d (Go.Ev.DL.int Go.IntKind.i64 a))], [])
def dec62 : (c : CSt) → Option { a : i62 // c = enc62 a }
  | ([Go.Ev.SV.one (Go.Ev.SL.d (Go.Ev.DL.int Go.IntKind.i64 x1))], []) => some ⟨x1, rfl⟩
  | _ => none
abbrev o62 : Type := Bool
def ret62 : o62 → CSt := fun b => ([Go.Ev.SV.one (Go.Ev.SL.d (Go.Ev.DL.bool b))], [])
def retK62 {R : Type} (K : CSt → Option R) : o62 → Option R := fun b => K (([Go.Ev.SV.one (Go.Ev.SL.d (Go.Ev.DL.bool b))], []))
theorem retK62_eq {R : Type} (K : CSt → Option R) (b : o62) : retK62 K b = K (ret62 b) := rfl
abbrev Sd62 (f : i62 → Option o62) : Prop := ∀ a b, f a = some b → CallOk Tryd.prog 62 (enc62 a) (ret62 b)
def ent62 (f : i62 → Option o62) : Ent := mkEnt 62 dec62 ret62 retK62 retK62_eq f
def ann62 : Nat → List Nat × List Nat := fun id => ([], [])
def br62 : FuncId → Bool := fun (g : Nat) => ([71] : List Nat).any (Nat.beq g)
def ar62 : TypeId → Bool := fun (t : Nat) => ([88, 91, 97] : List Nat).any (Nat.beq t)
noncomputable def t62 {R : Type} (sh : Sh) (x1 : Int) (k : o62 → Option R) : Option R :=
  k (x1 != x1)
theorem t62_eq {R : Type} (sh : Sh) (hsh : ∀ {α R : Type} (x : α) (K : α → Option R), sh x K = K x) (x1 : Int) (K : CSt → Option R) : bodyK Tryd.prog (tabO sh hsh br62 ar62 []) (tabL []) ann62 false Tryd.f62 (enc62 x1) K = t62 sh x1 (retK62 K) := by kernel_rfl
theorem t62_law {R : Type} (x1 : Int) (K : o62 → Option R) : t62 sh0 x1 K = (t62 sh0 x1 some).bind K := by
  have key : ∀ (sh : Sh) (_ : ∀ {α R S : Type} (x : α) (f : α → Option R) (K : R → Option S), (sh x f).bind K = sh x fun y => (f y).bind K), t62 sh x1 K = (t62 sh x1 some).bind K := by
    intro sh hb
    simp only [t62, hb, cond_bind', two_bind, none_bind', Option.bind_assoc, Option.bind_some]
  exact key sh0 (fun _ _ _ => rfl)
theorem ok62 : Sd62 (fun a => t62 sh0 a some) := by
  intro a b h
  refine call_ok (sh := sh0) (hsh := fun _ _ => rfl) (br := br62) (ar := ar62) (own := false) Tryd.mixed Tryd.func62 (by kernel_rfl) .nil (fun nt => .nil) ((t62_eq sh0 (fun _ _ => rfl) a _).trans ?_)
  rw [t62_law]
  simp only at h
  rw [h, Option.bind_some, retK62_eq]

/-! 46 cmp.Compare[int] -/
abbrev i46 : Type := Int × Int
def enc46 : i46 → CSt := fun a => ([Go.Ev.SV.one (Go.Ev.SL.d (Go.Ev.DL.int Go.IntKind.i64 a.1)), Go.Ev.SV.one (Go.Ev.SL.d (Go.Ev.DL.int Go.IntKind.i64 a.2))], [])
def dec46 : (c : CSt) → Option { a : i46 // c = enc46 a }
  | ([Go.Ev.SV.one (Go.Ev.SL.d (Go.Ev.DL.int Go.IntKind.i64 x1)), Go.Ev.SV.one (Go.Ev.SL.d (Go.Ev.DL.int Go.IntKind.i64 x2))], []) => some ⟨(x1, x2), rfl⟩
  | _ => none
abbrev o46 : Type := Int
def ret46 : o46 → CSt := fun b => ([Go.Ev.SV.one (Go.Ev.SL.d (Go.Ev.DL.int Go.IntKind.i64 b))], [])
def retK46 {R : Type} (K : CSt → Option R) : o46 → Option R := fun b => K (([Go.Ev.SV.one (Go.Ev.SL.d (Go.Ev.DL.int Go.IntKind.i64 b))], []))
theorem retK46_eq {R : Type} (K : CSt → Option R) (b : o46) : retK46 K b = K (ret46 b) := rfl
abbrev Sd46 (f : i46 → Option o46) : Prop := ∀ a b, f a = some b → CallOk Tryd.prog 46 (enc46 a) (ret46 b)
def ent46 (f : i46 → Option o46) : Ent := mkEnt 46 dec46 ret46 retK46 retK46_eq f
def ann46 : Nat → List Nat × List Nat := fun id => ([], [])
def br46 : FuncId → Bool := fun (g : Nat) => ([71] : List Nat).any (Nat.beq g)
def ar46 : TypeId → Bool := fun (t : Nat) => ([88, 91, 97] : List Nat).any (Nat.beq t)
noncomputable def t46 {R : Type} (sh : Sh) (f62 : i62 → Option o62) (x1 : Int) (x2 : Int) (k : o46 → Option R) : Option R :=
  (f62 (x1)).bind fun (r1 : Bool) =>
  (f62 (x2)).bind fun (r2 : Bool) =>
  bif r1 then
    bif r2 then
      k ((0 : Int))
    else
      k ((-1 : Int))
  else
    bif r2 then
      k ((1 : Int))
    else
      bif Decidable.decide (x1 < x2) then
        k ((-1 : Int))
      else
        bif Decidable.decide (x1 > x2) then
          k ((1 : Int))
        else
          k ((0 : Int))
theorem t46_eq {R : Type} (sh : Sh) (hsh : ∀ {α R : Type} (x : α) (K : α → Option R), sh x K = K x) (f62 : i62 → Option o62) (x1 : Int) (x2 : Int) (K : CSt → Option R) : bodyK Tryd.prog (tabO sh hsh br46 ar46 [ent62 f62]) (tabL []) ann46 false Tryd.f46 (enc46 (x1, x2)) K = t46 sh f62 x1 x2 (retK46 K) := by kernel_rfl
theorem t46_law {R : Type} (f62 : i62 → Option o62) (x1 : Int) (x2 : Int) (K : o46 → Option R) : t46 sh0 f62 x1 x2 K = (t46 sh0 f62 x1 x2 some).bind K := by
  have key : ∀ (sh : Sh) (_ : ∀ {α R S : Type} (x : α) (f : α → Option R) (K : R → Option S), (sh x f).bind K = sh x fun y => (f y).bind K), t46 sh f62 x1 x2 K = (t46 sh f62 x1 x2 some).bind K := by
    intro sh hb
    simp only [t46, hb, cond_bind', two_bind, none_bind', Option.bind_assoc, Option.bind_some]
  exact key sh0 (fun _ _ _ => rfl)
theorem ok46 (f62 : i62 → Option o62) (hf62 : Sd62 f62) : Sd46 (fun a => t46 sh0 f62 a.1 a.2 some) := by
  intro a b h
  refine call_ok (sh := sh0) (hsh := fun _ _ => rfl) (br := br46) (ar := ar46) (own := false) Tryd.mixed Tryd.func46 (by kernel_rfl) (.cons (mkEnt_ok hf62) .nil) (fun nt => .nil) ((t46_eq sh0 (fun _ _ => rfl) f62 a.1 a.2 _).trans ?_)
  rw [t46_law]
  simp only at h
  rw [h, Option.bind_some, retK46_eq]

/-! 63 cmp.isNaN[int64] -/
abbrev i63 : Type := Int
def enc63 : i63 → CSt := fun a => ([Go.Ev.SV.one (Go.Ev.SL.d (Go.Ev.DL.int Go.IntKind.i64 a))], [])
def dec63 : (c : CSt) → Option { a : i63 // c = enc63 a }
  | ([Go.Ev.SV.one (Go.Ev.SL.d (Go.Ev.DL.int Go.IntKind.i64 x1))], []) => some ⟨x1, rfl⟩
  | _ => none
abbrev o63 : Type := Bool
def ret63 : o63 → CSt := fun b => ([Go.Ev.SV.one (Go.Ev.SL.d (Go.Ev.DL.bool b))], [])
def retK63 {R : Type} (K : CSt → Option R) : o63 → Option R := fun b => K (([Go.Ev.SV.one (Go.Ev.SL.d (Go.Ev.DL.bool b))], []))
theorem retK63_eq {R : Type} (K : CSt → Option R) (b : o63) : retK63 K b = K (ret63 b) := rfl
abbrev Sd63 (f : i63 → Option o63) : Prop := ∀ a b, f a = some b → CallOk Tryd.prog 63 (enc63 a) (ret63 b)
def ent63 (f : i63 → Option o63) : Ent := mkEnt 63 dec63 ret63 retK63 retK63_eq f
def ann63 : Nat → List Nat × List Nat := fun id => ([], [])
def br63 : FuncId → Bool := fun (g : Nat) => ([71] : List Nat).any (Nat.beq g)
def ar63 : TypeId → Bool := fun (t : Nat) => ([88, 91, 97] : List Nat).any (Nat.beq t)
noncomputable def t63 {R : Type} (sh : Sh) (x1 : Int) (k : o63 → Option R) : Option R :=
  k (x1 != x1)
theorem t63_eq {R : Type} (sh : Sh) (hsh : ∀ {α R : Type} (x : α) (K : α → Option R), sh x K = K x) (x1 : Int) (K : CSt → Option R) : bodyK Tryd.prog (tabO sh hsh br63 ar63 []) (tabL []) ann63 false Tryd.f63 (enc63 x1) K = t63 sh x1 (retK63 K) := by kernel_rfl
theorem t63_law {R : Type} (x1 : Int) (K : o63 → Option R) : t63 sh0 x1 K = (t63 sh0 x1 some).bind K := by
  have key : ∀ (sh : Sh) (_ : ∀ {α R S : Type} (x : α) (f : α → Option R) (K : R → Option S), (sh x f).bind K = sh x fun y => (f y).bind K), t63 sh x1 K = (t63 sh x1 some).bind K := by
    intro sh hb
    simp only [t63, hb, cond_bind', two_bind, none_bind', Option.bind_assoc, Option.bind_some]
  exact key sh0 (fun _ _ _ => rfl)
theorem ok63 : Sd63 (fun a => t63 sh0 a some) := by
  intro a b h
  refine call_ok (sh := sh0) (hsh := fun _ _ => rfl) (br := br63) (ar := ar63) (own := false) Tryd.mixed Tryd.func63 (by kernel_rfl) .nil (fun nt => .nil) ((t63_eq sh0 (fun _ _ => rfl) a _).trans ?_)
  rw [t63_law]
  simp only at h
  rw [h, Option.bind_some, retK63_eq]

/-! 47 cmp.Compare[int64] -/
abbrev i47 : Type := Int × Int
def enc47 : i47 → CSt := fun a => ([Go.Ev.SV.one (Go.Ev.SL.d (Go.Ev.DL.int Go.IntKind.i64 a.1)), Go.Ev.SV.one (Go.Ev.SL.d (Go.Ev.DL.int Go.IntKind.i64 a.2))], [])
def dec47 : (c : CSt) → Option { a : i47 // c = enc47 a }
  | ([Go.Ev.SV.one (Go.Ev.SL.d (Go.Ev.DL.int Go.IntKind.i64 x1)), Go.Ev.SV.one (Go.Ev.SL.d (Go.Ev.DL.int Go.IntKind.i64 x2))], []) => some ⟨(x1, x2), rfl⟩
  | _ => none
abbrev o47 : Type := Int
def ret47 : o47 → CSt := fun b => ([Go.Ev.SV.one (Go.Ev.SL.d (Go.Ev.DL.int Go.IntKind.i64 b))], [])
def retK47 {R : Type} (K : CSt → Option R) : o47 → Option R := fun b => K (([Go.Ev.SV.one (Go.Ev.SL.d (Go.Ev.DL.int Go.IntKind.i64 b))], []))
theorem retK47_eq {R : Type} (K : CSt → Option R) (b : o47) : retK47 K b = K (ret47 b) := rfl
abbrev Sd47 (f : i47 → Option o47) : Prop := ∀ a b, f a = some b → CallOk Tryd.prog 47 (enc47 a) (ret47 b)
def ent47 (f : i47 → Option o47) : Ent := mkEnt 47 dec47 ret47 retK47 retK47_eq f
def ann47 : Nat → List Nat × List Nat := fun id => ([], [])
def br47 : FuncId → Bool := fun (g : Nat) => ([71] : List Nat).any (Nat.beq g)
def ar47 : TypeId → Bool := fun (t : Nat) => ([88, 91, 97] : List Nat).any (Nat.beq t)
noncomputable def t47 {R : Type} (sh : Sh) (f63 : i63 → Option o63) (x1 : Int) (x2 : Int) (k : o47 → Option R) : Option R :=
  (f63 (x1)).bind fun (r1 : Bool) =>
  (f63 (x2)).bind fun (r2 : Bool) =>
  bif r1 then
    bif r2 then
      k ((0 : Int))
    else
      k ((-1 : Int))
  else
    bif r2 then
      k ((1 : Int))
    else
      bif Decidable.decide (x1 < x2) then
        k ((-1 : Int))
      else
        bif Decidable.decide (x1 > x2) then
          k ((1 : Int))
        else
          k ((0 : Int))
theorem t47_eq {R : Type} (sh : Sh) (hsh : ∀ {α R : Type} (x : α) (K : α → Option R), sh x K = K x) (f63 : i63 → Option o63) (x1 : Int) (x2 : Int) (K : CSt → Option R) : bodyK Tryd.prog (tabO sh hsh br47 ar47 [ent63 f63]) (tabL []) ann47 false Tryd.f47 (enc47 (x1, x2)) K = t47 sh f63 x1 x2 (retK47 K) := by kernel_rfl
theorem t47_law {R : Type} (f63 : i63 → Option o63) (x1 : Int) (x2 : Int) (K : o47 → Option R) : t47 sh0 f63 x1 x2 K = (t47 sh0 f63 x1 x2 some).bind K := by
  have key : ∀ (sh : Sh) (_ : ∀ {α R S : Type} (x : α) (f : α → Option R) (K : R → Option S), (sh x f).bind K = sh x fun y => (f y).bind K), t47 sh f63 x1 x2 K = (t47 sh f63 x1 x2 some).bind K := by
    intro sh hb
    simp only [t47, hb, cond_bind', two_bind, none_bind', Option.bind_assoc, Option.bind_some]
  exact key sh0 (fun _ _ _ => rfl)
theorem ok47 (f63 : i63 → Option o63) (hf63 : Sd63 f63) : Sd47 (fun a => t47 sh0 f63 a.1 a.2 some) := by
  intro a b h
  refine call_ok (sh := sh0) (hsh := fun _ _ => rfl) (br := br47) (ar := ar47) (own := false) Tryd.mixed Tryd.func47 (by kernel_rfl) (.cons (mkEnt_ok hf63) .nil) (fun nt => .nil) ((t47_eq sh0 (fun _ _ => rfl) f63 a.1 a.2 _).trans ?_)
  rw [t47_law]
  simp only at h
  rw [h, Option.bind_some, retK47_eq]

/-! 64 cmp.isNaN[string] -/
abbrev i64 : Type := ByteArray
def enc64 : i64 → CSt := fun a => ([Go.Ev.SV.one (Go.Ev.SL.d (Go.Ev.DL.str a))], [])
def dec64 : (c : CSt) → Option { a : i64 // c = enc64 a }
  | ([Go.Ev.SV.one (Go.Ev.SL.d (Go.Ev.DL.str x1))], []) => some ⟨x1, rfl⟩
  | _ => none
abbrev o64 : Type := Bool
def ret64 : o64 → CSt := fun b => ([Go.Ev.SV.one (Go.Ev.SL.d (Go.Ev.DL.bool b))], [])
def retK64 {R : Type} (K : CSt → Option R) : o64 → Option R := fun b => K (([Go.Ev.SV.one (Go.Ev.SL.d (Go.Ev.DL.bool b))], []))
theorem retK64_eq {R : Type} (K : CSt → Option R) (b : o64) : retK64 K b = K (ret64 b) := rfl
abbrev Sd64 (f : i64 → Option o64) : Prop := ∀ a b, f a = some b → CallOk Tryd.prog 64 (enc64 a) (ret64 b)
def ent64 (f : i64 → Option o64) : Ent := mkEnt 64 dec64 ret64 retK64 retK64_eq f
def ann64 : Nat → List Nat × List Nat := fun id => ([], [])
def br64 : FuncId → Bool := fun (g : Nat) => ([71] : List Nat).any (Nat.beq g)
def ar64 : TypeId → Bool := fun (t : Nat) => ([88, 91, 97] : List Nat).any (Nat.beq t)
noncomputable def t64 {R : Type} (sh : Sh) (x1 : ByteArray) (k : o64 → Option R) : Option R :=
  k (!Go.Ev.strEq x1 x1)
theorem t64_eq {R : Type} (sh : Sh) (hsh : ∀ {α R : Type} (x : α) (K : α → Option R), sh x K = K x) (x1 : ByteArray) (K : CSt → Option R) : bodyK Tryd.prog (tabO sh hsh br64 ar64 []) (tabL []) ann64 false Tryd.f64 (enc64 x1) K = t64 sh x1 (retK64 K) := by kernel_rfl
theorem t64_law {R : Type} (x1 : ByteArray) (K : o64 → Option R) : t64 sh0 x1 K = (t64 sh0 x1 some).bind K := by
  have key : ∀ (sh : Sh) (_ : ∀ {α R S : Type} (x : α) (f : α → Option R) (K : R → Option S), (sh x f).bind K = sh x fun y => (f y).bind K), t64 sh x1 K = (t64 sh x1 some).bind K := by
    intro sh hb
    simp only [t64, hb, cond_bind', two_bind, none_bind', Option.bind_assoc, Option.bind_some]
  exact key sh0 (fun _ _ _ => rfl)
theorem ok64 : Sd64 (fun a => t64 sh0 a some) := by
  intro a b h
  refine call_ok (sh := sh0) (hsh := fun _ _ => rfl) (br := br64) (ar := ar64) (own := false) Tryd.mixed Tryd.func64 (by kernel_rfl) .nil (fun nt => .nil) ((t64_eq sh0 (fun _ _ => rfl) a _).trans ?_)
  rw [t64_law]
  simp only at h
  rw [h, Option.bind_some, retK64_eq]

/-! 48 cmp.Compare[string] -/
abbrev i48 : Type := ByteArray × ByteArray
def enc48 : i48 → CSt := fun a => ([Go.Ev.SV.one (Go.Ev.SL.d (Go.Ev.DL.str a.1)), Go.Ev.SV.one (Go.Ev.SL.d (Go.Ev.DL.str a.2))], [])
def dec48 : (c : CSt) → Option { a : i48 // c = enc48 a }
  | ([Go.Ev.SV.one (Go.Ev.SL.d (Go.Ev.DL.str x1)), Go.Ev.SV.one (Go.Ev.SL.d (Go.Ev.DL.str x2))], []) => some ⟨(x1, x2), rfl⟩
  | _ => none
abbrev o48 : Type := Int
def ret48 : o48 → CSt := fun b => ([Go.Ev.SV.one (Go.Ev.SL.d (Go.Ev.DL.int Go.IntKind.i64 b))], [])
def retK48 {R : Type} (K : CSt → Option R) : o48 → Option R := fun b => K (([Go.Ev.SV.one (Go.Ev.SL.d (Go.Ev.DL.int Go.IntKind.i64 b))], []))
theorem retK48_eq {R : Type} (K : CSt → Option R) (b : o48) : retK48 K b = K (ret48 b) := rfl
abbrev Sd48 (f : i48 → Option o48) : Prop := ∀ a b, f a = some b → CallOk Tryd.prog 48 (enc48 a) (ret48 b)
def ent48 (f : i48 → Option o48) : Ent := mkEnt 48 dec48 ret48 retK48 retK48_eq f
def ann48 : Nat → List Nat × List Nat := fun id => ([], [])
def br48 : FuncId → Bool := fun (g : Nat) => ([71] : List Nat).any (Nat.beq g)
def ar48 : TypeId → Bool := fun (t : Nat) => ([88, 91, 97] : List Nat).any (Nat.beq t)
noncomputable def t48 {R : Type} (sh : Sh) (f64 : i64 → Option o64) (x1 : ByteArray) (x2 : ByteArray) (k : o48 → Option R) : Option R :=
  (f64 (x1)).bind fun (r1 : Bool) =>
  (f64 (x2)).bind fun (r2 : Bool) =>
  bif r1 then
    bif r2 then
      k ((0 : Int))
    else
      k ((-1 : Int))
  else
    bif r2 then
      k ((1 : Int))
    else
      bif Go.Ev.strLt x1 x2 then
        k ((-1 : Int))
      else
        bif !(Go.Ev.strLt x1 x2 || Go.Ev.strEq x1 x2) then
          k ((1 : Int))
        else
          k ((0 : Int))
theorem t48_eq {R : Type} (sh : Sh) (hsh : ∀ {α R : Type} (x : α) (K : α → Option R), sh x K = K x) (f64 : i64 → Option o64) (x1 : ByteArray) (x2 : ByteArray) (K : CSt → Option R) : bodyK Tryd.prog (tabO sh hsh br48 ar48 [ent64 f64]) (tabL []) ann48 false Tryd.f48 (enc48 (x1, x2)) K = t48 sh f64 x1 x2 (retK48 K) := by kernel_rfl
theorem t48_law {R : Type} (f64 : i64 → Option o64) (x1 : ByteArray) (x2 : ByteArray) (K : o48 → Option R) : t48 sh0 f64 x1 x2 K = (t48 sh0 f64 x1 x2 some).bind K := by
  have key : ∀ (sh : Sh) (_ : ∀ {α R S : Type} (x : α) (f : α → Option R) (K : R → Option S), (sh x f).bind K = sh x fun y => (f y).bind K), t48 sh f64 x1 x2 K = (t48 sh f64 x1 x2 some).bind K := by
    intro sh hb
    simp only [t48, hb, cond_bind', two_bind, none_bind', Option.bind_assoc, Option.bind_some]
  exact key sh0 (fun _ _ _ => rfl)
theorem ok48 (f64 : i64 → Option o64) (hf64 : Sd64 f64) : Sd48 (fun a => t48 sh0 f64 a.1 a.2 some) := by
  intro a b h
  refine call_ok (sh := sh0) (hsh := fun _ _ => rfl) (br := br48) (ar := ar48) (own := false) Tryd.mixed Tryd.func48 (by kernel_rfl) (.cons (mkEnt_ok hf64) .nil) (fun nt => .nil) ((t48_eq sh0 (fun _ _ => rfl) f64 a.1 a.2 _).trans ?_)
  rw [t48_law]
  simp only at h
  rw [h, Option.bind_some, retK48_eq]

/-! 24 erasure/value.Compare -/
abbrev i24 : Type := Int × Int × ByteArray × Int × Int × ByteArray
def enc24 : i24 → CSt := fun a => ([Go.Ev.SV.agg [Go.Ev.SL.d (Go.Ev.DL.int Go.IntKind.i64 a.1), Go.Ev.SL.d (Go.Ev.DL.int Go.IntKind.i64 a.2.1), Go.Ev.SL.d (Go.Ev.DL.str a.2.2.1)], Go.Ev.SV.agg [Go.Ev.SL.d (Go.Ev.DL.int Go.IntKind.i64 a.2.2.2.1), Go.Ev.SL.d (Go.Ev.DL.int Go.IntKind.i64 a.2.2.2.2.1), Go.Ev.SL.d (Go.Ev.DL.str a.2.2.2.2.2)]], [])
def dec24 : (c : CSt) → Option { a : i24 // c = enc24 a }
  | ([Go.Ev.SV.agg [Go.Ev.SL.d (Go.Ev.DL.int Go.IntKind.i64 x1), Go.Ev.SL.d (Go.Ev.DL.int Go.IntKind.i64 x2), Go.Ev.SL.d (Go.Ev.DL.str x3)], Go.Ev.SV.agg [Go.Ev.SL.d (Go.Ev.DL.int Go.IntKind.i64 x4), Go.Ev.SL.d (Go.Ev.DL.int Go.IntKind.i64 x5), Go.Ev.SL.d (Go.Ev.DL.str x6)]], []) => some ⟨(x1, x2, x3, x4, x5, x6), rfl⟩
  | _ => none
abbrev o24 : Type := Int
def ret24 : o24 → CSt := fun b => ([Go.Ev.SV.one (Go.Ev.SL.d (Go.Ev.DL.int Go.IntKind.i64 b))], [])
def retK24 {R : Type} (K : CSt → Option R) : o24 → Option R := fun b => K (([Go.Ev.SV.one (Go.Ev.SL.d (Go.Ev.DL.int Go.IntKind.i64 b))], []))
theorem retK24_eq {R : Type} (K : CSt → Option R) (b : o24) : retK24 K b = K (ret24 b) := rfl
abbrev Sd24 (f : i24 → Option o24) : Prop := ∀ a b, f a = some b → CallOk Tryd.prog 24 (enc24 a) (ret24 b)
def ent24 (f : i24 → Option o24) : Ent := mkEnt 24 dec24 ret24 retK24 retK24_eq f
def ann24 : Nat → List Nat × List Nat := fun id => ([], [])
def br24 : FuncId → Bool := fun (g : Nat) => ([71] : List Nat).any (Nat.beq g)
def ar24 : TypeId → Bool := fun (t : Nat) => ([88, 91, 97] : List Nat).any (Nat.beq t)
noncomputable def t24 {R : Type} (sh : Sh) (f20 : i20 → Option o20) (f46 : i46 → Option o46) (f47 : i47 → Option o47) (f48 : i48 → Option o48) (x1 : Int) (x2 : Int) (x3 : ByteArray) (x4 : Int) (x5 : Int) (x6 : ByteArray) (k : o24 → Option R) : Option R :=
  (f20 (x1, x2, x3)).bind fun (r1 : Int × Int × ByteArray) =>
  (f20 (x4, x5, x6)).bind fun (r2 : Int × Int × ByteArray) =>
  bif Prod.fst r1 != Prod.fst r2 then
    (f46 (Prod.fst r1, Prod.fst r2)).bind fun (r3 : Int) =>
    k (r3)
  else
    bif Prod.fst r1 == (1 : Int) then
      (f47 (Prod.fst r1.2, Prod.fst r2.2)).bind fun (r4 : Int) =>
      k (r4)
    else
      (f48 (Prod.snd r1.2, Prod.snd r2.2)).bind fun (r5 : Int) =>
      k (r5)
theorem t24_eq {R : Type} (sh : Sh) (hsh : ∀ {α R : Type} (x : α) (K : α → Option R), sh x K = K x) (f20 : i20 → Option o20) (f46 : i46 → Option o46) (f47 : i47 → Option o47) (f48 : i48 → Option o48) (x1 : Int) (x2 : Int) (x3 : ByteArray) (x4 : Int) (x5 : Int) (x6 : ByteArray) (K : CSt → Option R) : bodyK Tryd.prog (tabO sh hsh br24 ar24 [ent20 f20, ent46 f46, ent47 f47, ent48 f48]) (tabL []) ann24 false Tryd.f24 (enc24 (x1, x2, x3, x4, x5, x6)) K = t24 sh f20 f46 f47 f48 x1 x2 x3 x4 x5 x6 (retK24 K) := by kernel_rfl
theorem t24_law {R : Type} (f20 : i20 → Option o20) (f46 : i46 → Option o46) (f47 : i47 → Option o47) (f48 : i48 → Option o48) (x1 : Int) (x2 : Int) (x3 : ByteArray) (x4 : Int) (x5 : Int) (x6 : ByteArray) (K : o24 → Option R) : t24 sh0 f20 f46 f47 f48 x1 x2 x3 x4 x5 x6 K = (t24 sh0 f20 f46 f47 f48 x1 x2 x3 x4 x5 x6 some).bind K := by
  have key : ∀ (sh : Sh) (_ : ∀ {α R S : Type} (x : α) (f : α → Option R) (K : R → Option S), (sh x f).bind K = sh x fun y => (f y).bind K), t24 sh f20 f46 f47 f48 x1 x2 x3 x4 x5 x6 K = (t24 sh f20 f46 f47 f48 x1 x2 x3 x4 x5 x6 some).bind K := by
    intro sh hb
    simp only [t24, hb, cond_bind', two_bind, none_bind', Option.bind_assoc, Option.bind_some]
  exact key sh0 (fun _ _ _ => rfl)
theorem ok24 (f20 : i20 → Option o20) (f46 : i46 → Option o46) (f47 : i47 → Option o47) (f48 : i48 → Option o48) (hf20 : Sd20 f20) (hf46 : Sd46 f46) (hf47 : Sd47 f47) (hf48 : Sd48 f48) : Sd24 (fun a => t24 sh0 f20 f46 f47 f48 a.1 a.2.1 a.2.2.1 a.2.2.2.1 a.2.2.2.2.1 a.2.2.2.2.2 some) := by
  intro a b h
  refine call_ok (sh := sh0) (hsh := fun _ _ => rfl) (br := br24) (ar := ar24) (own := false) Tryd.mixed Tryd.func24 (by kernel_rfl) (.cons (mkEnt_ok hf20) (.cons (mkEnt_ok hf46) (.cons (mkEnt_ok hf47) (.cons (mkEnt_ok hf48) .nil)))) (fun nt => .nil) ((t24_eq sh0 (fun _ _ => rfl) f20 f46 f47 f48 a.1 a.2.1 a.2.2.1 a.2.2.2.1 a.2.2.2.2.1 a.2.2.2.2.2 _).trans ?_)
  rw [t24_law]
  simp only at h
  rw [h, Option.bind_some, retK24_eq]

/-! 25 erasure/erasureref01.Compare -/
abbrev i25 : Type := Int × Int × ByteArray × Int × Int × ByteArray
def enc25 : i25 → CSt := fun a => ([Go.Ev.SV.agg [Go.Ev.SL.d (Go.Ev.DL.int Go.IntKind.i64 a.1), Go.Ev.SL.d (Go.Ev.DL.int Go.IntKind.i64 a.2.1), Go.Ev.SL.d (Go.Ev.DL.str a.2.2.1)], Go.Ev.SV.agg [Go.Ev.SL.d (Go.Ev.DL.int Go.IntKind.i64 a.2.2.2.1), Go.Ev.SL.d (Go.Ev.DL.int Go.IntKind.i64 a.2.2.2.2.1), Go.Ev.SL.d (Go.Ev.DL.str a.2.2.2.2.2)]], [])
def dec25 : (c : CSt) → Option { a : i25 // c = enc25 a }
  | ([Go.Ev.SV.agg [Go.Ev.SL.d (Go.Ev.DL.int Go.IntKind.i64 x1), Go.Ev.SL.d (Go.Ev.DL.int Go.IntKind.i64 x2), Go.Ev.SL.d (Go.Ev.DL.str x3)], Go.Ev.SV.agg [Go.Ev.SL.d (Go.Ev.DL.int Go.IntKind.i64 x4), Go.Ev.SL.d (Go.Ev.DL.int Go.IntKind.i64 x5), Go.Ev.SL.d (Go.Ev.DL.str x6)]], []) => some ⟨(x1, x2, x3, x4, x5, x6), rfl⟩
  | _ => none
abbrev o25 : Type := Int
def ret25 : o25 → CSt := fun b => ([Go.Ev.SV.one (Go.Ev.SL.d (Go.Ev.DL.int Go.IntKind.i64 b))], [])
def retK25 {R : Type} (K : CSt → Option R) : o25 → Option R := fun b => K (([Go.Ev.SV.one (Go.Ev.SL.d (Go.Ev.DL.int Go.IntKind.i64 b))], []))
theorem retK25_eq {R : Type} (K : CSt → Option R) (b : o25) : retK25 K b = K (ret25 b) := rfl
abbrev Sd25 (f : i25 → Option o25) : Prop := ∀ a b, f a = some b → CallOk Tryd.prog 25 (enc25 a) (ret25 b)
def ent25 (f : i25 → Option o25) : Ent := mkEnt 25 dec25 ret25 retK25 retK25_eq f
def ann25 : Nat → List Nat × List Nat := fun id => ([], [])
def br25 : FuncId → Bool := fun (g : Nat) => ([71] : List Nat).any (Nat.beq g)
def ar25 : TypeId → Bool := fun (t : Nat) => ([88, 91, 97] : List Nat).any (Nat.beq t)
noncomputable def t25 {R : Type} (sh : Sh) (f21 : i21 → Option o21) (x1 : Int) (x2 : Int) (x3 : ByteArray) (x4 : Int) (x5 : Int) (x6 : ByteArray) (k : o25 → Option R) : Option R :=
  (f21 (x1, x2, x3)).bind fun (r1 : Int × Int × ByteArray) =>
  (f21 (x4, x5, x6)).bind fun (r2 : Int × Int × ByteArray) =>
  bif Prod.fst r1 == Prod.fst r2 && (Prod.fst r1.2 == Prod.fst r2.2 && (Prod.snd r1.2 == Prod.snd r2.2 && Bool.true)) then
    k ((0 : Int))
  else
    bif Decidable.decide (Prod.fst r1 < Prod.fst r2) then
      k ((-1 : Int))
    else
      bif Prod.fst r1 == Prod.fst r2 then
        bif Decidable.decide (Prod.fst r1.2 < Prod.fst r2.2) then
          k ((-1 : Int))
        else
          bif Go.Ev.strLt (Prod.snd r1.2) (Prod.snd r2.2) then
            k ((-1 : Int))
          else
            k ((1 : Int))
      else
        k ((1 : Int))
theorem t25_eq {R : Type} (sh : Sh) (hsh : ∀ {α R : Type} (x : α) (K : α → Option R), sh x K = K x) (f21 : i21 → Option o21) (x1 : Int) (x2 : Int) (x3 : ByteArray) (x4 : Int) (x5 : Int) (x6 : ByteArray) (K : CSt → Option R) : bodyK Tryd.prog (tabO sh hsh br25 ar25 [ent21 f21]) (tabL []) ann25 false Tryd.f25 (enc25 (x1, x2, x3, x4, x5, x6)) K = t25 sh f21 x1 x2 x3 x4 x5 x6 (retK25 K) := by kernel_rfl
theorem t25_law {R : Type} (f21 : i21 → Option o21) (x1 : Int) (x2 : Int) (x3 : ByteArray) (x4 : Int) (x5 : Int) (x6 : ByteArray) (K : o25 → Option R) : t25 sh0 f21 x1 x2 x3 x4 x5 x6 K = (t25 sh0 f21 x1 x2 x3 x4 x5 x6 some).bind K := by
  have key : ∀ (sh : Sh) (_ : ∀ {α R S : Type} (x : α) (f : α → Option R) (K : R → Option S), (sh x f).bind K = sh x fun y => (f y).bind K), t25 sh f21 x1 x2 x3 x4 x5 x6 K = (t25 sh f21 x1 x2 x3 x4 x5 x6 some).bind K := by
    intro sh hb
    simp only [t25, hb, cond_bind', two_bind, none_bind', Option.bind_assoc, Option.bind_some]
  exact key sh0 (fun _ _ _ => rfl)
theorem ok25 (f21 : i21 → Option o21) (hf21 : Sd21 f21) : Sd25 (fun a => t25 sh0 f21 a.1 a.2.1 a.2.2.1 a.2.2.2.1 a.2.2.2.2.1 a.2.2.2.2.2 some) := by
  intro a b h
  refine call_ok (sh := sh0) (hsh := fun _ _ => rfl) (br := br25) (ar := ar25) (own := false) Tryd.mixed Tryd.func25 (by kernel_rfl) (.cons (mkEnt_ok hf21) .nil) (fun nt => .nil) ((t25_eq sh0 (fun _ _ => rfl) f21 a.1 a.2.1 a.2.2.1 a.2.2.2.1 a.2.2.2.2.1 a.2.2.2.2.2 _).trans ?_)
  rw [t25_law]
  simp only at h
  rw [h, Option.bind_some, retK25_eq]

/-! 49 slices.CompareFunc[[]erasure/api.Value,[]erasure/api.Value,erasure/api.Value,erasure/api.Value] -/
abbrev i49 : Type := Rows × Rows
def enc49 : i49 → CSt := fun a => ([Go.Ev.SV.one (Go.Ev.SL.d (Go.Ev.DL.lst (23 : Nat) a.1)), Go.Ev.SV.one (Go.Ev.SL.d (Go.Ev.DL.lst (23 : Nat) a.2)), Go.Ev.SV.one (Go.Ev.SL.d (Go.Ev.DL.fn (24 : Nat)))], [])
def dec49 : (c : CSt) → Option { a : i49 // c = enc49 a }
  | ([Go.Ev.SV.one (Go.Ev.SL.d (Go.Ev.DL.lst (23 : Nat) x1)), Go.Ev.SV.one (Go.Ev.SL.d (Go.Ev.DL.lst (23 : Nat) x2)), Go.Ev.SV.one (Go.Ev.SL.d (Go.Ev.DL.fn (24 : Nat)))], []) => some ⟨(x1, x2), rfl⟩
  | _ => none
abbrev o49 : Type := Int
def ret49 : o49 → CSt := fun b => ([Go.Ev.SV.one (Go.Ev.SL.d (Go.Ev.DL.int Go.IntKind.i64 b))], [])
def retK49 {R : Type} (K : CSt → Option R) : o49 → Option R := fun b => K (([Go.Ev.SV.one (Go.Ev.SL.d (Go.Ev.DL.int Go.IntKind.i64 b))], []))
theorem retK49_eq {R : Type} (K : CSt → Option R) (b : o49) : retK49 K b = K (ret49 b) := rfl
abbrev Sd49 (f : i49 → Option o49) : Prop := ∀ a b, f a = some b → CallOk Tryd.prog 49 (enc49 a) (ret49 b)
def ent49 (f : i49 → Option o49) : Ent := mkEnt 49 dec49 ret49 retK49 retK49_eq f
def ann49 : Nat → List Nat × List Nat := fun id => bif Nat.beq id 2 then ([0, 1, 2, 11, 12, 13], [0, 1, 6]) else ([], [])
def br49 : FuncId → Bool := fun (g : Nat) => ([71] : List Nat).any (Nat.beq g)
def ar49 : TypeId → Bool := fun (t : Nat) => ([88, 91, 97] : List Nat).any (Nat.beq t)
abbrev iL49_2 : Type := Rows × Rows × Rows × Int × Int
def encL49_2 : iL49_2 → CSt := fun a => ([Go.Ev.SV.one (Go.Ev.SL.d (Go.Ev.DL.lst (23 : Nat) a.1)), Go.Ev.SV.one (Go.Ev.SL.d (Go.Ev.DL.lst (23 : Nat) a.2.1)), Go.Ev.SV.one (Go.Ev.SL.d (Go.Ev.DL.fn (24 : Nat))), Go.Ev.SV.one (Go.Ev.SL.d (Go.Ev.DL.lst (23 : Nat) a.2.2.1)), Go.Ev.SV.one (Go.Ev.SL.d (Go.Ev.DL.int Go.IntKind.i64 a.2.2.2.1)), Go.Ev.SV.one (Go.Ev.SL.d (Go.Ev.DL.int Go.IntKind.i64 a.2.2.2.2))], [])
def decL49_2 : (c : CSt) → Option { a : iL49_2 // c = encL49_2 a }
  | ([Go.Ev.SV.one (Go.Ev.SL.d (Go.Ev.DL.lst (23 : Nat) x1)), Go.Ev.SV.one (Go.Ev.SL.d (Go.Ev.DL.lst (23 : Nat) x2)), Go.Ev.SV.one (Go.Ev.SL.d (Go.Ev.DL.fn (24 : Nat))), Go.Ev.SV.one (Go.Ev.SL.d (Go.Ev.DL.lst (23 : Nat) x3)), Go.Ev.SV.one (Go.Ev.SL.d (Go.Ev.DL.int Go.IntKind.i64 x4)), Go.Ev.SV.one (Go.Ev.SL.d (Go.Ev.DL.int Go.IntKind.i64 x5))], []) => some ⟨(x1, x2, x3, x4, x5), rfl⟩
  | _ => none
abbrev oL49_2 : Type := (Rows × Rows × Int) ⊕ (Rows × Rows)
def retL49_2 : oL49_2 → Ex × CSt := two (fun b => (Go.Ev.Ex.ret, ([Go.Ev.SV.one (Go.Ev.SL.d (Go.Ev.DL.lst (23 : Nat) b.1)), Go.Ev.SV.one (Go.Ev.SL.d (Go.Ev.DL.lst (23 : Nat) b.2.1)), Go.Ev.SV.one (Go.Ev.SL.d (Go.Ev.DL.int Go.IntKind.i64 b.2.2))], []))) (fun b => (Go.Ev.Ex.exit (0 : Nat), ([Go.Ev.SV.one (Go.Ev.SL.d (Go.Ev.DL.lst (23 : Nat) b.1)), Go.Ev.SV.one (Go.Ev.SL.d (Go.Ev.DL.lst (23 : Nat) b.2)), Go.Ev.SV.one Go.Ev.SL.un], [])))
def retKL49_2 {R : Type} (K : Ex → CSt → Option R) : oL49_2 → Option R := two (fun b => K (Go.Ev.Ex.ret) (([Go.Ev.SV.one (Go.Ev.SL.d (Go.Ev.DL.lst (23 : Nat) b.1)), Go.Ev.SV.one (Go.Ev.SL.d (Go.Ev.DL.lst (23 : Nat) b.2.1)), Go.Ev.SV.one (Go.Ev.SL.d (Go.Ev.DL.int Go.IntKind.i64 b.2.2))], []))) (fun b => K (Go.Ev.Ex.exit (0 : Nat)) (([Go.Ev.SV.one (Go.Ev.SL.d (Go.Ev.DL.lst (23 : Nat) b.1)), Go.Ev.SV.one (Go.Ev.SL.d (Go.Ev.DL.lst (23 : Nat) b.2)), Go.Ev.SV.one Go.Ev.SL.un], [])))
theorem retKL49_2_eq {R : Type} (K : Ex → CSt → Option R) (b : oL49_2) : retKL49_2 K b = K (retL49_2 b).1 (retL49_2 b).2 := by
  unfold retKL49_2 retL49_2
  repeat' (first | rfl | cases b with | inl b => rfl | inr b => ?_)
def entL49_2 (l : iL49_2 → Option oL49_2) : LEnt := mkLEnt 2 decL49_2 retL49_2 retKL49_2 retKL49_2_eq l
abbrev SdL49_2 (l : iL49_2 → Option oL49_2) : Prop := ∀ nt a b, l a = some b → LoopAt Tryd.prog nt 0 ann49 Tryd.f49 2 (encL49_2 a) (retL49_2 b)
noncomputable def u49_2 {R : Type} (sh : Sh) (f24 : i24 → Option o24) (l49_2 : iL49_2 → Option oL49_2) (x1 : Rows) (x2 : Rows) (x3 : Rows) (x4 : Int) (x5 : Int) (k : oL49_2 → Option R) : Option R :=
  bif Decidable.decide (x5 < x4) then
    bif Decidable.decide ((0 : Int) ≤ x5 ∧ x5 < (↑(List.length x3) : Int)) then
      sh ((↑(List.length x2) : Int)) fun y2 =>
      bif Decidable.decide (x5 ≥ y2) then
        k ((.inl (x1, x2, (1 : Int))))
      else
        bif Decidable.decide ((0 : Int) ≤ x5 ∧ x5 < (↑(List.length x2) : Int)) then
          (f24 (Go.Ev.DL.getI (Go.Ev.cellAt x3 (Int.toNat x5) (0 : Nat)), Go.Ev.DL.getI (Go.Ev.cellAt x3 (Int.toNat x5) (1 : Nat)), Go.Ev.DL.getS (Go.Ev.cellAt x3 (Int.toNat x5) (2 : Nat)), Go.Ev.DL.getI (Go.Ev.cellAt x2 (Int.toNat x5) (0 : Nat)), Go.Ev.DL.getI (Go.Ev.cellAt x2 (Int.toNat x5) (1 : Nat)), Go.Ev.DL.getS (Go.Ev.cellAt x2 (Int.toNat x5) (2 : Nat)))).bind fun (r3 : Int) =>
          bif r3 != (0 : Int) then
            k ((.inl (x1, x2, r3)))
          else
            (l49_2 (x1, x2, x3, x4, Go.IntKind.wrap Go.IntKind.i64 (x5 + (1 : Int)))).bind k
        else none
    else none
  else
    k ((.inr (x1, x2)))
theorem u49_2_eq {R : Type} (sh : Sh) (hsh : ∀ {α R : Type} (x : α) (K : α → Option R), sh x K = K x) (f24 : i24 → Option o24) (l49_2 : iL49_2 → Option oL49_2) (x1 : Rows) (x2 : Rows) (x3 : Rows) (x4 : Int) (x5 : Int) (K : Ex → CSt → Option R) : roundK Tryd.prog (tabO sh hsh br49 ar49 [ent24 f24]) (tabL [entL49_2 l49_2]) ann49 0 Tryd.f49 2 (encL49_2 (x1, x2, x3, x4, x5)) K = u49_2 sh f24 l49_2 x1 x2 x3 x4 x5 (retKL49_2 K) := by kernel_rfl
theorem u49_2_law {R : Type} (f24 : i24 → Option o24) (l49_2 : iL49_2 → Option oL49_2) (x1 : Rows) (x2 : Rows) (x3 : Rows) (x4 : Int) (x5 : Int) (K : oL49_2 → Option R) : u49_2 sh0 f24 l49_2 x1 x2 x3 x4 x5 K = (u49_2 sh0 f24 l49_2 x1 x2 x3 x4 x5 some).bind K := by
  have key : ∀ (sh : Sh) (_ : ∀ {α R S : Type} (x : α) (f : α → Option R) (K : R → Option S), (sh x f).bind K = sh x fun y => (f y).bind K), u49_2 sh f24 l49_2 x1 x2 x3 x4 x5 K = (u49_2 sh f24 l49_2 x1 x2 x3 x4 x5 some).bind K := by
    intro sh hb
    simp only [u49_2, hb, cond_bind', two_bind, none_bind', Option.bind_assoc, Option.bind_some]
  exact key sh0 (fun _ _ _ => rfl)
theorem okL49_2 (f24 : i24 → Option o24) (l49_2 : iL49_2 → Option oL49_2) (hf24 : Sd24 f24) (hl49_2 : SdL49_2 l49_2) : SdL49_2 (fun a => u49_2 sh0 f24 l49_2 a.1 a.2.1 a.2.2.1 a.2.2.2.1 a.2.2.2.2 some) := by
  intro nt a b h
  refine round_ok (sh := sh0) (hsh := fun _ _ => rfl) (br := br49) (ar := ar49) Tryd.mixed (by kernel_rfl) (.cons (mkEnt_ok hf24) .nil) (.cons (mkLEnt_ok (hl49_2 nt)) .nil) ((u49_2_eq sh0 (fun _ _ => rfl) f24 l49_2  a.1 a.2.1 a.2.2.1 a.2.2.2.1 a.2.2.2.2 _).trans ?_)
  rw [u49_2_law]
  simp only at h
  rw [h, Option.bind_some, retKL49_2_eq]
noncomputable def t49 {R : Type} (sh : Sh) (l49_2 : iL49_2 → Option oL49_2) (x1 : Rows) (x2 : Rows) (k : o49 → Option R) : Option R :=
  sh ((↑(List.length x1) : Int)) fun y1 =>
  (l49_2 (x1, x2, x1, y1, (0 : Int))).bind (two (fun (r4 : Rows × Rows × Int) =>
    k (Prod.snd r4.2)
  ) (fun (r5 : Rows × Rows) =>
    sh ((↑(List.length (Prod.fst r5)) : Int)) fun y6 =>
    sh ((↑(List.length (Prod.snd r5)) : Int)) fun y7 =>
    bif Decidable.decide (y6 < y7) then
      k ((-1 : Int))
    else
      k ((0 : Int))
  ))
theorem t49_eq {R : Type} (sh : Sh) (hsh : ∀ {α R : Type} (x : α) (K : α → Option R), sh x K = K x) (l49_2 : iL49_2 → Option oL49_2) (x1 : Rows) (x2 : Rows) (K : CSt → Option R) : bodyK Tryd.prog (tabO sh hsh br49 ar49 []) (tabL [entL49_2 l49_2]) ann49 false Tryd.f49 (enc49 (x1, x2)) K = t49 sh l49_2 x1 x2 (retK49 K) := by kernel_rfl
theorem t49_law {R : Type} (l49_2 : iL49_2 → Option oL49_2) (x1 : Rows) (x2 : Rows) (K : o49 → Option R) : t49 sh0 l49_2 x1 x2 K = (t49 sh0 l49_2 x1 x2 some).bind K := by
  have key : ∀ (sh : Sh) (_ : ∀ {α R S : Type} (x : α) (f : α → Option R) (K : R → Option S), (sh x f).bind K = sh x fun y => (f y).bind K), t49 sh l49_2 x1 x2 K = (t49 sh l49_2 x1 x2 some).bind K := by
    intro sh hb
    simp only [t49, hb, cond_bind', two_bind, none_bind', Option.bind_assoc, Option.bind_some]
  exact key sh0 (fun _ _ _ => rfl)
theorem ok49 (l49_2 : iL49_2 → Option oL49_2) (hl49_2 : SdL49_2 l49_2) : Sd49 (fun a => t49 sh0 l49_2 a.1 a.2 some) := by
  intro a b h
  refine call_ok (sh := sh0) (hsh := fun _ _ => rfl) (br := br49) (ar := ar49) (own := false) Tryd.mixed Tryd.func49 (by kernel_rfl) .nil (fun nt => (.cons (mkLEnt_ok (hl49_2 nt)) .nil)) ((t49_eq sh0 (fun _ _ => rfl) l49_2 a.1 a.2 _).trans ?_)
  rw [t49_law]
  simp only at h
  rw [h, Option.bind_some, retK49_eq]

/-! 26 erasure/value.CompareRows -/
abbrev i26 : Type := Rows × Rows
def enc26 : i26 → CSt := fun a => ([Go.Ev.SV.one (Go.Ev.SL.d (Go.Ev.DL.lst (23 : Nat) a.1)), Go.Ev.SV.one (Go.Ev.SL.d (Go.Ev.DL.lst (23 : Nat) a.2))], [])
def dec26 : (c : CSt) → Option { a : i26 // c = enc26 a }
  | ([Go.Ev.SV.one (Go.Ev.SL.d (Go.Ev.DL.lst (23 : Nat) x1)), Go.Ev.SV.one (Go.Ev.SL.d (Go.Ev.DL.lst (23 : Nat) x2))], []) => some ⟨(x1, x2), rfl⟩
  | _ => none
abbrev o26 : Type := Int
def ret26 : o26 → CSt := fun b => ([Go.Ev.SV.one (Go.Ev.SL.d (Go.Ev.DL.int Go.IntKind.i64 b))], [])
def retK26 {R : Type} (K : CSt → Option R) : o26 → Option R := fun b => K (([Go.Ev.SV.one (Go.Ev.SL.d (Go.Ev.DL.int Go.IntKind.i64 b))], []))
theorem retK26_eq {R : Type} (K : CSt → Option R) (b : o26) : retK26 K b = K (ret26 b) := rfl
abbrev Sd26 (f : i26 → Option o26) : Prop := ∀ a b, f a = some b → CallOk Tryd.prog 26 (enc26 a) (ret26 b)
def ent26 (f : i26 → Option o26) : Ent := mkEnt 26 dec26 ret26 retK26 retK26_eq f
def ann26 : Nat → List Nat × List Nat := fun id => ([], [])
def br26 : FuncId → Bool := fun (g : Nat) => ([71] : List Nat).any (Nat.beq g)
def ar26 : TypeId → Bool := fun (t : Nat) => ([88, 91, 97] : List Nat).any (Nat.beq t)
noncomputable def t26 {R : Type} (sh : Sh) (f49 : i49 → Option o49) (x1 : Rows) (x2 : Rows) (k : o26 → Option R) : Option R :=
  (f49 (x1, x2)).bind fun (r1 : Int) =>
  k (r1)
theorem t26_eq {R : Type} (sh : Sh) (hsh : ∀ {α R : Type} (x : α) (K : α → Option R), sh x K = K x) (f49 : i49 → Option o49) (x1 : Rows) (x2 : Rows) (K : CSt → Option R) : bodyK Tryd.prog (tabO sh hsh br26 ar26 [ent49 f49]) (tabL []) ann26 false Tryd.f26 (enc26 (x1, x2)) K = t26 sh f49 x1 x2 (retK26 K) := by kernel_rfl
theorem t26_law {R : Type} (f49 : i49 → Option o49) (x1 : Rows) (x2 : Rows) (K : o26 → Option R) : t26 sh0 f49 x1 x2 K = (t26 sh0 f49 x1 x2 some).bind K := by
  have key : ∀ (sh : Sh) (_ : ∀ {α R S : Type} (x : α) (f : α → Option R) (K : R → Option S), (sh x f).bind K = sh x fun y => (f y).bind K), t26 sh f49 x1 x2 K = (t26 sh f49 x1 x2 some).bind K := by
    intro sh hb
    simp only [t26, hb, cond_bind', two_bind, none_bind', Option.bind_assoc, Option.bind_some]
  exact key sh0 (fun _ _ _ => rfl)
theorem ok26 (f49 : i49 → Option o49) (hf49 : Sd49 f49) : Sd26 (fun a => t26 sh0 f49 a.1 a.2 some) := by
  intro a b h
  refine call_ok (sh := sh0) (hsh := fun _ _ => rfl) (br := br26) (ar := ar26) (own := false) Tryd.mixed Tryd.func26 (by kernel_rfl) (.cons (mkEnt_ok hf49) .nil) (fun nt => .nil) ((t26_eq sh0 (fun _ _ => rfl) f49 a.1 a.2 _).trans ?_)
  rw [t26_law]
  simp only at h
  rw [h, Option.bind_some, retK26_eq]

/-! 27 erasure/erasureref01.CompareRows -/
abbrev i27 : Type := Rows × Rows
def enc27 : i27 → CSt := fun a => ([Go.Ev.SV.one (Go.Ev.SL.d (Go.Ev.DL.lst (23 : Nat) a.1)), Go.Ev.SV.one (Go.Ev.SL.d (Go.Ev.DL.lst (23 : Nat) a.2))], [])
def dec27 : (c : CSt) → Option { a : i27 // c = enc27 a }
  | ([Go.Ev.SV.one (Go.Ev.SL.d (Go.Ev.DL.lst (23 : Nat) x1)), Go.Ev.SV.one (Go.Ev.SL.d (Go.Ev.DL.lst (23 : Nat) x2))], []) => some ⟨(x1, x2), rfl⟩
  | _ => none
abbrev o27 : Type := Int
def ret27 : o27 → CSt := fun b => ([Go.Ev.SV.one (Go.Ev.SL.d (Go.Ev.DL.int Go.IntKind.i64 b))], [])
def retK27 {R : Type} (K : CSt → Option R) : o27 → Option R := fun b => K (([Go.Ev.SV.one (Go.Ev.SL.d (Go.Ev.DL.int Go.IntKind.i64 b))], []))
theorem retK27_eq {R : Type} (K : CSt → Option R) (b : o27) : retK27 K b = K (ret27 b) := rfl
abbrev Sd27 (f : i27 → Option o27) : Prop := ∀ a b, f a = some b → CallOk Tryd.prog 27 (enc27 a) (ret27 b)
def ent27 (f : i27 → Option o27) : Ent := mkEnt 27 dec27 ret27 retK27 retK27_eq f
def ann27 : Nat → List Nat × List Nat := fun id => bif Nat.beq id 2 then ([0, 1, 5], [0, 1, 4]) else ([], [])
def br27 : FuncId → Bool := fun (g : Nat) => ([71] : List Nat).any (Nat.beq g)
def ar27 : TypeId → Bool := fun (t : Nat) => ([88, 91, 97] : List Nat).any (Nat.beq t)
abbrev iL27_2 : Type := Rows × Rows × Int
def encL27_2 : iL27_2 → CSt := fun a => ([Go.Ev.SV.one (Go.Ev.SL.d (Go.Ev.DL.lst (23 : Nat) a.1)), Go.Ev.SV.one (Go.Ev.SL.d (Go.Ev.DL.lst (23 : Nat) a.2.1)), Go.Ev.SV.one (Go.Ev.SL.d (Go.Ev.DL.int Go.IntKind.i64 a.2.2))], [])
def decL27_2 : (c : CSt) → Option { a : iL27_2 // c = encL27_2 a }
  | ([Go.Ev.SV.one (Go.Ev.SL.d (Go.Ev.DL.lst (23 : Nat) x1)), Go.Ev.SV.one (Go.Ev.SL.d (Go.Ev.DL.lst (23 : Nat) x2)), Go.Ev.SV.one (Go.Ev.SL.d (Go.Ev.DL.int Go.IntKind.i64 x3))], []) => some ⟨(x1, x2, x3), rfl⟩
  | _ => none
abbrev oL27_2 : Type := (Rows × Rows × Int) ⊕ (Rows × Rows)
def retL27_2 : oL27_2 → Ex × CSt := two (fun b => (Go.Ev.Ex.ret, ([Go.Ev.SV.one (Go.Ev.SL.d (Go.Ev.DL.lst (23 : Nat) b.1)), Go.Ev.SV.one (Go.Ev.SL.d (Go.Ev.DL.lst (23 : Nat) b.2.1)), Go.Ev.SV.one (Go.Ev.SL.d (Go.Ev.DL.int Go.IntKind.i64 b.2.2))], []))) (fun b => (Go.Ev.Ex.exit (0 : Nat), ([Go.Ev.SV.one (Go.Ev.SL.d (Go.Ev.DL.lst (23 : Nat) b.1)), Go.Ev.SV.one (Go.Ev.SL.d (Go.Ev.DL.lst (23 : Nat) b.2)), Go.Ev.SV.one Go.Ev.SL.un], [])))
def retKL27_2 {R : Type} (K : Ex → CSt → Option R) : oL27_2 → Option R := two (fun b => K (Go.Ev.Ex.ret) (([Go.Ev.SV.one (Go.Ev.SL.d (Go.Ev.DL.lst (23 : Nat) b.1)), Go.Ev.SV.one (Go.Ev.SL.d (Go.Ev.DL.lst (23 : Nat) b.2.1)), Go.Ev.SV.one (Go.Ev.SL.d (Go.Ev.DL.int Go.IntKind.i64 b.2.2))], []))) (fun b => K (Go.Ev.Ex.exit (0 : Nat)) (([Go.Ev.SV.one (Go.Ev.SL.d (Go.Ev.DL.lst (23 : Nat) b.1)), Go.Ev.SV.one (Go.Ev.SL.d (Go.Ev.DL.lst (23 : Nat) b.2)), Go.Ev.SV.one Go.Ev.SL.un], [])))
theorem retKL27_2_eq {R : Type} (K : Ex → CSt → Option R) (b : oL27_2) : retKL27_2 K b = K (retL27_2 b).1 (retL27_2 b).2 := by
  unfold retKL27_2 retL27_2
  repeat' (first | rfl | cases b with | inl b => rfl | inr b => ?_)
def entL27_2 (l : iL27_2 → Option oL27_2) : LEnt := mkLEnt 2 decL27_2 retL27_2 retKL27_2 retKL27_2_eq l
abbrev SdL27_2 (l : iL27_2 → Option oL27_2) : Prop := ∀ nt a b, l a = some b → LoopAt Tryd.prog nt 0 ann27 Tryd.f27 2 (encL27_2 a) (retL27_2 b)
noncomputable def u27_2 {R : Type} (sh : Sh) (f25 : i25 → Option o25) (l27_2 : iL27_2 → Option oL27_2) (x1 : Rows) (x2 : Rows) (x3 : Int) (k : oL27_2 → Option R) : Option R :=
  sh ((↑(List.length x1) : Int)) fun y1 =>
  bif Decidable.decide (x3 < y1) then
    sh ((↑(List.length x2) : Int)) fun y2 =>
    bif Decidable.decide (x3 < y2) then
      bif Decidable.decide ((0 : Int) ≤ x3 ∧ x3 < (↑(List.length x1) : Int)) then
        bif Decidable.decide ((0 : Int) ≤ x3 ∧ x3 < (↑(List.length x2) : Int)) then
          (f25 (Go.Ev.DL.getI (Go.Ev.cellAt x1 (Int.toNat x3) (0 : Nat)), Go.Ev.DL.getI (Go.Ev.cellAt x1 (Int.toNat x3) (1 : Nat)), Go.Ev.DL.getS (Go.Ev.cellAt x1 (Int.toNat x3) (2 : Nat)), Go.Ev.DL.getI (Go.Ev.cellAt x2 (Int.toNat x3) (0 : Nat)), Go.Ev.DL.getI (Go.Ev.cellAt x2 (Int.toNat x3) (1 : Nat)), Go.Ev.DL.getS (Go.Ev.cellAt x2 (Int.toNat x3) (2 : Nat)))).bind fun (r3 : Int) =>
          bif r3 != (0 : Int) then
            k ((.inl (x1, x2, r3)))
          else
            (l27_2 (x1, x2, Go.IntKind.wrap Go.IntKind.i64 (x3 + (1 : Int)))).bind k
        else none
      else none
    else
      k ((.inr (x1, x2)))
  else
    k ((.inr (x1, x2)))
theorem u27_2_eq {R : Type} (sh : Sh) (hsh : ∀ {α R : Type} (x : α) (K : α → Option R), sh x K = K x) (f25 : i25 → Option o25) (l27_2 : iL27_2 → Option oL27_2) (x1 : Rows) (x2 : Rows) (x3 : Int) (K : Ex → CSt → Option R) : roundK Tryd.prog (tabO sh hsh br27 ar27 [ent25 f25]) (tabL [entL27_2 l27_2]) ann27 0 Tryd.f27 2 (encL27_2 (x1, x2, x3)) K = u27_2 sh f25 l27_2 x1 x2 x3 (retKL27_2 K) := by kernel_rfl
theorem u27_2_law {R : Type} (f25 : i25 → Option o25) (l27_2 : iL27_2 → Option oL27_2) (x1 : Rows) (x2 : Rows) (x3 : Int) (K : oL27_2 → Option R) : u27_2 sh0 f25 l27_2 x1 x2 x3 K = (u27_2 sh0 f25 l27_2 x1 x2 x3 some).bind K := by
  have key : ∀ (sh : Sh) (_ : ∀ {α R S : Type} (x : α) (f : α → Option R) (K : R → Option S), (sh x f).bind K = sh x fun y => (f y).bind K), u27_2 sh f25 l27_2 x1 x2 x3 K = (u27_2 sh f25 l27_2 x1 x2 x3 some).bind K := by
    intro sh hb
    simp only [u27_2, hb, cond_bind', two_bind, none_bind', Option.bind_assoc, Option.bind_some]
  exact key sh0 (fun _ _ _ => rfl)
theorem okL27_2 (f25 : i25 → Option o25) (l27_2 : iL27_2 → Option oL27_2) (hf25 : Sd25 f25) (hl27_2 : SdL27_2 l27_2) : SdL27_2 (fun a => u27_2 sh0 f25 l27_2 a.1 a.2.1 a.2.2 some) := by
  intro nt a b h
  refine round_ok (sh := sh0) (hsh := fun _ _ => rfl) (br := br27) (ar := ar27) Tryd.mixed (by kernel_rfl) (.cons (mkEnt_ok hf25) .nil) (.cons (mkLEnt_ok (hl27_2 nt)) .nil) ((u27_2_eq sh0 (fun _ _ => rfl) f25 l27_2  a.1 a.2.1 a.2.2 _).trans ?_)
  rw [u27_2_law]
  simp only at h
  rw [h, Option.bind_some, retKL27_2_eq]
noncomputable def t27 {R : Type} (sh : Sh) (l27_2 : iL27_2 → Option oL27_2) (x1 : Rows) (x2 : Rows) (k : o27 → Option R) : Option R :=
  (l27_2 (x1, x2, (0 : Int))).bind (two (fun (r4 : Rows × Rows × Int) =>
    k (Prod.snd r4.2)
  ) (fun (r5 : Rows × Rows) =>
    sh ((↑(List.length (Prod.fst r5)) : Int)) fun y6 =>
    sh ((↑(List.length (Prod.snd r5)) : Int)) fun y7 =>
    bif Decidable.decide (y6 < y7) then
      k ((-1 : Int))
    else
      sh ((↑(List.length (Prod.fst r5)) : Int)) fun y8 =>
      sh ((↑(List.length (Prod.snd r5)) : Int)) fun y9 =>
      bif Decidable.decide (y8 > y9) then
        k ((1 : Int))
      else
        k ((0 : Int))
  ))
theorem t27_eq {R : Type} (sh : Sh) (hsh : ∀ {α R : Type} (x : α) (K : α → Option R), sh x K = K x) (l27_2 : iL27_2 → Option oL27_2) (x1 : Rows) (x2 : Rows) (K : CSt → Option R) : bodyK Tryd.prog (tabO sh hsh br27 ar27 []) (tabL [entL27_2 l27_2]) ann27 false Tryd.f27 (enc27 (x1, x2)) K = t27 sh l27_2 x1 x2 (retK27 K) := by kernel_rfl
theorem t27_law {R : Type} (l27_2 : iL27_2 → Option oL27_2) (x1 : Rows) (x2 : Rows) (K : o27 → Option R) : t27 sh0 l27_2 x1 x2 K = (t27 sh0 l27_2 x1 x2 some).bind K := by
  have key : ∀ (sh : Sh) (_ : ∀ {α R S : Type} (x : α) (f : α → Option R) (K : R → Option S), (sh x f).bind K = sh x fun y => (f y).bind K), t27 sh l27_2 x1 x2 K = (t27 sh l27_2 x1 x2 some).bind K := by
    intro sh hb
    simp only [t27, hb, cond_bind', two_bind, none_bind', Option.bind_assoc, Option.bind_some]
  exact key sh0 (fun _ _ _ => rfl)
theorem ok27 (l27_2 : iL27_2 → Option oL27_2) (hl27_2 : SdL27_2 l27_2) : Sd27 (fun a => t27 sh0 l27_2 a.1 a.2 some) := by
  intro a b h
  refine call_ok (sh := sh0) (hsh := fun _ _ => rfl) (br := br27) (ar := ar27) (own := false) Tryd.mixed Tryd.func27 (by kernel_rfl) .nil (fun nt => (.cons (mkLEnt_ok (hl27_2 nt)) .nil)) ((t27_eq sh0 (fun _ _ => rfl) l27_2 a.1 a.2 _).trans ?_)
  rw [t27_law]
  simp only at h
  rw [h, Option.bind_some, retK27_eq]

/-! 28 erasure/erasurelaw00.New -/
abbrev i28 : Type := Rows
def enc28 : i28 → CSt := fun a => ([Go.Ev.SV.one (Go.Ev.SL.d (Go.Ev.DL.lst (3 : Nat) a))], [])
def dec28 : (c : CSt) → Option { a : i28 // c = enc28 a }
  | ([Go.Ev.SV.one (Go.Ev.SL.d (Go.Ev.DL.lst (3 : Nat) x1))], []) => some ⟨x1, rfl⟩
  | _ => none
abbrev o28 : Type := Int × Rows
def ret28 : o28 → CSt := fun b => ([Go.Ev.SV.one (Go.Ev.SL.ptr (0 : Nat) (0 : Nat))], [Go.Ev.Obj.box (61 : Nat) [Go.Ev.SL.vr (1 : Nat), Go.Ev.SL.d (Go.Ev.DL.int Go.IntKind.i64 b.1)], Go.Ev.Obj.vec (3 : Nat) Bool.false b.2])
def retK28 {R : Type} (K : CSt → Option R) : o28 → Option R := fun b => K (([Go.Ev.SV.one (Go.Ev.SL.ptr (0 : Nat) (0 : Nat))], [Go.Ev.Obj.box (61 : Nat) [Go.Ev.SL.vr (1 : Nat), Go.Ev.SL.d (Go.Ev.DL.int Go.IntKind.i64 b.1)], Go.Ev.Obj.vec (3 : Nat) Bool.false b.2]))
theorem retK28_eq {R : Type} (K : CSt → Option R) (b : o28) : retK28 K b = K (ret28 b) := rfl
abbrev Sd28 (f : i28 → Option o28) : Prop := ∀ a b, f a = some b → CallOk Tryd.prog 28 (enc28 a) (ret28 b)
def ent28 (f : i28 → Option o28) : Ent := mkEnt 28 dec28 ret28 retK28 retK28_eq f
def ann28 : Nat → List Nat × List Nat := fun id => ([], [])
def br28 : FuncId → Bool := fun (g : Nat) => ([71] : List Nat).any (Nat.beq g)
def ar28 : TypeId → Bool := fun (t : Nat) => ([88, 91, 97] : List Nat).any (Nat.beq t)
noncomputable def t28 {R : Type} (sh : Sh) (x1 : Rows) (k : o28 → Option R) : Option R :=
  sh ([] : Rows) fun y1 =>
  bif Go.Ev.roomE Go.Proofs.Tryd.prog (3 : Nat) (List.length y1 + List.length x1) then
    sh (y1 ++ x1 : Rows) fun y2 =>
    k (((0 : Int), y2))
  else none
theorem t28_eq {R : Type} (sh : Sh) (hsh : ∀ {α R : Type} (x : α) (K : α → Option R), sh x K = K x) (x1 : Rows) (K : CSt → Option R) : bodyK Tryd.prog (tabO sh hsh br28 ar28 []) (tabL []) ann28 false Tryd.f28 (enc28 x1) K = t28 sh x1 (retK28 K) := by kernel_rfl
theorem t28_law {R : Type} (x1 : Rows) (K : o28 → Option R) : t28 sh0 x1 K = (t28 sh0 x1 some).bind K := by
  have key : ∀ (sh : Sh) (_ : ∀ {α R S : Type} (x : α) (f : α → Option R) (K : R → Option S), (sh x f).bind K = sh x fun y => (f y).bind K), t28 sh x1 K = (t28 sh x1 some).bind K := by
    intro sh hb
    simp only [t28, hb, cond_bind', two_bind, none_bind', Option.bind_assoc, Option.bind_some]
  exact key sh0 (fun _ _ _ => rfl)
theorem ok28 : Sd28 (fun a => t28 sh0 a some) := by
  intro a b h
  refine call_ok (sh := sh0) (hsh := fun _ _ => rfl) (br := br28) (ar := ar28) (own := false) Tryd.mixed Tryd.func28 (by kernel_rfl) .nil (fun nt => .nil) ((t28_eq sh0 (fun _ _ => rfl) a _).trans ?_)
  rw [t28_law]
  simp only at h
  rw [h, Option.bind_some, retK28_eq]

/-! 31 (*erasure/erasurelaw00.Tape).Next -/
abbrev i31 : Type := Int × Int × Rows
def enc31 : i31 → CSt := fun a => ([Go.Ev.SV.one (Go.Ev.SL.ptr (0 : Nat) (0 : Nat)), Go.Ev.SV.one (Go.Ev.SL.d (Go.Ev.DL.int Go.IntKind.i64 a.1))], [Go.Ev.Obj.box (61 : Nat) [Go.Ev.SL.vr (1 : Nat), Go.Ev.SL.d (Go.Ev.DL.int Go.IntKind.i64 a.2.1)], Go.Ev.Obj.vec (3 : Nat) Bool.false a.2.2])
def dec31 : (c : CSt) → Option { a : i31 // c = enc31 a }
  | ([Go.Ev.SV.one (Go.Ev.SL.ptr (0 : Nat) (0 : Nat)), Go.Ev.SV.one (Go.Ev.SL.d (Go.Ev.DL.int Go.IntKind.i64 x1))], [Go.Ev.Obj.box (61 : Nat) [Go.Ev.SL.vr (1 : Nat), Go.Ev.SL.d (Go.Ev.DL.int Go.IntKind.i64 x2)], Go.Ev.Obj.vec (3 : Nat) Bool.false x3]) => some ⟨(x1, x2, x3), rfl⟩
  | _ => none
abbrev o31 : Type := Int × Int × Rows
def ret31 : o31 → CSt := fun b => ([Go.Ev.SV.one (Go.Ev.SL.d (Go.Ev.DL.int Go.IntKind.i64 b.1))], [Go.Ev.Obj.box (61 : Nat) [Go.Ev.SL.vr (1 : Nat), Go.Ev.SL.d (Go.Ev.DL.int Go.IntKind.i64 b.2.1)], Go.Ev.Obj.vec (3 : Nat) Bool.false b.2.2])
def retK31 {R : Type} (K : CSt → Option R) : o31 → Option R := fun b => K (([Go.Ev.SV.one (Go.Ev.SL.d (Go.Ev.DL.int Go.IntKind.i64 b.1))], [Go.Ev.Obj.box (61 : Nat) [Go.Ev.SL.vr (1 : Nat), Go.Ev.SL.d (Go.Ev.DL.int Go.IntKind.i64 b.2.1)], Go.Ev.Obj.vec (3 : Nat) Bool.false b.2.2]))
theorem retK31_eq {R : Type} (K : CSt → Option R) (b : o31) : retK31 K b = K (ret31 b) := rfl
abbrev Sd31 (f : i31 → Option o31) : Prop := ∀ a b, f a = some b → CallOk Tryd.prog 31 (enc31 a) (ret31 b)
def ent31 (f : i31 → Option o31) : Ent := mkEnt 31 dec31 ret31 retK31 retK31_eq f
def ann31 : Nat → List Nat × List Nat := fun id => ([], [])
def br31 : FuncId → Bool := fun (g : Nat) => ([71] : List Nat).any (Nat.beq g)
def ar31 : TypeId → Bool := fun (t : Nat) => ([88, 91, 97] : List Nat).any (Nat.beq t)
noncomputable def t31 {R : Type} (sh : Sh) (x1 : Int) (x2 : Int) (x3 : Rows) (k : o31 → Option R) : Option R :=
  bif Decidable.decide (x1 < (2 : Int)) then
    k (((0 : Int), x2, x3))
  else
    sh ((↑(List.length x3) : Int)) fun y1 =>
    bif y1 == (0 : Int) then
      k (((0 : Int), x2, x3))
    else
      sh ((↑(List.length x3) : Int)) fun y2 =>
      bif Decidable.decide (x2 ≥ Go.IntKind.wrap Go.IntKind.i64 ((4 : Int) * y2)) then
        k (((0 : Int), x2, x3))
      else
        sh ((↑(List.length x3) : Int)) fun y3 =>
        bif Decidable.decide (y3 ≠ (0 : Int)) then
          sh (Int.tmod x2 y3) fun y4 =>
          bif Decidable.decide ((0 : Int) ≤ y4 ∧ y4 < (↑(List.length x3) : Int)) then
            bif Decidable.decide (Int.toNat y4 < List.length x3) then
              sh (Go.Ev.DL.getI (Go.Ev.cellAt x3 (Int.toNat y4) (0 : Nat))) fun y5 =>
              sh ((↑(List.length x3) : Int)) fun y6 =>
              bif Decidable.decide (y6 ≠ (0 : Int)) then
                sh (Go.IntKind.wrap Go.IntKind.i64 (Int.tdiv x2 y6)) fun y7 =>
                bif Decidable.decide (y7 > (0 : Int)) then
                  bif Decidable.decide ((0 : Int) ≤ Go.IntKind.wrap Go.IntKind.u64 y7) then
                    sh (Int.fdiv y5 ((2 : Int) ^ Min.min (Int.toNat (Go.IntKind.wrap Go.IntKind.u64 y7)) (64 : Nat))) fun y8 =>
                    sh (Go.IntKind.wrap Go.IntKind.i64 (↑(BitVec.toNat (BitVec.ofInt (64 : Nat) y8 ^^^ BitVec.ofInt (64 : Nat) y7)) : Int)) fun y9 =>
                    bif Decidable.decide (x1 ≠ (0 : Int)) then
                      sh (Int.tmod y9 x1) fun y10 =>
                      sh (Go.IntKind.wrap Go.IntKind.i64 (y10 + x1)) fun y11 =>
                      bif Decidable.decide (x1 ≠ (0 : Int)) then
                        sh (Int.tmod y11 x1) fun y12 =>
                        k ((y12, Go.IntKind.wrap Go.IntKind.i64 (x2 + (1 : Int)), x3))
                      else none
                    else none
                  else none
                else
                  bif Decidable.decide (x1 ≠ (0 : Int)) then
                    sh (Int.tmod y5 x1) fun y13 =>
                    sh (Go.IntKind.wrap Go.IntKind.i64 (y13 + x1)) fun y14 =>
                    bif Decidable.decide (x1 ≠ (0 : Int)) then
                      sh (Int.tmod y14 x1) fun y15 =>
                      k ((y15, Go.IntKind.wrap Go.IntKind.i64 (x2 + (1 : Int)), x3))
                    else none
                  else none
              else none
            else none
          else none
        else none
theorem t31_eq {R : Type} (sh : Sh) (hsh : ∀ {α R : Type} (x : α) (K : α → Option R), sh x K = K x) (x1 : Int) (x2 : Int) (x3 : Rows) (K : CSt → Option R) : bodyK Tryd.prog (tabO sh hsh br31 ar31 []) (tabL []) ann31 false Tryd.f31 (enc31 (x1, x2, x3)) K = t31 sh x1 x2 x3 (retK31 K) := by kernel_rfl
theorem t31_law {R : Type} (x1 : Int) (x2 : Int) (x3 : Rows) (K : o31 → Option R) : t31 sh0 x1 x2 x3 K = (t31 sh0 x1 x2 x3 some).bind K := by
  have key : ∀ (sh : Sh) (_ : ∀ {α R S : Type} (x : α) (f : α → Option R) (K : R → Option S), (sh x f).bind K = sh x fun y => (f y).bind K), t31 sh x1 x2 x3 K = (t31 sh x1 x2 x3 some).bind K := by
    intro sh hb
    simp only [t31, hb, cond_bind', two_bind, none_bind', Option.bind_assoc, Option.bind_some]
  exact key sh0 (fun _ _ _ => rfl)
theorem ok31 : Sd31 (fun a => t31 sh0 a.1 a.2.1 a.2.2 some) := by
  intro a b h
  refine call_ok (sh := sh0) (hsh := fun _ _ => rfl) (br := br31) (ar := ar31) (own := false) Tryd.mixed Tryd.func31 (by kernel_rfl) .nil (fun nt => .nil) ((t31_eq sh0 (fun _ _ => rfl) a.1 a.2.1 a.2.2 _).trans ?_)
  rw [t31_law]
  simp only at h
  rw [h, Option.bind_some, retK31_eq]

/-! 57 erasure/erasureref01.Text -/
abbrev i57 : Type := ByteArray
def enc57 : i57 → CSt := fun a => ([Go.Ev.SV.one (Go.Ev.SL.d (Go.Ev.DL.str a))], [])
def dec57 : (c : CSt) → Option { a : i57 // c = enc57 a }
  | ([Go.Ev.SV.one (Go.Ev.SL.d (Go.Ev.DL.str x1))], []) => some ⟨x1, rfl⟩
  | _ => none
abbrev o57 : Type := Int × Int × ByteArray
def ret57 : o57 → CSt := fun b => ([Go.Ev.SV.agg [Go.Ev.SL.d (Go.Ev.DL.int Go.IntKind.i64 b.1), Go.Ev.SL.d (Go.Ev.DL.int Go.IntKind.i64 b.2.1), Go.Ev.SL.d (Go.Ev.DL.str b.2.2)]], [])
def retK57 {R : Type} (K : CSt → Option R) : o57 → Option R := fun b => K (([Go.Ev.SV.agg [Go.Ev.SL.d (Go.Ev.DL.int Go.IntKind.i64 b.1), Go.Ev.SL.d (Go.Ev.DL.int Go.IntKind.i64 b.2.1), Go.Ev.SL.d (Go.Ev.DL.str b.2.2)]], []))
theorem retK57_eq {R : Type} (K : CSt → Option R) (b : o57) : retK57 K b = K (ret57 b) := rfl
abbrev Sd57 (f : i57 → Option o57) : Prop := ∀ a b, f a = some b → CallOk Tryd.prog 57 (enc57 a) (ret57 b)
def ent57 (f : i57 → Option o57) : Ent := mkEnt 57 dec57 ret57 retK57 retK57_eq f
def ann57 : Nat → List Nat × List Nat := fun id => ([], [])
def br57 : FuncId → Bool := fun (g : Nat) => ([71] : List Nat).any (Nat.beq g)
def ar57 : TypeId → Bool := fun (t : Nat) => ([88, 91, 97] : List Nat).any (Nat.beq t)
noncomputable def t57 {R : Type} (sh : Sh) (f21 : i21 → Option o21) (x1 : ByteArray) (k : o57 → Option R) : Option R :=
  (f21 ((2 : Int), (0 : Int), x1)).bind fun (r1 : Int × Int × ByteArray) =>
  k ((Prod.fst r1, Prod.fst r1.2, Prod.snd r1.2))
theorem t57_eq {R : Type} (sh : Sh) (hsh : ∀ {α R : Type} (x : α) (K : α → Option R), sh x K = K x) (f21 : i21 → Option o21) (x1 : ByteArray) (K : CSt → Option R) : bodyK Tryd.prog (tabO sh hsh br57 ar57 [ent21 f21]) (tabL []) ann57 false Tryd.f57 (enc57 x1) K = t57 sh f21 x1 (retK57 K) := by kernel_rfl
theorem t57_law {R : Type} (f21 : i21 → Option o21) (x1 : ByteArray) (K : o57 → Option R) : t57 sh0 f21 x1 K = (t57 sh0 f21 x1 some).bind K := by
  have key : ∀ (sh : Sh) (_ : ∀ {α R S : Type} (x : α) (f : α → Option R) (K : R → Option S), (sh x f).bind K = sh x fun y => (f y).bind K), t57 sh f21 x1 K = (t57 sh f21 x1 some).bind K := by
    intro sh hb
    simp only [t57, hb, cond_bind', two_bind, none_bind', Option.bind_assoc, Option.bind_some]
  exact key sh0 (fun _ _ _ => rfl)
theorem ok57 (f21 : i21 → Option o21) (hf21 : Sd21 f21) : Sd57 (fun a => t57 sh0 f21 a some) := by
  intro a b h
  refine call_ok (sh := sh0) (hsh := fun _ _ => rfl) (br := br57) (ar := ar57) (own := false) Tryd.mixed Tryd.func57 (by kernel_rfl) (.cons (mkEnt_ok hf21) .nil) (fun nt => .nil) ((t57_eq sh0 (fun _ _ => rfl) f21 a _).trans ?_)
  rw [t57_law]
  simp only at h
  rw [h, Option.bind_some, retK57_eq]

/-! 50 (*erasure/erasurelaw00.Tape).Text -/
abbrev i50 : Type := Int × Rows
def enc50 : i50 → CSt := fun a => ([Go.Ev.SV.one (Go.Ev.SL.ptr (0 : Nat) (0 : Nat))], [Go.Ev.Obj.box (61 : Nat) [Go.Ev.SL.vr (1 : Nat), Go.Ev.SL.d (Go.Ev.DL.int Go.IntKind.i64 a.1)], Go.Ev.Obj.vec (3 : Nat) Bool.false a.2])
def dec50 : (c : CSt) → Option { a : i50 // c = enc50 a }
  | ([Go.Ev.SV.one (Go.Ev.SL.ptr (0 : Nat) (0 : Nat))], [Go.Ev.Obj.box (61 : Nat) [Go.Ev.SL.vr (1 : Nat), Go.Ev.SL.d (Go.Ev.DL.int Go.IntKind.i64 x1)], Go.Ev.Obj.vec (3 : Nat) Bool.false x2]) => some ⟨(x1, x2), rfl⟩
  | _ => none
abbrev o50 : Type := Int × Int × ByteArray × Int × Rows
def ret50 : o50 → CSt := fun b => ([Go.Ev.SV.agg [Go.Ev.SL.d (Go.Ev.DL.int Go.IntKind.i64 b.1), Go.Ev.SL.d (Go.Ev.DL.int Go.IntKind.i64 b.2.1), Go.Ev.SL.d (Go.Ev.DL.str b.2.2.1)]], [Go.Ev.Obj.box (61 : Nat) [Go.Ev.SL.vr (1 : Nat), Go.Ev.SL.d (Go.Ev.DL.int Go.IntKind.i64 b.2.2.2.1)], Go.Ev.Obj.vec (3 : Nat) Bool.false b.2.2.2.2])
def retK50 {R : Type} (K : CSt → Option R) : o50 → Option R := fun b => K (([Go.Ev.SV.agg [Go.Ev.SL.d (Go.Ev.DL.int Go.IntKind.i64 b.1), Go.Ev.SL.d (Go.Ev.DL.int Go.IntKind.i64 b.2.1), Go.Ev.SL.d (Go.Ev.DL.str b.2.2.1)]], [Go.Ev.Obj.box (61 : Nat) [Go.Ev.SL.vr (1 : Nat), Go.Ev.SL.d (Go.Ev.DL.int Go.IntKind.i64 b.2.2.2.1)], Go.Ev.Obj.vec (3 : Nat) Bool.false b.2.2.2.2]))
theorem retK50_eq {R : Type} (K : CSt → Option R) (b : o50) : retK50 K b = K (ret50 b) := rfl
abbrev Sd50 (f : i50 → Option o50) : Prop := ∀ a b, f a = some b → CallOk Tryd.prog 50 (enc50 a) (ret50 b)
def ent50 (f : i50 → Option o50) : Ent := mkEnt 50 dec50 ret50 retK50 retK50_eq f
def ann50 : Nat → List Nat × List Nat := fun id => ([], [])
def br50 : FuncId → Bool := fun (g : Nat) => ([71] : List Nat).any (Nat.beq g)
def ar50 : TypeId → Bool := fun (t : Nat) => ([88, 91, 97] : List Nat).any (Nat.beq t)
noncomputable def t50 {R : Type} (sh : Sh) (f31 : i31 → Option o31) (f57 : i57 → Option o57) (x1 : Int) (x2 : Rows) (k : o50 → Option R) : Option R :=
  sh (Go.Ev.colD [Go.Ev.DL.str { data := #[(97 : UInt8)] }, Go.Ev.DL.str { data := #[(98 : UInt8)] }, Go.Ev.DL.str { data := #[] }, Go.Ev.DL.str { data := #[(97 : UInt8), (98 : UInt8)] }, Go.Ev.DL.str { data := #[(97 : UInt8), (32 : UInt8), (98 : UInt8)] }, Go.Ev.DL.str { data := #[(120 : UInt8), (0 : UInt8), (121 : UInt8)] }, Go.Ev.DL.str { data := #[(255 : UInt8), (34 : UInt8), (92 : UInt8)] }, Go.Ev.DL.str { data := #[(98 : UInt8), (32 : UInt8), (97 : UInt8), (32 : UInt8), (98 : UInt8)] }, Go.Ev.DL.str { data := #[(108 : UInt8), (111 : UInt8), (110 : UInt8), (103 : UInt8), (32 : UInt8), (116 : UInt8), (101 : UInt8), (120 : UInt8), (116 : UInt8), (32 : UInt8), (111 : UInt8), (102 : UInt8), (32 : UInt8), (116 : UInt8), (104 : UInt8), (105 : UInt8), (114 : UInt8), (116 : UInt8), (121 : UInt8), (45 : UInt8), (116 : UInt8), (119 : UInt8), (111 : UInt8), (32 : UInt8), (98 : UInt8), (121 : UInt8), (116 : UInt8), (101 : UInt8), (115 : UInt8), (32 : UInt8), (105 : UInt8), (116 : UInt8)] }, Go.Ev.DL.str { data := #[(66 : UInt8)] }] : Rows) fun y1 =>
  (f31 ((10 : Int), x1, x2)).bind fun (r2 : Int × Int × Rows) =>
  bif Decidable.decide ((0 : Int) ≤ Prod.fst r2 ∧ Prod.fst r2 < (↑(List.length y1) : Int)) then
    bif Decidable.decide (Int.toNat (Prod.fst r2) < List.length y1) then
      sh (Go.Ev.DL.getS (Go.Ev.cellAt y1 (Int.toNat (Prod.fst r2)) (0 : Nat))) fun y3 =>
      (f57 (y3)).bind fun (r4 : Int × Int × ByteArray) =>
      k ((Prod.fst r4, Prod.fst r4.2, Prod.snd r4.2, Prod.fst r2.2, Prod.snd r2.2))
    else none
  else none
theorem t50_eq {R : Type} (sh : Sh) (hsh : ∀ {α R : Type} (x : α) (K : α → Option R), sh x K = K x) (f31 : i31 → Option o31) (f57 : i57 → Option o57) (x1 : Int) (x2 : Rows) (K : CSt → Option R) : bodyK Tryd.prog (tabO sh hsh br50 ar50 [ent31 f31, ent57 f57]) (tabL []) ann50 false Tryd.f50 (enc50 (x1, x2)) K = t50 sh f31 f57 x1 x2 (retK50 K) := by kernel_rfl
theorem t50_law {R : Type} (f31 : i31 → Option o31) (f57 : i57 → Option o57) (x1 : Int) (x2 : Rows) (K : o50 → Option R) : t50 sh0 f31 f57 x1 x2 K = (t50 sh0 f31 f57 x1 x2 some).bind K := by
  have key : ∀ (sh : Sh) (_ : ∀ {α R S : Type} (x : α) (f : α → Option R) (K : R → Option S), (sh x f).bind K = sh x fun y => (f y).bind K), t50 sh f31 f57 x1 x2 K = (t50 sh f31 f57 x1 x2 some).bind K := by
    intro sh hb
    simp only [t50, hb, cond_bind', two_bind, none_bind', Option.bind_assoc, Option.bind_some]
  exact key sh0 (fun _ _ _ => rfl)
theorem ok50 (f31 : i31 → Option o31) (f57 : i57 → Option o57) (hf31 : Sd31 f31) (hf57 : Sd57 f57) : Sd50 (fun a => t50 sh0 f31 f57 a.1 a.2 some) := by
  intro a b h
  refine call_ok (sh := sh0) (hsh := fun _ _ => rfl) (br := br50) (ar := ar50) (own := false) Tryd.mixed Tryd.func50 (by kernel_rfl) (.cons (mkEnt_ok hf31) (.cons (mkEnt_ok hf57) .nil)) (fun nt => .nil) ((t50_eq sh0 (fun _ _ => rfl) f31 f57 a.1 a.2 _).trans ?_)
  rw [t50_law]
  simp only at h
  rw [h, Option.bind_some, retK50_eq]

/-! 59 erasure/erasureref01.Int -/
abbrev i59 : Type := Int
def enc59 : i59 → CSt := fun a => ([Go.Ev.SV.one (Go.Ev.SL.d (Go.Ev.DL.int Go.IntKind.i64 a))], [])
def dec59 : (c : CSt) → Option { a : i59 // c = enc59 a }
  | ([Go.Ev.SV.one (Go.Ev.SL.d (Go.Ev.DL.int Go.IntKind.i64 x1))], []) => some ⟨x1, rfl⟩
  | _ => none
abbrev o59 : Type := Int × Int × ByteArray
def ret59 : o59 → CSt := fun b => ([Go.Ev.SV.agg [Go.Ev.SL.d (Go.Ev.DL.int Go.IntKind.i64 b.1), Go.Ev.SL.d (Go.Ev.DL.int Go.IntKind.i64 b.2.1), Go.Ev.SL.d (Go.Ev.DL.str b.2.2)]], [])
def retK59 {R : Type} (K : CSt → Option R) : o59 → Option R := fun b => K (([Go.Ev.SV.agg [Go.Ev.SL.d (Go.Ev.DL.int Go.IntKind.i64 b.1), Go.Ev.SL.d (Go.Ev.DL.int Go.IntKind.i64 b.2.1), Go.Ev.SL.d (Go.Ev.DL.str b.2.2)]], []))
theorem retK59_eq {R : Type} (K : CSt → Option R) (b : o59) : retK59 K b = K (ret59 b) := rfl
abbrev Sd59 (f : i59 → Option o59) : Prop := ∀ a b, f a = some b → CallOk Tryd.prog 59 (enc59 a) (ret59 b)
def ent59 (f : i59 → Option o59) : Ent := mkEnt 59 dec59 ret59 retK59 retK59_eq f
def ann59 : Nat → List Nat × List Nat := fun id => ([], [])
def br59 : FuncId → Bool := fun (g : Nat) => ([71] : List Nat).any (Nat.beq g)
def ar59 : TypeId → Bool := fun (t : Nat) => ([88, 91, 97] : List Nat).any (Nat.beq t)
noncomputable def t59 {R : Type} (sh : Sh) (f21 : i21 → Option o21) (x1 : Int) (k : o59 → Option R) : Option R :=
  (f21 ((1 : Int), x1, { data := #[] })).bind fun (r1 : Int × Int × ByteArray) =>
  k ((Prod.fst r1, Prod.fst r1.2, Prod.snd r1.2))
theorem t59_eq {R : Type} (sh : Sh) (hsh : ∀ {α R : Type} (x : α) (K : α → Option R), sh x K = K x) (f21 : i21 → Option o21) (x1 : Int) (K : CSt → Option R) : bodyK Tryd.prog (tabO sh hsh br59 ar59 [ent21 f21]) (tabL []) ann59 false Tryd.f59 (enc59 x1) K = t59 sh f21 x1 (retK59 K) := by kernel_rfl
theorem t59_law {R : Type} (f21 : i21 → Option o21) (x1 : Int) (K : o59 → Option R) : t59 sh0 f21 x1 K = (t59 sh0 f21 x1 some).bind K := by
  have key : ∀ (sh : Sh) (_ : ∀ {α R S : Type} (x : α) (f : α → Option R) (K : R → Option S), (sh x f).bind K = sh x fun y => (f y).bind K), t59 sh f21 x1 K = (t59 sh f21 x1 some).bind K := by
    intro sh hb
    simp only [t59, hb, cond_bind', two_bind, none_bind', Option.bind_assoc, Option.bind_some]
  exact key sh0 (fun _ _ _ => rfl)
theorem ok59 (f21 : i21 → Option o21) (hf21 : Sd21 f21) : Sd59 (fun a => t59 sh0 f21 a some) := by
  intro a b h
  refine call_ok (sh := sh0) (hsh := fun _ _ => rfl) (br := br59) (ar := ar59) (own := false) Tryd.mixed Tryd.func59 (by kernel_rfl) (.cons (mkEnt_ok hf21) .nil) (fun nt => .nil) ((t59_eq sh0 (fun _ _ => rfl) f21 a _).trans ?_)
  rw [t59_law]
  simp only at h
  rw [h, Option.bind_some, retK59_eq]

/-! 51 (*erasure/erasurelaw00.Tape).Int -/
abbrev i51 : Type := Int × Rows
def enc51 : i51 → CSt := fun a => ([Go.Ev.SV.one (Go.Ev.SL.ptr (0 : Nat) (0 : Nat))], [Go.Ev.Obj.box (61 : Nat) [Go.Ev.SL.vr (1 : Nat), Go.Ev.SL.d (Go.Ev.DL.int Go.IntKind.i64 a.1)], Go.Ev.Obj.vec (3 : Nat) Bool.false a.2])
def dec51 : (c : CSt) → Option { a : i51 // c = enc51 a }
  | ([Go.Ev.SV.one (Go.Ev.SL.ptr (0 : Nat) (0 : Nat))], [Go.Ev.Obj.box (61 : Nat) [Go.Ev.SL.vr (1 : Nat), Go.Ev.SL.d (Go.Ev.DL.int Go.IntKind.i64 x1)], Go.Ev.Obj.vec (3 : Nat) Bool.false x2]) => some ⟨(x1, x2), rfl⟩
  | _ => none
abbrev o51 : Type := Int × Int × ByteArray × Int × Rows
def ret51 : o51 → CSt := fun b => ([Go.Ev.SV.agg [Go.Ev.SL.d (Go.Ev.DL.int Go.IntKind.i64 b.1), Go.Ev.SL.d (Go.Ev.DL.int Go.IntKind.i64 b.2.1), Go.Ev.SL.d (Go.Ev.DL.str b.2.2.1)]], [Go.Ev.Obj.box (61 : Nat) [Go.Ev.SL.vr (1 : Nat), Go.Ev.SL.d (Go.Ev.DL.int Go.IntKind.i64 b.2.2.2.1)], Go.Ev.Obj.vec (3 : Nat) Bool.false b.2.2.2.2])
def retK51 {R : Type} (K : CSt → Option R) : o51 → Option R := fun b => K (([Go.Ev.SV.agg [Go.Ev.SL.d (Go.Ev.DL.int Go.IntKind.i64 b.1), Go.Ev.SL.d (Go.Ev.DL.int Go.IntKind.i64 b.2.1), Go.Ev.SL.d (Go.Ev.DL.str b.2.2.1)]], [Go.Ev.Obj.box (61 : Nat) [Go.Ev.SL.vr (1 : Nat), Go.Ev.SL.d (Go.Ev.DL.int Go.IntKind.i64 b.2.2.2.1)], Go.Ev.Obj.vec (3 : Nat) Bool.false b.2.2.2.2]))
theorem retK51_eq {R : Type} (K : CSt → Option R) (b : o51) : retK51 K b = K (ret51 b) := rfl
abbrev Sd51 (f : i51 → Option o51) : Prop := ∀ a b, f a = some b → CallOk Tryd.prog 51 (enc51 a) (ret51 b)
def ent51 (f : i51 → Option o51) : Ent := mkEnt 51 dec51 ret51 retK51 retK51_eq f
def ann51 : Nat → List Nat × List Nat := fun id => ([], [])
def br51 : FuncId → Bool := fun (g : Nat) => ([71] : List Nat).any (Nat.beq g)
def ar51 : TypeId → Bool := fun (t : Nat) => ([88, 91, 97] : List Nat).any (Nat.beq t)
noncomputable def t51 {R : Type} (sh : Sh) (f31 : i31 → Option o31) (f59 : i59 → Option o59) (x1 : Int) (x2 : Rows) (k : o51 → Option R) : Option R :=
  sh (Go.Ev.colD (Go.Ev.mapD Go.IntKind.i64 [(0 : Int), (1 : Int), (2 : Int), (3 : Int), (-1 : Int), (-2 : Int), (7 : Int), (100 : Int), (4294967296 : Int), (-4294967296 : Int), (5 : Int), (4 : Int)]) : Rows) fun y1 =>
  (f31 ((12 : Int), x1, x2)).bind fun (r2 : Int × Int × Rows) =>
  bif Decidable.decide ((0 : Int) ≤ Prod.fst r2 ∧ Prod.fst r2 < (↑(List.length y1) : Int)) then
    bif Decidable.decide (Int.toNat (Prod.fst r2) < List.length y1) then
      sh (Go.Ev.DL.getI (Go.Ev.cellAt y1 (Int.toNat (Prod.fst r2)) (0 : Nat))) fun y3 =>
      (f59 (y3)).bind fun (r4 : Int × Int × ByteArray) =>
      k ((Prod.fst r4, Prod.fst r4.2, Prod.snd r4.2, Prod.fst r2.2, Prod.snd r2.2))
    else none
  else none
theorem t51_eq {R : Type} (sh : Sh) (hsh : ∀ {α R : Type} (x : α) (K : α → Option R), sh x K = K x) (f31 : i31 → Option o31) (f59 : i59 → Option o59) (x1 : Int) (x2 : Rows) (K : CSt → Option R) : bodyK Tryd.prog (tabO sh hsh br51 ar51 [ent31 f31, ent59 f59]) (tabL []) ann51 false Tryd.f51 (enc51 (x1, x2)) K = t51 sh f31 f59 x1 x2 (retK51 K) := by kernel_rfl
theorem t51_law {R : Type} (f31 : i31 → Option o31) (f59 : i59 → Option o59) (x1 : Int) (x2 : Rows) (K : o51 → Option R) : t51 sh0 f31 f59 x1 x2 K = (t51 sh0 f31 f59 x1 x2 some).bind K := by
  have key : ∀ (sh : Sh) (_ : ∀ {α R S : Type} (x : α) (f : α → Option R) (K : R → Option S), (sh x f).bind K = sh x fun y => (f y).bind K), t51 sh f31 f59 x1 x2 K = (t51 sh f31 f59 x1 x2 some).bind K := by
    intro sh hb
    simp only [t51, hb, cond_bind', two_bind, none_bind', Option.bind_assoc, Option.bind_some]
  exact key sh0 (fun _ _ _ => rfl)
theorem ok51 (f31 : i31 → Option o31) (f59 : i59 → Option o59) (hf31 : Sd31 f31) (hf59 : Sd59 f59) : Sd51 (fun a => t51 sh0 f31 f59 a.1 a.2 some) := by
  intro a b h
  refine call_ok (sh := sh0) (hsh := fun _ _ => rfl) (br := br51) (ar := ar51) (own := false) Tryd.mixed Tryd.func51 (by kernel_rfl) (.cons (mkEnt_ok hf31) (.cons (mkEnt_ok hf59) .nil)) (fun nt => .nil) ((t51_eq sh0 (fun _ _ => rfl) f31 f59 a.1 a.2 _).trans ?_)
  rw [t51_law]
  simp only at h
  rw [h, Option.bind_some, retK51_eq]

/-! 32 (*erasure/erasurelaw00.Tape).Value -/
abbrev i32 : Type := Int × Rows
def enc32 : i32 → CSt := fun a => ([Go.Ev.SV.one (Go.Ev.SL.ptr (0 : Nat) (0 : Nat))], [Go.Ev.Obj.box (61 : Nat) [Go.Ev.SL.vr (1 : Nat), Go.Ev.SL.d (Go.Ev.DL.int Go.IntKind.i64 a.1)], Go.Ev.Obj.vec (3 : Nat) Bool.false a.2])
def dec32 : (c : CSt) → Option { a : i32 // c = enc32 a }
  | ([Go.Ev.SV.one (Go.Ev.SL.ptr (0 : Nat) (0 : Nat))], [Go.Ev.Obj.box (61 : Nat) [Go.Ev.SL.vr (1 : Nat), Go.Ev.SL.d (Go.Ev.DL.int Go.IntKind.i64 x1)], Go.Ev.Obj.vec (3 : Nat) Bool.false x2]) => some ⟨(x1, x2), rfl⟩
  | _ => none
abbrev o32 : Type := Int × Int × ByteArray × Int × Rows
def ret32 : o32 → CSt := fun b => ([Go.Ev.SV.agg [Go.Ev.SL.d (Go.Ev.DL.int Go.IntKind.i64 b.1), Go.Ev.SL.d (Go.Ev.DL.int Go.IntKind.i64 b.2.1), Go.Ev.SL.d (Go.Ev.DL.str b.2.2.1)]], [Go.Ev.Obj.box (61 : Nat) [Go.Ev.SL.vr (1 : Nat), Go.Ev.SL.d (Go.Ev.DL.int Go.IntKind.i64 b.2.2.2.1)], Go.Ev.Obj.vec (3 : Nat) Bool.false b.2.2.2.2])
def retK32 {R : Type} (K : CSt → Option R) : o32 → Option R := fun b => K (([Go.Ev.SV.agg [Go.Ev.SL.d (Go.Ev.DL.int Go.IntKind.i64 b.1), Go.Ev.SL.d (Go.Ev.DL.int Go.IntKind.i64 b.2.1), Go.Ev.SL.d (Go.Ev.DL.str b.2.2.1)]], [Go.Ev.Obj.box (61 : Nat) [Go.Ev.SL.vr (1 : Nat), Go.Ev.SL.d (Go.Ev.DL.int Go.IntKind.i64 b.2.2.2.1)], Go.Ev.Obj.vec (3 : Nat) Bool.false b.2.2.2.2]))
theorem retK32_eq {R : Type} (K : CSt → Option R) (b : o32) : retK32 K b = K (ret32 b) := rfl
abbrev Sd32 (f : i32 → Option o32) : Prop := ∀ a b, f a = some b → CallOk Tryd.prog 32 (enc32 a) (ret32 b)
def ent32 (f : i32 → Option o32) : Ent := mkEnt 32 dec32 ret32 retK32 retK32_eq f
def ann32 : Nat → List Nat × List Nat := fun id => ([], [])
def br32 : FuncId → Bool := fun (g : Nat) => ([71] : List Nat).any (Nat.beq g)
def ar32 : TypeId → Bool := fun (t : Nat) => ([88, 91, 97] : List Nat).any (Nat.beq t)
noncomputable def t32 {R : Type} (sh : Sh) (f31 : i31 → Option o31) (f50 : i50 → Option o50) (f51 : i51 → Option o51) (x1 : Int) (x2 : Rows) (k : o32 → Option R) : Option R :=
  (f31 ((5 : Int), x1, x2)).bind fun (r1 : Int × Int × Rows) =>
  bif Prod.fst r1 == (0 : Int) then
    k (((0 : Int), (0 : Int), { data := #[] }, Prod.fst r1.2, Prod.snd r1.2))
  else
    bif Prod.fst r1 == (1 : Int) then
      (f50 (Prod.fst r1.2, Prod.snd r1.2)).bind fun (r2 : Int × Int × ByteArray × Int × Rows) =>
      k ((Prod.fst r2, Prod.fst r2.2, Prod.fst (Prod.snd r2).2, Prod.fst (Prod.snd (Prod.snd r2)).2, Prod.snd (Prod.snd (Prod.snd r2)).2))
    else
      bif Prod.fst r1 == (2 : Int) then
        (f50 (Prod.fst r1.2, Prod.snd r1.2)).bind fun (r3 : Int × Int × ByteArray × Int × Rows) =>
        k ((Prod.fst r3, Prod.fst r3.2, Prod.fst (Prod.snd r3).2, Prod.fst (Prod.snd (Prod.snd r3)).2, Prod.snd (Prod.snd (Prod.snd r3)).2))
      else
        (f51 (Prod.fst r1.2, Prod.snd r1.2)).bind fun (r4 : Int × Int × ByteArray × Int × Rows) =>
        k ((Prod.fst r4, Prod.fst r4.2, Prod.fst (Prod.snd r4).2, Prod.fst (Prod.snd (Prod.snd r4)).2, Prod.snd (Prod.snd (Prod.snd r4)).2))
theorem t32_eq {R : Type} (sh : Sh) (hsh : ∀ {α R : Type} (x : α) (K : α → Option R), sh x K = K x) (f31 : i31 → Option o31) (f50 : i50 → Option o50) (f51 : i51 → Option o51) (x1 : Int) (x2 : Rows) (K : CSt → Option R) : bodyK Tryd.prog (tabO sh hsh br32 ar32 [ent31 f31, ent50 f50, ent51 f51]) (tabL []) ann32 false Tryd.f32 (enc32 (x1, x2)) K = t32 sh f31 f50 f51 x1 x2 (retK32 K) := by kernel_rfl
theorem t32_law {R : Type} (f31 : i31 → Option o31) (f50 : i50 → Option o50) (f51 : i51 → Option o51) (x1 : Int) (x2 : Rows) (K : o32 → Option R) : t32 sh0 f31 f50 f51 x1 x2 K = (t32 sh0 f31 f50 f51 x1 x2 some).bind K := by
  have key : ∀ (sh : Sh) (_ : ∀ {α R S : Type} (x : α) (f : α → Option R) (K : R → Option S), (sh x f).bind K = sh x fun y => (f y).bind K), t32 sh f31 f50 f51 x1 x2 K = (t32 sh f31 f50 f51 x1 x2 some).bind K := by
    intro sh hb
    simp only [t32, hb, cond_bind', two_bind, none_bind', Option.bind_assoc, Option.bind_some]
  exact key sh0 (fun _ _ _ => rfl)
theorem ok32 (f31 : i31 → Option o31) (f50 : i50 → Option o50) (f51 : i51 → Option o51) (hf31 : Sd31 f31) (hf50 : Sd50 f50) (hf51 : Sd51 f51) : Sd32 (fun a => t32 sh0 f31 f50 f51 a.1 a.2 some) := by
  intro a b h
  refine call_ok (sh := sh0) (hsh := fun _ _ => rfl) (br := br32) (ar := ar32) (own := false) Tryd.mixed Tryd.func32 (by kernel_rfl) (.cons (mkEnt_ok hf31) (.cons (mkEnt_ok hf50) (.cons (mkEnt_ok hf51) .nil))) (fun nt => .nil) ((t32_eq sh0 (fun _ _ => rfl) f31 f50 f51 a.1 a.2 _).trans ?_)
  rw [t32_law]
  simp only at h
  rw [h, Option.bind_some, retK32_eq]

/-! 29 (*erasure/erasurelaw00.Tape).Row -/
abbrev i29 : Type := Int × Int × Rows
def enc29 : i29 → CSt := fun a => ([Go.Ev.SV.one (Go.Ev.SL.ptr (0 : Nat) (0 : Nat)), Go.Ev.SV.one (Go.Ev.SL.d (Go.Ev.DL.int Go.IntKind.i64 a.1))], [Go.Ev.Obj.box (61 : Nat) [Go.Ev.SL.vr (1 : Nat), Go.Ev.SL.d (Go.Ev.DL.int Go.IntKind.i64 a.2.1)], Go.Ev.Obj.vec (3 : Nat) Bool.false a.2.2])
def dec29 : (c : CSt) → Option { a : i29 // c = enc29 a }
  | ([Go.Ev.SV.one (Go.Ev.SL.ptr (0 : Nat) (0 : Nat)), Go.Ev.SV.one (Go.Ev.SL.d (Go.Ev.DL.int Go.IntKind.i64 x1))], [Go.Ev.Obj.box (61 : Nat) [Go.Ev.SL.vr (1 : Nat), Go.Ev.SL.d (Go.Ev.DL.int Go.IntKind.i64 x2)], Go.Ev.Obj.vec (3 : Nat) Bool.false x3]) => some ⟨(x1, x2, x3), rfl⟩
  | _ => none
abbrev o29 : Type := Rows × Int × Rows
def ret29 : o29 → CSt := fun b => ([Go.Ev.SV.one (Go.Ev.SL.d (Go.Ev.DL.lst (23 : Nat) b.1))], [Go.Ev.Obj.box (61 : Nat) [Go.Ev.SL.vr (1 : Nat), Go.Ev.SL.d (Go.Ev.DL.int Go.IntKind.i64 b.2.1)], Go.Ev.Obj.vec (3 : Nat) Bool.false b.2.2])
def retK29 {R : Type} (K : CSt → Option R) : o29 → Option R := fun b => K (([Go.Ev.SV.one (Go.Ev.SL.d (Go.Ev.DL.lst (23 : Nat) b.1))], [Go.Ev.Obj.box (61 : Nat) [Go.Ev.SL.vr (1 : Nat), Go.Ev.SL.d (Go.Ev.DL.int Go.IntKind.i64 b.2.1)], Go.Ev.Obj.vec (3 : Nat) Bool.false b.2.2]))
theorem retK29_eq {R : Type} (K : CSt → Option R) (b : o29) : retK29 K b = K (ret29 b) := rfl
abbrev Sd29 (f : i29 → Option o29) : Prop := ∀ a b, f a = some b → CallOk Tryd.prog 29 (enc29 a) (ret29 b)
def ent29 (f : i29 → Option o29) : Ent := mkEnt 29 dec29 ret29 retK29 retK29_eq f
def ann29 : Nat → List Nat × List Nat := fun id => bif Nat.beq id 3 then ([0, 5, 6], [5]) else ([], [])
def br29 : FuncId → Bool := fun (g : Nat) => ([71] : List Nat).any (Nat.beq g)
def ar29 : TypeId → Bool := fun (t : Nat) => ([88, 91, 97] : List Nat).any (Nat.beq t)
abbrev iL29_3 : Type := Int × Int × Rows × Rows
def encL29_3 : iL29_3 → CSt := fun a => ([Go.Ev.SV.one (Go.Ev.SL.ptr (0 : Nat) (0 : Nat)), Go.Ev.SV.one (Go.Ev.SL.vr (2 : Nat)), Go.Ev.SV.one (Go.Ev.SL.d (Go.Ev.DL.int Go.IntKind.i64 a.1))], [Go.Ev.Obj.box (61 : Nat) [Go.Ev.SL.vr (1 : Nat), Go.Ev.SL.d (Go.Ev.DL.int Go.IntKind.i64 a.2.1)], Go.Ev.Obj.vec (3 : Nat) Bool.false a.2.2.1, Go.Ev.Obj.vec (23 : Nat) Bool.false a.2.2.2])
def decL29_3 : (c : CSt) → Option { a : iL29_3 // c = encL29_3 a }
  | ([Go.Ev.SV.one (Go.Ev.SL.ptr (0 : Nat) (0 : Nat)), Go.Ev.SV.one (Go.Ev.SL.vr (2 : Nat)), Go.Ev.SV.one (Go.Ev.SL.d (Go.Ev.DL.int Go.IntKind.i64 x1))], [Go.Ev.Obj.box (61 : Nat) [Go.Ev.SL.vr (1 : Nat), Go.Ev.SL.d (Go.Ev.DL.int Go.IntKind.i64 x2)], Go.Ev.Obj.vec (3 : Nat) Bool.false x3, Go.Ev.Obj.vec (23 : Nat) Bool.false x4]) => some ⟨(x1, x2, x3, x4), rfl⟩
  | _ => none
abbrev oL29_3 : Type := Int × Rows × Rows
def retL29_3 : oL29_3 → Ex × CSt := fun b => (Go.Ev.Ex.exit (0 : Nat), ([Go.Ev.SV.one (Go.Ev.SL.vr (2 : Nat))], [Go.Ev.Obj.box (61 : Nat) [Go.Ev.SL.vr (1 : Nat), Go.Ev.SL.d (Go.Ev.DL.int Go.IntKind.i64 b.1)], Go.Ev.Obj.vec (3 : Nat) Bool.false b.2.1, Go.Ev.Obj.vec (23 : Nat) Bool.false b.2.2]))
def retKL29_3 {R : Type} (K : Ex → CSt → Option R) : oL29_3 → Option R := fun b => K (Go.Ev.Ex.exit (0 : Nat)) (([Go.Ev.SV.one (Go.Ev.SL.vr (2 : Nat))], [Go.Ev.Obj.box (61 : Nat) [Go.Ev.SL.vr (1 : Nat), Go.Ev.SL.d (Go.Ev.DL.int Go.IntKind.i64 b.1)], Go.Ev.Obj.vec (3 : Nat) Bool.false b.2.1, Go.Ev.Obj.vec (23 : Nat) Bool.false b.2.2]))
theorem retKL29_3_eq {R : Type} (K : Ex → CSt → Option R) (b : oL29_3) : retKL29_3 K b = K (retL29_3 b).1 (retL29_3 b).2 := rfl
def entL29_3 (l : iL29_3 → Option oL29_3) : LEnt := mkLEnt 3 decL29_3 retL29_3 retKL29_3 retKL29_3_eq l
abbrev SdL29_3 (l : iL29_3 → Option oL29_3) : Prop := ∀ nt a b, l a = some b → LoopAt Tryd.prog nt 2 ann29 Tryd.f29 3 (encL29_3 a) (retL29_3 b)
noncomputable def u29_3 {R : Type} (sh : Sh) (f32 : i32 → Option o32) (l29_3 : iL29_3 → Option oL29_3) (x1 : Int) (x2 : Int) (x3 : Rows) (x4 : Rows) (k : oL29_3 → Option R) : Option R :=
  bif Decidable.decide (x1 > (0 : Int)) then
    (f32 (x2, x3)).bind fun (r4 : Int × Int × ByteArray × Int × Rows) =>
    sh ([[Go.Ev.DL.int Go.IntKind.i64 (Prod.fst r4), Go.Ev.DL.int Go.IntKind.i64 (Prod.fst r4.2), Go.Ev.DL.str (Prod.fst (Prod.snd r4).2)]] : Rows) fun y5 =>
    bif Go.Ev.roomE Go.Proofs.Tryd.prog (23 : Nat) (List.length x4 + List.length y5) then
      sh (x4 ++ y5 : Rows) fun y6 =>
      (l29_3 (Go.IntKind.wrap Go.IntKind.i64 (x1 - (1 : Int)), Prod.fst (Prod.snd (Prod.snd r4)).2, Prod.snd (Prod.snd (Prod.snd r4)).2, y6)).bind k
    else none
  else
    k ((x2, x3, x4))
theorem u29_3_eq {R : Type} (sh : Sh) (hsh : ∀ {α R : Type} (x : α) (K : α → Option R), sh x K = K x) (f32 : i32 → Option o32) (l29_3 : iL29_3 → Option oL29_3) (x1 : Int) (x2 : Int) (x3 : Rows) (x4 : Rows) (K : Ex → CSt → Option R) : roundK Tryd.prog (tabO sh hsh br29 ar29 [ent32 f32]) (tabL [entL29_3 l29_3]) ann29 2 Tryd.f29 3 (encL29_3 (x1, x2, x3, x4)) K = u29_3 sh f32 l29_3 x1 x2 x3 x4 (retKL29_3 K) := by kernel_rfl
theorem u29_3_law {R : Type} (f32 : i32 → Option o32) (l29_3 : iL29_3 → Option oL29_3) (x1 : Int) (x2 : Int) (x3 : Rows) (x4 : Rows) (K : oL29_3 → Option R) : u29_3 sh0 f32 l29_3 x1 x2 x3 x4 K = (u29_3 sh0 f32 l29_3 x1 x2 x3 x4 some).bind K := by
  have key : ∀ (sh : Sh) (_ : ∀ {α R S : Type} (x : α) (f : α → Option R) (K : R → Option S), (sh x f).bind K = sh x fun y => (f y).bind K), u29_3 sh f32 l29_3 x1 x2 x3 x4 K = (u29_3 sh f32 l29_3 x1 x2 x3 x4 some).bind K := by
    intro sh hb
    simp only [u29_3, hb, cond_bind', two_bind, none_bind', Option.bind_assoc, Option.bind_some]
  exact key sh0 (fun _ _ _ => rfl)
theorem okL29_3 (f32 : i32 → Option o32) (l29_3 : iL29_3 → Option oL29_3) (hf32 : Sd32 f32) (hl29_3 : SdL29_3 l29_3) : SdL29_3 (fun a => u29_3 sh0 f32 l29_3 a.1 a.2.1 a.2.2.1 a.2.2.2 some) := by
  intro nt a b h
  refine round_ok (sh := sh0) (hsh := fun _ _ => rfl) (br := br29) (ar := ar29) Tryd.mixed (by kernel_rfl) (.cons (mkEnt_ok hf32) .nil) (.cons (mkLEnt_ok (hl29_3 nt)) .nil) ((u29_3_eq sh0 (fun _ _ => rfl) f32 l29_3  a.1 a.2.1 a.2.2.1 a.2.2.2 _).trans ?_)
  rw [u29_3_law]
  simp only at h
  rw [h, Option.bind_some, retKL29_3_eq]
noncomputable def t29 {R : Type} (sh : Sh) (f31 : i31 → Option o31) (l29_3 : iL29_3 → Option oL29_3) (x1 : Int) (x2 : Int) (x3 : Rows) (k : o29 → Option R) : Option R :=
  sh ([] : Rows) fun y1 =>
  sh ([] : Rows) fun y2 =>
  (f31 (Go.IntKind.wrap Go.IntKind.i64 (x1 + (1 : Int)), x2, x3)).bind fun (r3 : Int × Int × Rows) =>
  (l29_3 (Prod.fst r3, Prod.fst r3.2, Prod.snd r3.2, y2)).bind fun (r7 : Int × Rows × Rows) =>
  k ((Prod.snd r7.2, Prod.fst r7, Prod.fst r7.2))
theorem t29_eq {R : Type} (sh : Sh) (hsh : ∀ {α R : Type} (x : α) (K : α → Option R), sh x K = K x) (f31 : i31 → Option o31) (l29_3 : iL29_3 → Option oL29_3) (x1 : Int) (x2 : Int) (x3 : Rows) (K : CSt → Option R) : bodyK Tryd.prog (tabO sh hsh br29 ar29 [ent31 f31]) (tabL [entL29_3 l29_3]) ann29 false Tryd.f29 (enc29 (x1, x2, x3)) K = t29 sh f31 l29_3 x1 x2 x3 (retK29 K) := by kernel_rfl
theorem t29_law {R : Type} (f31 : i31 → Option o31) (l29_3 : iL29_3 → Option oL29_3) (x1 : Int) (x2 : Int) (x3 : Rows) (K : o29 → Option R) : t29 sh0 f31 l29_3 x1 x2 x3 K = (t29 sh0 f31 l29_3 x1 x2 x3 some).bind K := by
  have key : ∀ (sh : Sh) (_ : ∀ {α R S : Type} (x : α) (f : α → Option R) (K : R → Option S), (sh x f).bind K = sh x fun y => (f y).bind K), t29 sh f31 l29_3 x1 x2 x3 K = (t29 sh f31 l29_3 x1 x2 x3 some).bind K := by
    intro sh hb
    simp only [t29, hb, cond_bind', two_bind, none_bind', Option.bind_assoc, Option.bind_some]
  exact key sh0 (fun _ _ _ => rfl)
theorem ok29 (f31 : i31 → Option o31) (l29_3 : iL29_3 → Option oL29_3) (hf31 : Sd31 f31) (hl29_3 : SdL29_3 l29_3) : Sd29 (fun a => t29 sh0 f31 l29_3 a.1 a.2.1 a.2.2 some) := by
  intro a b h
  refine call_ok (sh := sh0) (hsh := fun _ _ => rfl) (br := br29) (ar := ar29) (own := false) Tryd.mixed Tryd.func29 (by kernel_rfl) (.cons (mkEnt_ok hf31) .nil) (fun nt => (.cons (mkLEnt_ok (hl29_3 nt)) .nil)) ((t29_eq sh0 (fun _ _ => rfl) f31 l29_3 a.1 a.2.1 a.2.2 _).trans ?_)
  rw [t29_law]
  simp only at h
  rw [h, Option.bind_some, retK29_eq]

/-! 30 erasure/erasureref01.Same -/
abbrev i30 : Type := Rows × Rows
def enc30 : i30 → CSt := fun a => ([Go.Ev.SV.one (Go.Ev.SL.d (Go.Ev.DL.lst (23 : Nat) a.1)), Go.Ev.SV.one (Go.Ev.SL.d (Go.Ev.DL.lst (23 : Nat) a.2))], [])
def dec30 : (c : CSt) → Option { a : i30 // c = enc30 a }
  | ([Go.Ev.SV.one (Go.Ev.SL.d (Go.Ev.DL.lst (23 : Nat) x1)), Go.Ev.SV.one (Go.Ev.SL.d (Go.Ev.DL.lst (23 : Nat) x2))], []) => some ⟨(x1, x2), rfl⟩
  | _ => none
abbrev o30 : Type := Bool
def ret30 : o30 → CSt := fun b => ([Go.Ev.SV.one (Go.Ev.SL.d (Go.Ev.DL.bool b))], [])
def retK30 {R : Type} (K : CSt → Option R) : o30 → Option R := fun b => K (([Go.Ev.SV.one (Go.Ev.SL.d (Go.Ev.DL.bool b))], []))
theorem retK30_eq {R : Type} (K : CSt → Option R) (b : o30) : retK30 K b = K (ret30 b) := rfl
abbrev Sd30 (f : i30 → Option o30) : Prop := ∀ a b, f a = some b → CallOk Tryd.prog 30 (enc30 a) (ret30 b)
def ent30 (f : i30 → Option o30) : Ent := mkEnt 30 dec30 ret30 retK30 retK30_eq f
def ann30 : Nat → List Nat × List Nat := fun id => bif Nat.beq id 4 then ([0, 1, 5], [4]) else ([], [])
def br30 : FuncId → Bool := fun (g : Nat) => ([71] : List Nat).any (Nat.beq g)
def ar30 : TypeId → Bool := fun (t : Nat) => ([88, 91, 97] : List Nat).any (Nat.beq t)
abbrev iL30_4 : Type := Rows × Rows × Int
def encL30_4 : iL30_4 → CSt := fun a => ([Go.Ev.SV.one (Go.Ev.SL.d (Go.Ev.DL.lst (23 : Nat) a.1)), Go.Ev.SV.one (Go.Ev.SL.d (Go.Ev.DL.lst (23 : Nat) a.2.1)), Go.Ev.SV.one (Go.Ev.SL.d (Go.Ev.DL.int Go.IntKind.i64 a.2.2))], [])
def decL30_4 : (c : CSt) → Option { a : iL30_4 // c = encL30_4 a }
  | ([Go.Ev.SV.one (Go.Ev.SL.d (Go.Ev.DL.lst (23 : Nat) x1)), Go.Ev.SV.one (Go.Ev.SL.d (Go.Ev.DL.lst (23 : Nat) x2)), Go.Ev.SV.one (Go.Ev.SL.d (Go.Ev.DL.int Go.IntKind.i64 x3))], []) => some ⟨(x1, x2, x3), rfl⟩
  | _ => none
abbrev oL30_4 : Type := (Bool) ⊕ (Unit)
def retL30_4 : oL30_4 → Ex × CSt := two (fun b => (Go.Ev.Ex.ret, ([Go.Ev.SV.one (Go.Ev.SL.d (Go.Ev.DL.bool b))], []))) (fun b => (Go.Ev.Ex.exit (0 : Nat), ([Go.Ev.SV.one Go.Ev.SL.un], [])))
def retKL30_4 {R : Type} (K : Ex → CSt → Option R) : oL30_4 → Option R := two (fun b => K (Go.Ev.Ex.ret) (([Go.Ev.SV.one (Go.Ev.SL.d (Go.Ev.DL.bool b))], []))) (fun b => K (Go.Ev.Ex.exit (0 : Nat)) (([Go.Ev.SV.one Go.Ev.SL.un], [])))
theorem retKL30_4_eq {R : Type} (K : Ex → CSt → Option R) (b : oL30_4) : retKL30_4 K b = K (retL30_4 b).1 (retL30_4 b).2 := by
  unfold retKL30_4 retL30_4
  repeat' (first | rfl | cases b with | inl b => rfl | inr b => ?_)
def entL30_4 (l : iL30_4 → Option oL30_4) : LEnt := mkLEnt 4 decL30_4 retL30_4 retKL30_4 retKL30_4_eq l
abbrev SdL30_4 (l : iL30_4 → Option oL30_4) : Prop := ∀ nt a b, l a = some b → LoopAt Tryd.prog nt 0 ann30 Tryd.f30 4 (encL30_4 a) (retL30_4 b)
noncomputable def u30_4 {R : Type} (sh : Sh) (l30_4 : iL30_4 → Option oL30_4) (x1 : Rows) (x2 : Rows) (x3 : Int) (k : oL30_4 → Option R) : Option R :=
  sh ((↑(List.length x1) : Int)) fun y3 =>
  bif Decidable.decide (x3 < y3) then
    bif Decidable.decide ((0 : Int) ≤ x3 ∧ x3 < (↑(List.length x1) : Int)) then
      bif Decidable.decide ((0 : Int) ≤ x3 ∧ x3 < (↑(List.length x2) : Int)) then
        bif !(Go.Ev.DL.getI (Go.Ev.cellAt x1 (Int.toNat x3) (0 : Nat)) == Go.Ev.DL.getI (Go.Ev.cellAt x2 (Int.toNat x3) (0 : Nat)) && (Go.Ev.DL.getI (Go.Ev.cellAt x1 (Int.toNat x3) (1 : Nat)) == Go.Ev.DL.getI (Go.Ev.cellAt x2 (Int.toNat x3) (1 : Nat)) && (Go.Ev.DL.getS (Go.Ev.cellAt x1 (Int.toNat x3) (2 : Nat)) == Go.Ev.DL.getS (Go.Ev.cellAt x2 (Int.toNat x3) (2 : Nat)) && Bool.true))) then
          k ((.inl Bool.false))
        else
          (l30_4 (x1, x2, Go.IntKind.wrap Go.IntKind.i64 (x3 + (1 : Int)))).bind k
      else none
    else none
  else
    k ((.inr ()))
theorem u30_4_eq {R : Type} (sh : Sh) (hsh : ∀ {α R : Type} (x : α) (K : α → Option R), sh x K = K x) (l30_4 : iL30_4 → Option oL30_4) (x1 : Rows) (x2 : Rows) (x3 : Int) (K : Ex → CSt → Option R) : roundK Tryd.prog (tabO sh hsh br30 ar30 []) (tabL [entL30_4 l30_4]) ann30 0 Tryd.f30 4 (encL30_4 (x1, x2, x3)) K = u30_4 sh l30_4 x1 x2 x3 (retKL30_4 K) := by kernel_rfl
theorem u30_4_law {R : Type} (l30_4 : iL30_4 → Option oL30_4) (x1 : Rows) (x2 : Rows) (x3 : Int) (K : oL30_4 → Option R) : u30_4 sh0 l30_4 x1 x2 x3 K = (u30_4 sh0 l30_4 x1 x2 x3 some).bind K := by
  have key : ∀ (sh : Sh) (_ : ∀ {α R S : Type} (x : α) (f : α → Option R) (K : R → Option S), (sh x f).bind K = sh x fun y => (f y).bind K), u30_4 sh l30_4 x1 x2 x3 K = (u30_4 sh l30_4 x1 x2 x3 some).bind K := by
    intro sh hb
    simp only [u30_4, hb, cond_bind', two_bind, none_bind', Option.bind_assoc, Option.bind_some]
  exact key sh0 (fun _ _ _ => rfl)
theorem okL30_4 (l30_4 : iL30_4 → Option oL30_4) (hl30_4 : SdL30_4 l30_4) : SdL30_4 (fun a => u30_4 sh0 l30_4 a.1 a.2.1 a.2.2 some) := by
  intro nt a b h
  refine round_ok (sh := sh0) (hsh := fun _ _ => rfl) (br := br30) (ar := ar30) Tryd.mixed (by kernel_rfl) .nil (.cons (mkLEnt_ok (hl30_4 nt)) .nil) ((u30_4_eq sh0 (fun _ _ => rfl) l30_4  a.1 a.2.1 a.2.2 _).trans ?_)
  rw [u30_4_law]
  simp only at h
  rw [h, Option.bind_some, retKL30_4_eq]
noncomputable def t30 {R : Type} (sh : Sh) (l30_4 : iL30_4 → Option oL30_4) (x1 : Rows) (x2 : Rows) (k : o30 → Option R) : Option R :=
  sh ((↑(List.length x1) : Int)) fun y1 =>
  sh ((↑(List.length x2) : Int)) fun y2 =>
  bif y1 != y2 then
    k (Bool.false)
  else
    (l30_4 (x1, x2, (0 : Int))).bind (two (fun (r4 : Bool) =>
      k (r4)
    ) (fun _ =>
      k (Bool.true)
    ))
theorem t30_eq {R : Type} (sh : Sh) (hsh : ∀ {α R : Type} (x : α) (K : α → Option R), sh x K = K x) (l30_4 : iL30_4 → Option oL30_4) (x1 : Rows) (x2 : Rows) (K : CSt → Option R) : bodyK Tryd.prog (tabO sh hsh br30 ar30 []) (tabL [entL30_4 l30_4]) ann30 false Tryd.f30 (enc30 (x1, x2)) K = t30 sh l30_4 x1 x2 (retK30 K) := by kernel_rfl
theorem t30_law {R : Type} (l30_4 : iL30_4 → Option oL30_4) (x1 : Rows) (x2 : Rows) (K : o30 → Option R) : t30 sh0 l30_4 x1 x2 K = (t30 sh0 l30_4 x1 x2 some).bind K := by
  have key : ∀ (sh : Sh) (_ : ∀ {α R S : Type} (x : α) (f : α → Option R) (K : R → Option S), (sh x f).bind K = sh x fun y => (f y).bind K), t30 sh l30_4 x1 x2 K = (t30 sh l30_4 x1 x2 some).bind K := by
    intro sh hb
    simp only [t30, hb, cond_bind', two_bind, none_bind', Option.bind_assoc, Option.bind_some]
  exact key sh0 (fun _ _ _ => rfl)
theorem ok30 (l30_4 : iL30_4 → Option oL30_4) (hl30_4 : SdL30_4 l30_4) : Sd30 (fun a => t30 sh0 l30_4 a.1 a.2 some) := by
  intro a b h
  refine call_ok (sh := sh0) (hsh := fun _ _ => rfl) (br := br30) (ar := ar30) (own := false) Tryd.mixed Tryd.func30 (by kernel_rfl) .nil (fun nt => (.cons (mkLEnt_ok (hl30_4 nt)) .nil)) ((t30_eq sh0 (fun _ _ => rfl) l30_4 a.1 a.2 _).trans ?_)
  rw [t30_law]
  simp only at h
  rw [h, Option.bind_some, retK30_eq]

/-! 34 erasure/erasureref01.EncodeRow -/
abbrev i34 : Type := Rows
def enc34 : i34 → CSt := fun a => ([Go.Ev.SV.one (Go.Ev.SL.d (Go.Ev.DL.lst (23 : Nat) a))], [])
def dec34 : (c : CSt) → Option { a : i34 // c = enc34 a }
  | ([Go.Ev.SV.one (Go.Ev.SL.d (Go.Ev.DL.lst (23 : Nat) x1))], []) => some ⟨x1, rfl⟩
  | _ => none
abbrev o34 : Type := ByteArray
def ret34 : o34 → CSt := fun b => ([Go.Ev.SV.one (Go.Ev.SL.d (Go.Ev.DL.str b))], [])
def retK34 {R : Type} (K : CSt → Option R) : o34 → Option R := fun b => K (([Go.Ev.SV.one (Go.Ev.SL.d (Go.Ev.DL.str b))], []))
theorem retK34_eq {R : Type} (K : CSt → Option R) (b : o34) : retK34 K b = K (ret34 b) := rfl
abbrev Sd34 (f : i34 → Option o34) : Prop := ∀ a b, f a = some b → CallOk Tryd.prog 34 (enc34 a) (ret34 b)
def ent34 (f : i34 → Option o34) : Ent := mkEnt 34 dec34 ret34 retK34 retK34_eq f
def ann34 : Nat → List Nat × List Nat := fun id => bif Nat.beq id 3 then ([0, 3, 4], [3]) else bif Nat.beq id 14 then ([0, 3, 4, 5, 7], [0, 3, 4]) else ([], [])
def br34 : FuncId → Bool := fun (g : Nat) => ([71] : List Nat).any (Nat.beq g)
def ar34 : TypeId → Bool := fun (t : Nat) => ([88, 91, 97] : List Nat).any (Nat.beq t)
abbrev iL34_3 : Type := Rows × Int × Rows
def encL34_3 : iL34_3 → CSt := fun a => ([Go.Ev.SV.one (Go.Ev.SL.d (Go.Ev.DL.lst (23 : Nat) a.1)), Go.Ev.SV.one (Go.Ev.SL.vr (0 : Nat)), Go.Ev.SV.one (Go.Ev.SL.d (Go.Ev.DL.int Go.IntKind.i64 a.2.1))], [Go.Ev.Obj.vec (5 : Nat) Bool.false a.2.2])
def decL34_3 : (c : CSt) → Option { a : iL34_3 // c = encL34_3 a }
  | ([Go.Ev.SV.one (Go.Ev.SL.d (Go.Ev.DL.lst (23 : Nat) x1)), Go.Ev.SV.one (Go.Ev.SL.vr (0 : Nat)), Go.Ev.SV.one (Go.Ev.SL.d (Go.Ev.DL.int Go.IntKind.i64 x2))], [Go.Ev.Obj.vec (5 : Nat) Bool.false x3]) => some ⟨(x1, x2, x3), rfl⟩
  | _ => none
abbrev oL34_3 : Type := Rows
def retL34_3 : oL34_3 → Ex × CSt := fun b => (Go.Ev.Ex.exit (0 : Nat), ([Go.Ev.SV.one (Go.Ev.SL.vr (0 : Nat))], [Go.Ev.Obj.vec (5 : Nat) Bool.false b]))
def retKL34_3 {R : Type} (K : Ex → CSt → Option R) : oL34_3 → Option R := fun b => K (Go.Ev.Ex.exit (0 : Nat)) (([Go.Ev.SV.one (Go.Ev.SL.vr (0 : Nat))], [Go.Ev.Obj.vec (5 : Nat) Bool.false b]))
theorem retKL34_3_eq {R : Type} (K : Ex → CSt → Option R) (b : oL34_3) : retKL34_3 K b = K (retL34_3 b).1 (retL34_3 b).2 := rfl
def entL34_3 (l : iL34_3 → Option oL34_3) : LEnt := mkLEnt 3 decL34_3 retL34_3 retKL34_3 retKL34_3_eq l
abbrev SdL34_3 (l : iL34_3 → Option oL34_3) : Prop := ∀ nt a b, l a = some b → LoopAt Tryd.prog nt 0 ann34 Tryd.f34 3 (encL34_3 a) (retL34_3 b)
abbrev iL34_14 : Type := Rows × Int × Int × Rows × Int × Int × ByteArray
def encL34_14 : iL34_14 → CSt := fun a => ([Go.Ev.SV.one (Go.Ev.SL.d (Go.Ev.DL.lst (23 : Nat) a.1)), Go.Ev.SV.one (Go.Ev.SL.vr (0 : Nat)), Go.Ev.SV.one (Go.Ev.SL.d (Go.Ev.DL.int Go.IntKind.i64 a.2.1)), Go.Ev.SV.one (Go.Ev.SL.ptr (1 : Nat) (0 : Nat)), Go.Ev.SV.one (Go.Ev.SL.d (Go.Ev.DL.int Go.IntKind.i64 a.2.2.1))], [Go.Ev.Obj.vec (5 : Nat) Bool.false a.2.2.2.1, Go.Ev.Obj.box (23 : Nat) [Go.Ev.SL.d (Go.Ev.DL.int Go.IntKind.i64 a.2.2.2.2.1), Go.Ev.SL.d (Go.Ev.DL.int Go.IntKind.i64 a.2.2.2.2.2.1), Go.Ev.SL.d (Go.Ev.DL.str a.2.2.2.2.2.2)]])
def decL34_14 : (c : CSt) → Option { a : iL34_14 // c = encL34_14 a }
  | ([Go.Ev.SV.one (Go.Ev.SL.d (Go.Ev.DL.lst (23 : Nat) x1)), Go.Ev.SV.one (Go.Ev.SL.vr (0 : Nat)), Go.Ev.SV.one (Go.Ev.SL.d (Go.Ev.DL.int Go.IntKind.i64 x2)), Go.Ev.SV.one (Go.Ev.SL.ptr (1 : Nat) (0 : Nat)), Go.Ev.SV.one (Go.Ev.SL.d (Go.Ev.DL.int Go.IntKind.i64 x3))], [Go.Ev.Obj.vec (5 : Nat) Bool.false x4, Go.Ev.Obj.box (23 : Nat) [Go.Ev.SL.d (Go.Ev.DL.int Go.IntKind.i64 x5), Go.Ev.SL.d (Go.Ev.DL.int Go.IntKind.i64 x6), Go.Ev.SL.d (Go.Ev.DL.str x7)]]) => some ⟨(x1, x2, x3, x4, x5, x6, x7), rfl⟩
  | _ => none
abbrev oL34_14 : Type := Rows × Int × Rows
def retL34_14 : oL34_14 → Ex × CSt := fun b => (Go.Ev.Ex.exit (3 : Nat), ([Go.Ev.SV.one (Go.Ev.SL.d (Go.Ev.DL.lst (23 : Nat) b.1)), Go.Ev.SV.one (Go.Ev.SL.vr (0 : Nat)), Go.Ev.SV.one (Go.Ev.SL.d (Go.Ev.DL.int Go.IntKind.i64 b.2.1))], [Go.Ev.Obj.vec (5 : Nat) Bool.false b.2.2]))
def retKL34_14 {R : Type} (K : Ex → CSt → Option R) : oL34_14 → Option R := fun b => K (Go.Ev.Ex.exit (3 : Nat)) (([Go.Ev.SV.one (Go.Ev.SL.d (Go.Ev.DL.lst (23 : Nat) b.1)), Go.Ev.SV.one (Go.Ev.SL.vr (0 : Nat)), Go.Ev.SV.one (Go.Ev.SL.d (Go.Ev.DL.int Go.IntKind.i64 b.2.1))], [Go.Ev.Obj.vec (5 : Nat) Bool.false b.2.2]))
theorem retKL34_14_eq {R : Type} (K : Ex → CSt → Option R) (b : oL34_14) : retKL34_14 K b = K (retL34_14 b).1 (retL34_14 b).2 := rfl
def entL34_14 (l : iL34_14 → Option oL34_14) : LEnt := mkLEnt 14 decL34_14 retL34_14 retKL34_14 retKL34_14_eq l
abbrev SdL34_14 (l : iL34_14 → Option oL34_14) : Prop := ∀ nt a b, l a = some b → LoopAt Tryd.prog nt 0 ann34 Tryd.f34 14 (encL34_14 a) (retL34_14 b)
noncomputable def u34_3 {R : Type} (sh : Sh) (f21 : i21 → Option o21) (l34_3 : iL34_3 → Option oL34_3) (l34_14 : iL34_14 → Option oL34_14) (x1 : Rows) (x2 : Int) (x3 : Rows) (k : oL34_3 → Option R) : Option R :=
  sh ((↑(List.length x1) : Int)) fun y2 =>
  bif Decidable.decide (x2 < y2) then
    bif Decidable.decide ((0 : Int) ≤ x2 ∧ x2 < (↑(List.length x1) : Int)) then
      (f21 (Go.Ev.DL.getI (Go.Ev.cellAt x1 (Int.toNat x2) (0 : Nat)), Go.Ev.DL.getI (Go.Ev.cellAt x1 (Int.toNat x2) (1 : Nat)), Go.Ev.DL.getS (Go.Ev.cellAt x1 (Int.toNat x2) (2 : Nat)))).bind fun (r3 : Int × Int × ByteArray) =>
      bif Prod.fst r3 == (1 : Int) then
        sh ([[Go.Ev.DL.int Go.IntKind.u8 (2 : Int)], [Go.Ev.DL.int Go.IntKind.u8 (Go.IntKind.wrap Go.IntKind.u8 (Int.fdiv (Go.IntKind.wrap Go.IntKind.i64 (Prod.fst r3.2 + (4294967296 : Int))) (4294967296 : Int)))], [Go.Ev.DL.int Go.IntKind.u8 (Go.IntKind.wrap Go.IntKind.u8 (Int.fdiv (Go.IntKind.wrap Go.IntKind.i64 (Prod.fst r3.2 + (4294967296 : Int))) (16777216 : Int)))], [Go.Ev.DL.int Go.IntKind.u8 (Go.IntKind.wrap Go.IntKind.u8 (Int.fdiv (Go.IntKind.wrap Go.IntKind.i64 (Prod.fst r3.2 + (4294967296 : Int))) (65536 : Int)))], [Go.Ev.DL.int Go.IntKind.u8 (Go.IntKind.wrap Go.IntKind.u8 (Int.fdiv (Go.IntKind.wrap Go.IntKind.i64 (Prod.fst r3.2 + (4294967296 : Int))) (256 : Int)))], [Go.Ev.DL.int Go.IntKind.u8 (Go.IntKind.wrap Go.IntKind.u8 (Go.IntKind.wrap Go.IntKind.i64 (Prod.fst r3.2 + (4294967296 : Int))))]] : Rows) fun y4 =>
        bif Go.Ev.roomE Go.Proofs.Tryd.prog (5 : Nat) (List.length x3 + List.length y4) then
          sh (x3 ++ y4 : Rows) fun y5 =>
          (l34_3 (x1, Go.IntKind.wrap Go.IntKind.i64 (x2 + (1 : Int)), y5)).bind k
        else none
      else
        bif Prod.fst r3 == (2 : Int) then
          sh ([[Go.Ev.DL.int Go.IntKind.u8 (3 : Int)]] : Rows) fun y6 =>
          bif Go.Ev.roomE Go.Proofs.Tryd.prog (5 : Nat) (List.length x3 + List.length y6) then
            sh (x3 ++ y6 : Rows) fun y7 =>
            (l34_14 (x1, x2, (0 : Int), y7, Prod.fst r3, Prod.fst r3.2, Prod.snd r3.2)).bind fun (r15 : Rows × Int × Rows) =>
            sh ([[Go.Ev.DL.int Go.IntKind.u8 (0 : Int)], [Go.Ev.DL.int Go.IntKind.u8 (0 : Int)]] : Rows) fun y16 =>
            bif Go.Ev.roomE Go.Proofs.Tryd.prog (5 : Nat) (List.length (Prod.snd r15.2) + List.length y16) then
              sh (Prod.snd r15.2 ++ y16 : Rows) fun y17 =>
              (l34_3 (Prod.fst r15, Go.IntKind.wrap Go.IntKind.i64 (Prod.fst r15.2 + (1 : Int)), y17)).bind k
            else none
          else none
        else
          sh ([[Go.Ev.DL.int Go.IntKind.u8 (1 : Int)]] : Rows) fun y18 =>
          bif Go.Ev.roomE Go.Proofs.Tryd.prog (5 : Nat) (List.length x3 + List.length y18) then
            sh (x3 ++ y18 : Rows) fun y19 =>
            (l34_3 (x1, Go.IntKind.wrap Go.IntKind.i64 (x2 + (1 : Int)), y19)).bind k
          else none
    else none
  else
    k (x3)
theorem u34_3_eq {R : Type} (sh : Sh) (hsh : ∀ {α R : Type} (x : α) (K : α → Option R), sh x K = K x) (f21 : i21 → Option o21) (l34_3 : iL34_3 → Option oL34_3) (l34_14 : iL34_14 → Option oL34_14) (x1 : Rows) (x2 : Int) (x3 : Rows) (K : Ex → CSt → Option R) : roundK Tryd.prog (tabO sh hsh br34 ar34 [ent21 f21]) (tabL [entL34_3 l34_3, entL34_14 l34_14]) ann34 0 Tryd.f34 3 (encL34_3 (x1, x2, x3)) K = u34_3 sh f21 l34_3 l34_14 x1 x2 x3 (retKL34_3 K) := by kernel_rfl
theorem u34_3_law {R : Type} (f21 : i21 → Option o21) (l34_3 : iL34_3 → Option oL34_3) (l34_14 : iL34_14 → Option oL34_14) (x1 : Rows) (x2 : Int) (x3 : Rows) (K : oL34_3 → Option R) : u34_3 sh0 f21 l34_3 l34_14 x1 x2 x3 K = (u34_3 sh0 f21 l34_3 l34_14 x1 x2 x3 some).bind K := by
  have key : ∀ (sh : Sh) (_ : ∀ {α R S : Type} (x : α) (f : α → Option R) (K : R → Option S), (sh x f).bind K = sh x fun y => (f y).bind K), u34_3 sh f21 l34_3 l34_14 x1 x2 x3 K = (u34_3 sh f21 l34_3 l34_14 x1 x2 x3 some).bind K := by
    intro sh hb
    simp only [u34_3, hb, cond_bind', two_bind, none_bind', Option.bind_assoc, Option.bind_some]
  exact key sh0 (fun _ _ _ => rfl)
theorem okL34_3 (f21 : i21 → Option o21) (l34_3 : iL34_3 → Option oL34_3) (l34_14 : iL34_14 → Option oL34_14) (hf21 : Sd21 f21) (hl34_3 : SdL34_3 l34_3) (hl34_14 : SdL34_14 l34_14) : SdL34_3 (fun a => u34_3 sh0 f21 l34_3 l34_14 a.1 a.2.1 a.2.2 some) := by
  intro nt a b h
  refine round_ok (sh := sh0) (hsh := fun _ _ => rfl) (br := br34) (ar := ar34) Tryd.mixed (by kernel_rfl) (.cons (mkEnt_ok hf21) .nil) (.cons (mkLEnt_ok (hl34_3 nt)) (.cons (mkLEnt_ok (hl34_14 nt)) .nil)) ((u34_3_eq sh0 (fun _ _ => rfl) f21 l34_3 l34_14  a.1 a.2.1 a.2.2 _).trans ?_)
  rw [u34_3_law]
  simp only at h
  rw [h, Option.bind_some, retKL34_3_eq]
noncomputable def u34_14 {R : Type} (sh : Sh) (l34_14 : iL34_14 → Option oL34_14) (x1 : Rows) (x2 : Int) (x3 : Int) (x4 : Rows) (x5 : Int) (x6 : Int) (x7 : ByteArray) (k : oL34_14 → Option R) : Option R :=
  sh ((↑(ByteArray.size x7) : Int)) fun y8 =>
  bif Decidable.decide (x3 < y8) then
    bif Decidable.decide ((0 : Int) ≤ x3 ∧ x3 < (↑(ByteArray.size x7) : Int)) then
      sh ((↑(UInt8.toNat (List.getD (Array.toList (ByteArray.data x7)) (Int.toNat x3) (0 : UInt8))) : Int)) fun y9 =>
      sh ([[Go.Ev.DL.int Go.IntKind.u8 y9]] : Rows) fun y10 =>
      bif Go.Ev.roomE Go.Proofs.Tryd.prog (5 : Nat) (List.length x4 + List.length y10) then
        sh (x4 ++ y10 : Rows) fun y11 =>
        bif Decidable.decide ((0 : Int) ≤ x3 ∧ x3 < (↑(ByteArray.size x7) : Int)) then
          sh ((↑(UInt8.toNat (List.getD (Array.toList (ByteArray.data x7)) (Int.toNat x3) (0 : UInt8))) : Int)) fun y12 =>
          bif y12 == (0 : Int) then
            sh ([[Go.Ev.DL.int Go.IntKind.u8 (255 : Int)]] : Rows) fun y13 =>
            bif Go.Ev.roomE Go.Proofs.Tryd.prog (5 : Nat) (List.length y11 + List.length y13) then
              sh (y11 ++ y13 : Rows) fun y14 =>
              (l34_14 (x1, x2, Go.IntKind.wrap Go.IntKind.i64 (x3 + (1 : Int)), y14, x5, x6, x7)).bind k
            else none
          else
            (l34_14 (x1, x2, Go.IntKind.wrap Go.IntKind.i64 (x3 + (1 : Int)), y11, x5, x6, x7)).bind k
        else none
      else none
    else none
  else
    k ((x1, x2, x4))
theorem u34_14_eq {R : Type} (sh : Sh) (hsh : ∀ {α R : Type} (x : α) (K : α → Option R), sh x K = K x) (l34_14 : iL34_14 → Option oL34_14) (x1 : Rows) (x2 : Int) (x3 : Int) (x4 : Rows) (x5 : Int) (x6 : Int) (x7 : ByteArray) (K : Ex → CSt → Option R) : roundK Tryd.prog (tabO sh hsh br34 ar34 []) (tabL [entL34_14 l34_14]) ann34 0 Tryd.f34 14 (encL34_14 (x1, x2, x3, x4, x5, x6, x7)) K = u34_14 sh l34_14 x1 x2 x3 x4 x5 x6 x7 (retKL34_14 K) := by kernel_rfl
theorem u34_14_law {R : Type} (l34_14 : iL34_14 → Option oL34_14) (x1 : Rows) (x2 : Int) (x3 : Int) (x4 : Rows) (x5 : Int) (x6 : Int) (x7 : ByteArray) (K : oL34_14 → Option R) : u34_14 sh0 l34_14 x1 x2 x3 x4 x5 x6 x7 K = (u34_14 sh0 l34_14 x1 x2 x3 x4 x5 x6 x7 some).bind K := by
  have key : ∀ (sh : Sh) (_ : ∀ {α R S : Type} (x : α) (f : α → Option R) (K : R → Option S), (sh x f).bind K = sh x fun y => (f y).bind K), u34_14 sh l34_14 x1 x2 x3 x4 x5 x6 x7 K = (u34_14 sh l34_14 x1 x2 x3 x4 x5 x6 x7 some).bind K := by
    intro sh hb
    simp only [u34_14, hb, cond_bind', two_bind, none_bind', Option.bind_assoc, Option.bind_some]
  exact key sh0 (fun _ _ _ => rfl)
theorem okL34_14 (l34_14 : iL34_14 → Option oL34_14) (hl34_14 : SdL34_14 l34_14) : SdL34_14 (fun a => u34_14 sh0 l34_14 a.1 a.2.1 a.2.2.1 a.2.2.2.1 a.2.2.2.2.1 a.2.2.2.2.2.1 a.2.2.2.2.2.2 some) := by
  intro nt a b h
  refine round_ok (sh := sh0) (hsh := fun _ _ => rfl) (br := br34) (ar := ar34) Tryd.mixed (by kernel_rfl) .nil (.cons (mkLEnt_ok (hl34_14 nt)) .nil) ((u34_14_eq sh0 (fun _ _ => rfl) l34_14  a.1 a.2.1 a.2.2.1 a.2.2.2.1 a.2.2.2.2.1 a.2.2.2.2.2.1 a.2.2.2.2.2.2 _).trans ?_)
  rw [u34_14_law]
  simp only at h
  rw [h, Option.bind_some, retKL34_14_eq]
noncomputable def t34 {R : Type} (sh : Sh) (l34_3 : iL34_3 → Option oL34_3) (x1 : Rows) (k : o34 → Option R) : Option R :=
  sh ([] : Rows) fun y1 =>
  (l34_3 (x1, (0 : Int), y1)).bind fun (r20 : Rows) =>
  sh (Go.Ev.strOfBytes r20) fun y21 =>
  k (y21)
theorem t34_eq {R : Type} (sh : Sh) (hsh : ∀ {α R : Type} (x : α) (K : α → Option R), sh x K = K x) (l34_3 : iL34_3 → Option oL34_3) (x1 : Rows) (K : CSt → Option R) : bodyK Tryd.prog (tabO sh hsh br34 ar34 []) (tabL [entL34_3 l34_3]) ann34 false Tryd.f34 (enc34 x1) K = t34 sh l34_3 x1 (retK34 K) := by kernel_rfl
theorem t34_law {R : Type} (l34_3 : iL34_3 → Option oL34_3) (x1 : Rows) (K : o34 → Option R) : t34 sh0 l34_3 x1 K = (t34 sh0 l34_3 x1 some).bind K := by
  have key : ∀ (sh : Sh) (_ : ∀ {α R S : Type} (x : α) (f : α → Option R) (K : R → Option S), (sh x f).bind K = sh x fun y => (f y).bind K), t34 sh l34_3 x1 K = (t34 sh l34_3 x1 some).bind K := by
    intro sh hb
    simp only [t34, hb, cond_bind', two_bind, none_bind', Option.bind_assoc, Option.bind_some]
  exact key sh0 (fun _ _ _ => rfl)
theorem ok34 (l34_3 : iL34_3 → Option oL34_3) (hl34_3 : SdL34_3 l34_3) : Sd34 (fun a => t34 sh0 l34_3 a some) := by
  intro a b h
  refine call_ok (sh := sh0) (hsh := fun _ _ => rfl) (br := br34) (ar := ar34) (own := false) Tryd.mixed Tryd.func34 (by kernel_rfl) .nil (fun nt => (.cons (mkLEnt_ok (hl34_3 nt)) .nil)) ((t34_eq sh0 (fun _ _ => rfl) l34_3 a _).trans ?_)
  rw [t34_law]
  simp only at h
  rw [h, Option.bind_some, retK34_eq]

/-! 65 erasure/value.decodeText -/
abbrev i65 : Type := ByteArray
def enc65 : i65 → CSt := fun a => ([Go.Ev.SV.one (Go.Ev.SL.d (Go.Ev.DL.str a))], [])
def dec65 : (c : CSt) → Option { a : i65 // c = enc65 a }
  | ([Go.Ev.SV.one (Go.Ev.SL.d (Go.Ev.DL.str x1))], []) => some ⟨x1, rfl⟩
  | _ => none
abbrev o65 : Type := ByteArray × ByteArray × Bool
def ret65 : o65 → CSt := fun b => ([Go.Ev.SV.one (Go.Ev.SL.d (Go.Ev.DL.str b.1)), Go.Ev.SV.one (Go.Ev.SL.d (Go.Ev.DL.str b.2.1)), Go.Ev.SV.one (Go.Ev.SL.d (Go.Ev.DL.bool b.2.2))], [])
def retK65 {R : Type} (K : CSt → Option R) : o65 → Option R := fun b => K (([Go.Ev.SV.one (Go.Ev.SL.d (Go.Ev.DL.str b.1)), Go.Ev.SV.one (Go.Ev.SL.d (Go.Ev.DL.str b.2.1)), Go.Ev.SV.one (Go.Ev.SL.d (Go.Ev.DL.bool b.2.2))], []))
theorem retK65_eq {R : Type} (K : CSt → Option R) (b : o65) : retK65 K b = K (ret65 b) := rfl
abbrev Sd65 (f : i65 → Option o65) : Prop := ∀ a b, f a = some b → CallOk Tryd.prog 65 (enc65 a) (ret65 b)
def ent65 (f : i65 → Option o65) : Ent := mkEnt 65 dec65 ret65 retK65 retK65_eq f
def ann65 : Nat → List Nat × List Nat := fun id => bif Nat.beq id 3 then ([0, 5, 6], [2, 3, 4]) else ([], [])
def br65 : FuncId → Bool := fun (g : Nat) => ([71] : List Nat).any (Nat.beq g)
def ar65 : TypeId → Bool := fun (t : Nat) => ([88, 91, 97] : List Nat).any (Nat.beq t)
abbrev iL65_3 : Type := ByteArray × Int × Rows
def encL65_3 : iL65_3 → CSt := fun a => ([Go.Ev.SV.one (Go.Ev.SL.d (Go.Ev.DL.str a.1)), Go.Ev.SV.one (Go.Ev.SL.vr (0 : Nat)), Go.Ev.SV.one (Go.Ev.SL.d (Go.Ev.DL.int Go.IntKind.i64 a.2.1))], [Go.Ev.Obj.vec (5 : Nat) Bool.false a.2.2])
def decL65_3 : (c : CSt) → Option { a : iL65_3 // c = encL65_3 a }
  | ([Go.Ev.SV.one (Go.Ev.SL.d (Go.Ev.DL.str x1)), Go.Ev.SV.one (Go.Ev.SL.vr (0 : Nat)), Go.Ev.SV.one (Go.Ev.SL.d (Go.Ev.DL.int Go.IntKind.i64 x2))], [Go.Ev.Obj.vec (5 : Nat) Bool.false x3]) => some ⟨(x1, x2, x3), rfl⟩
  | _ => none
abbrev oL65_3 : Type := (ByteArray × ByteArray × Bool) ⊕ (Unit)
def retL65_3 : oL65_3 → Ex × CSt := two (fun b => (Go.Ev.Ex.ret, ([Go.Ev.SV.one (Go.Ev.SL.d (Go.Ev.DL.str b.1)), Go.Ev.SV.one (Go.Ev.SL.d (Go.Ev.DL.str b.2.1)), Go.Ev.SV.one (Go.Ev.SL.d (Go.Ev.DL.bool b.2.2))], []))) (fun b => (Go.Ev.Ex.exit (0 : Nat), ([Go.Ev.SV.one Go.Ev.SL.un, Go.Ev.SV.one Go.Ev.SL.un, Go.Ev.SV.one Go.Ev.SL.un], [])))
def retKL65_3 {R : Type} (K : Ex → CSt → Option R) : oL65_3 → Option R := two (fun b => K (Go.Ev.Ex.ret) (([Go.Ev.SV.one (Go.Ev.SL.d (Go.Ev.DL.str b.1)), Go.Ev.SV.one (Go.Ev.SL.d (Go.Ev.DL.str b.2.1)), Go.Ev.SV.one (Go.Ev.SL.d (Go.Ev.DL.bool b.2.2))], []))) (fun b => K (Go.Ev.Ex.exit (0 : Nat)) (([Go.Ev.SV.one Go.Ev.SL.un, Go.Ev.SV.one Go.Ev.SL.un, Go.Ev.SV.one Go.Ev.SL.un], [])))
theorem retKL65_3_eq {R : Type} (K : Ex → CSt → Option R) (b : oL65_3) : retKL65_3 K b = K (retL65_3 b).1 (retL65_3 b).2 := by
  unfold retKL65_3 retL65_3
  repeat' (first | rfl | cases b with | inl b => rfl | inr b => ?_)
def entL65_3 (l : iL65_3 → Option oL65_3) : LEnt := mkLEnt 3 decL65_3 retL65_3 retKL65_3 retKL65_3_eq l
abbrev SdL65_3 (l : iL65_3 → Option oL65_3) : Prop := ∀ nt a b, l a = some b → LoopAt Tryd.prog nt 0 ann65 Tryd.f65 3 (encL65_3 a) (retL65_3 b)
noncomputable def u65_3 {R : Type} (sh : Sh) (l65_3 : iL65_3 → Option oL65_3) (x1 : ByteArray) (x2 : Int) (x3 : Rows) (k : oL65_3 → Option R) : Option R :=
  sh ((↑(ByteArray.size x1) : Int)) fun y2 =>
  bif Decidable.decide (Go.IntKind.wrap Go.IntKind.i64 (x2 + (1 : Int)) < y2) then
    bif Decidable.decide ((0 : Int) ≤ x2 ∧ x2 < (↑(ByteArray.size x1) : Int)) then
      sh ((↑(UInt8.toNat (List.getD (Array.toList (ByteArray.data x1)) (Int.toNat x2) (0 : UInt8))) : Int)) fun y3 =>
      bif y3 != (0 : Int) then
        bif Decidable.decide ((0 : Int) ≤ x2 ∧ x2 < (↑(ByteArray.size x1) : Int)) then
          sh ((↑(UInt8.toNat (List.getD (Array.toList (ByteArray.data x1)) (Int.toNat x2) (0 : UInt8))) : Int)) fun y4 =>
          sh ([[Go.Ev.DL.int Go.IntKind.u8 y4]] : Rows) fun y5 =>
          bif Go.Ev.roomE Go.Proofs.Tryd.prog (5 : Nat) (List.length x3 + List.length y5) then
            sh (x3 ++ y5 : Rows) fun y6 =>
            (l65_3 (x1, Go.IntKind.wrap Go.IntKind.i64 (x2 + (1 : Int)), y6)).bind k
          else none
        else none
      else
        bif Decidable.decide ((0 : Int) ≤ Go.IntKind.wrap Go.IntKind.i64 (x2 + (1 : Int)) ∧ Go.IntKind.wrap Go.IntKind.i64 (x2 + (1 : Int)) < (↑(ByteArray.size x1) : Int)) then
          sh ((↑(UInt8.toNat (List.getD (Array.toList (ByteArray.data x1)) (Int.toNat (Go.IntKind.wrap Go.IntKind.i64 (x2 + (1 : Int)))) (0 : UInt8))) : Int)) fun y7 =>
          bif y7 == (0 : Int) then
            sh (Go.Ev.strOfBytes x3) fun y8 =>
            bif Decidable.decide ((0 : Int) ≤ Go.IntKind.wrap Go.IntKind.i64 (x2 + (2 : Int)) ∧ Go.IntKind.wrap Go.IntKind.i64 (x2 + (2 : Int)) ≤ (↑(ByteArray.size x1) : Int)) then
              sh (ByteArray.extract x1 (Int.toNat (Go.IntKind.wrap Go.IntKind.i64 (x2 + (2 : Int)))) (ByteArray.size x1)) fun y9 =>
              k ((.inl (y8, y9, Bool.true)))
            else none
          else
            bif y7 == (255 : Int) then
              sh ([[Go.Ev.DL.int Go.IntKind.u8 (0 : Int)]] : Rows) fun y10 =>
              bif Go.Ev.roomE Go.Proofs.Tryd.prog (5 : Nat) (List.length x3 + List.length y10) then
                sh (x3 ++ y10 : Rows) fun y11 =>
                (l65_3 (x1, Go.IntKind.wrap Go.IntKind.i64 (Go.IntKind.wrap Go.IntKind.i64 (x2 + (1 : Int)) + (1 : Int)), y11)).bind k
              else none
            else
              k ((.inl ({ data := #[] }, { data := #[] }, Bool.false)))
        else none
    else none
  else
    k ((.inr ()))
theorem u65_3_eq {R : Type} (sh : Sh) (hsh : ∀ {α R : Type} (x : α) (K : α → Option R), sh x K = K x) (l65_3 : iL65_3 → Option oL65_3) (x1 : ByteArray) (x2 : Int) (x3 : Rows) (K : Ex → CSt → Option R) : roundK Tryd.prog (tabO sh hsh br65 ar65 []) (tabL [entL65_3 l65_3]) ann65 0 Tryd.f65 3 (encL65_3 (x1, x2, x3)) K = u65_3 sh l65_3 x1 x2 x3 (retKL65_3 K) := by kernel_rfl
theorem u65_3_law {R : Type} (l65_3 : iL65_3 → Option oL65_3) (x1 : ByteArray) (x2 : Int) (x3 : Rows) (K : oL65_3 → Option R) : u65_3 sh0 l65_3 x1 x2 x3 K = (u65_3 sh0 l65_3 x1 x2 x3 some).bind K := by
  have key : ∀ (sh : Sh) (_ : ∀ {α R S : Type} (x : α) (f : α → Option R) (K : R → Option S), (sh x f).bind K = sh x fun y => (f y).bind K), u65_3 sh l65_3 x1 x2 x3 K = (u65_3 sh l65_3 x1 x2 x3 some).bind K := by
    intro sh hb
    simp only [u65_3, hb, cond_bind', two_bind, none_bind', Option.bind_assoc, Option.bind_some]
  exact key sh0 (fun _ _ _ => rfl)
theorem okL65_3 (l65_3 : iL65_3 → Option oL65_3) (hl65_3 : SdL65_3 l65_3) : SdL65_3 (fun a => u65_3 sh0 l65_3 a.1 a.2.1 a.2.2 some) := by
  intro nt a b h
  refine round_ok (sh := sh0) (hsh := fun _ _ => rfl) (br := br65) (ar := ar65) Tryd.mixed (by kernel_rfl) .nil (.cons (mkLEnt_ok (hl65_3 nt)) .nil) ((u65_3_eq sh0 (fun _ _ => rfl) l65_3  a.1 a.2.1 a.2.2 _).trans ?_)
  rw [u65_3_law]
  simp only at h
  rw [h, Option.bind_some, retKL65_3_eq]
noncomputable def t65 {R : Type} (sh : Sh) (l65_3 : iL65_3 → Option oL65_3) (x1 : ByteArray) (k : o65 → Option R) : Option R :=
  sh ([] : Rows) fun y1 =>
  (l65_3 (x1, (0 : Int), y1)).bind (two (fun (r12 : ByteArray × ByteArray × Bool) =>
    k ((Prod.fst r12, Prod.fst r12.2, Prod.snd r12.2))
  ) (fun _ =>
    k (({ data := #[] }, { data := #[] }, Bool.false))
  ))
theorem t65_eq {R : Type} (sh : Sh) (hsh : ∀ {α R : Type} (x : α) (K : α → Option R), sh x K = K x) (l65_3 : iL65_3 → Option oL65_3) (x1 : ByteArray) (K : CSt → Option R) : bodyK Tryd.prog (tabO sh hsh br65 ar65 []) (tabL [entL65_3 l65_3]) ann65 false Tryd.f65 (enc65 x1) K = t65 sh l65_3 x1 (retK65 K) := by kernel_rfl
theorem t65_law {R : Type} (l65_3 : iL65_3 → Option oL65_3) (x1 : ByteArray) (K : o65 → Option R) : t65 sh0 l65_3 x1 K = (t65 sh0 l65_3 x1 some).bind K := by
  have key : ∀ (sh : Sh) (_ : ∀ {α R S : Type} (x : α) (f : α → Option R) (K : R → Option S), (sh x f).bind K = sh x fun y => (f y).bind K), t65 sh l65_3 x1 K = (t65 sh l65_3 x1 some).bind K := by
    intro sh hb
    simp only [t65, hb, cond_bind', two_bind, none_bind', Option.bind_assoc, Option.bind_some]
  exact key sh0 (fun _ _ _ => rfl)
theorem ok65 (l65_3 : iL65_3 → Option oL65_3) (hl65_3 : SdL65_3 l65_3) : Sd65 (fun a => t65 sh0 l65_3 a some) := by
  intro a b h
  refine call_ok (sh := sh0) (hsh := fun _ _ => rfl) (br := br65) (ar := ar65) (own := false) Tryd.mixed Tryd.func65 (by kernel_rfl) .nil (fun nt => (.cons (mkLEnt_ok (hl65_3 nt)) .nil)) ((t65_eq sh0 (fun _ _ => rfl) l65_3 a _).trans ?_)
  rw [t65_law]
  simp only at h
  rw [h, Option.bind_some, retK65_eq]

/-! 52 erasure/value.decode -/
abbrev i52 : Type := ByteArray
def enc52 : i52 → CSt := fun a => ([Go.Ev.SV.one (Go.Ev.SL.d (Go.Ev.DL.str a))], [])
def dec52 : (c : CSt) → Option { a : i52 // c = enc52 a }
  | ([Go.Ev.SV.one (Go.Ev.SL.d (Go.Ev.DL.str x1))], []) => some ⟨x1, rfl⟩
  | _ => none
abbrev o52 : Type := Int × Int × ByteArray × ByteArray × Bool
def ret52 : o52 → CSt := fun b => ([Go.Ev.SV.agg [Go.Ev.SL.d (Go.Ev.DL.int Go.IntKind.i64 b.1), Go.Ev.SL.d (Go.Ev.DL.int Go.IntKind.i64 b.2.1), Go.Ev.SL.d (Go.Ev.DL.str b.2.2.1)], Go.Ev.SV.one (Go.Ev.SL.d (Go.Ev.DL.str b.2.2.2.1)), Go.Ev.SV.one (Go.Ev.SL.d (Go.Ev.DL.bool b.2.2.2.2))], [])
def retK52 {R : Type} (K : CSt → Option R) : o52 → Option R := fun b => K (([Go.Ev.SV.agg [Go.Ev.SL.d (Go.Ev.DL.int Go.IntKind.i64 b.1), Go.Ev.SL.d (Go.Ev.DL.int Go.IntKind.i64 b.2.1), Go.Ev.SL.d (Go.Ev.DL.str b.2.2.1)], Go.Ev.SV.one (Go.Ev.SL.d (Go.Ev.DL.str b.2.2.2.1)), Go.Ev.SV.one (Go.Ev.SL.d (Go.Ev.DL.bool b.2.2.2.2))], []))
theorem retK52_eq {R : Type} (K : CSt → Option R) (b : o52) : retK52 K b = K (ret52 b) := rfl
abbrev Sd52 (f : i52 → Option o52) : Prop := ∀ a b, f a = some b → CallOk Tryd.prog 52 (enc52 a) (ret52 b)
def ent52 (f : i52 → Option o52) : Ent := mkEnt 52 dec52 ret52 retK52 retK52_eq f
def ann52 : Nat → List Nat × List Nat := fun id => bif Nat.beq id 9 then ([0, 2, 5, 26, 27, 28], [0, 2, 5]) else ([], [])
def br52 : FuncId → Bool := fun (g : Nat) => ([71] : List Nat).any (Nat.beq g)
def ar52 : TypeId → Bool := fun (t : Nat) => ([88, 91, 97] : List Nat).any (Nat.beq t)
abbrev iL52_9 : Type := ByteArray × Int × Int × Int × Int × Int × ByteArray × Rows
def encL52_9 : iL52_9 → CSt := fun a => ([Go.Ev.SV.one (Go.Ev.SL.d (Go.Ev.DL.str a.1)), Go.Ev.SV.one (Go.Ev.SL.ptr (0 : Nat) (0 : Nat)), Go.Ev.SV.one (Go.Ev.SL.d (Go.Ev.DL.int Go.IntKind.i64 a.2.1)), Go.Ev.SV.one (Go.Ev.SL.vr (1 : Nat)), Go.Ev.SV.one (Go.Ev.SL.d (Go.Ev.DL.int Go.IntKind.i64 a.2.2.1)), Go.Ev.SV.one (Go.Ev.SL.d (Go.Ev.DL.int Go.IntKind.i64 a.2.2.2.1))], [Go.Ev.Obj.box (23 : Nat) [Go.Ev.SL.d (Go.Ev.DL.int Go.IntKind.i64 a.2.2.2.2.1), Go.Ev.SL.d (Go.Ev.DL.int Go.IntKind.i64 a.2.2.2.2.2.1), Go.Ev.SL.d (Go.Ev.DL.str a.2.2.2.2.2.2.1)], Go.Ev.Obj.vec (5 : Nat) Bool.false a.2.2.2.2.2.2.2])
def decL52_9 : (c : CSt) → Option { a : iL52_9 // c = encL52_9 a }
  | ([Go.Ev.SV.one (Go.Ev.SL.d (Go.Ev.DL.str x1)), Go.Ev.SV.one (Go.Ev.SL.ptr (0 : Nat) (0 : Nat)), Go.Ev.SV.one (Go.Ev.SL.d (Go.Ev.DL.int Go.IntKind.i64 x2)), Go.Ev.SV.one (Go.Ev.SL.vr (1 : Nat)), Go.Ev.SV.one (Go.Ev.SL.d (Go.Ev.DL.int Go.IntKind.i64 x3)), Go.Ev.SV.one (Go.Ev.SL.d (Go.Ev.DL.int Go.IntKind.i64 x4))], [Go.Ev.Obj.box (23 : Nat) [Go.Ev.SL.d (Go.Ev.DL.int Go.IntKind.i64 x5), Go.Ev.SL.d (Go.Ev.DL.int Go.IntKind.i64 x6), Go.Ev.SL.d (Go.Ev.DL.str x7)], Go.Ev.Obj.vec (5 : Nat) Bool.false x8]) => some ⟨(x1, x2, x3, x4, x5, x6, x7, x8), rfl⟩
  | _ => none
abbrev oL52_9 : Type := ByteArray × Int × Int × Int × ByteArray
def retL52_9 : oL52_9 → Ex × CSt := fun b => (Go.Ev.Ex.exit (1 : Nat), ([Go.Ev.SV.one (Go.Ev.SL.d (Go.Ev.DL.str b.1)), Go.Ev.SV.one (Go.Ev.SL.ptr (0 : Nat) (0 : Nat)), Go.Ev.SV.one (Go.Ev.SL.d (Go.Ev.DL.int Go.IntKind.i64 b.2.1))], [Go.Ev.Obj.box (23 : Nat) [Go.Ev.SL.d (Go.Ev.DL.int Go.IntKind.i64 b.2.2.1), Go.Ev.SL.d (Go.Ev.DL.int Go.IntKind.i64 b.2.2.2.1), Go.Ev.SL.d (Go.Ev.DL.str b.2.2.2.2)]]))
def retKL52_9 {R : Type} (K : Ex → CSt → Option R) : oL52_9 → Option R := fun b => K (Go.Ev.Ex.exit (1 : Nat)) (([Go.Ev.SV.one (Go.Ev.SL.d (Go.Ev.DL.str b.1)), Go.Ev.SV.one (Go.Ev.SL.ptr (0 : Nat) (0 : Nat)), Go.Ev.SV.one (Go.Ev.SL.d (Go.Ev.DL.int Go.IntKind.i64 b.2.1))], [Go.Ev.Obj.box (23 : Nat) [Go.Ev.SL.d (Go.Ev.DL.int Go.IntKind.i64 b.2.2.1), Go.Ev.SL.d (Go.Ev.DL.int Go.IntKind.i64 b.2.2.2.1), Go.Ev.SL.d (Go.Ev.DL.str b.2.2.2.2)]]))
theorem retKL52_9_eq {R : Type} (K : Ex → CSt → Option R) (b : oL52_9) : retKL52_9 K b = K (retL52_9 b).1 (retL52_9 b).2 := rfl
def entL52_9 (l : iL52_9 → Option oL52_9) : LEnt := mkLEnt 9 decL52_9 retL52_9 retKL52_9 retKL52_9_eq l
abbrev SdL52_9 (l : iL52_9 → Option oL52_9) : Prop := ∀ nt a b, l a = some b → LoopAt Tryd.prog nt 0 ann52 Tryd.f52 9 (encL52_9 a) (retL52_9 b)
noncomputable def u52_9 {R : Type} (sh : Sh) (l52_9 : iL52_9 → Option oL52_9) (x1 : ByteArray) (x2 : Int) (x3 : Int) (x4 : Int) (x5 : Int) (x6 : Int) (x7 : ByteArray) (x8 : Rows) (k : oL52_9 → Option R) : Option R :=
  bif Decidable.decide (x4 < x3) then
    bif Decidable.decide ((0 : Int) ≤ x4 ∧ x4 < (↑(List.length x8) : Int)) then
      bif Decidable.decide (Int.toNat x4 < List.length x8) then
        sh (Go.Ev.DL.getI (Go.Ev.cellAt x8 (Int.toNat x4) (0 : Nat))) fun y7 =>
        sh (Go.IntKind.wrap Go.IntKind.i64 (↑(BitVec.toNat (BitVec.ofInt (64 : Nat) (Go.IntKind.wrap Go.IntKind.i64 (x2 * (256 : Int))) ||| BitVec.ofInt (64 : Nat) (Go.IntKind.wrap Go.IntKind.i64 y7))) : Int)) fun y8 =>
        (l52_9 (x1, y8, x3, Go.IntKind.wrap Go.IntKind.i64 (x4 + (1 : Int)), x5, x6, x7, x8)).bind k
      else none
    else none
  else
    k ((x1, x2, x5, x6, x7))
theorem u52_9_eq {R : Type} (sh : Sh) (hsh : ∀ {α R : Type} (x : α) (K : α → Option R), sh x K = K x) (l52_9 : iL52_9 → Option oL52_9) (x1 : ByteArray) (x2 : Int) (x3 : Int) (x4 : Int) (x5 : Int) (x6 : Int) (x7 : ByteArray) (x8 : Rows) (K : Ex → CSt → Option R) : roundK Tryd.prog (tabO sh hsh br52 ar52 []) (tabL [entL52_9 l52_9]) ann52 0 Tryd.f52 9 (encL52_9 (x1, x2, x3, x4, x5, x6, x7, x8)) K = u52_9 sh l52_9 x1 x2 x3 x4 x5 x6 x7 x8 (retKL52_9 K) := by kernel_rfl
theorem u52_9_law {R : Type} (l52_9 : iL52_9 → Option oL52_9) (x1 : ByteArray) (x2 : Int) (x3 : Int) (x4 : Int) (x5 : Int) (x6 : Int) (x7 : ByteArray) (x8 : Rows) (K : oL52_9 → Option R) : u52_9 sh0 l52_9 x1 x2 x3 x4 x5 x6 x7 x8 K = (u52_9 sh0 l52_9 x1 x2 x3 x4 x5 x6 x7 x8 some).bind K := by
  have key : ∀ (sh : Sh) (_ : ∀ {α R S : Type} (x : α) (f : α → Option R) (K : R → Option S), (sh x f).bind K = sh x fun y => (f y).bind K), u52_9 sh l52_9 x1 x2 x3 x4 x5 x6 x7 x8 K = (u52_9 sh l52_9 x1 x2 x3 x4 x5 x6 x7 x8 some).bind K := by
    intro sh hb
    simp only [u52_9, hb, cond_bind', two_bind, none_bind', Option.bind_assoc, Option.bind_some]
  exact key sh0 (fun _ _ _ => rfl)
theorem okL52_9 (l52_9 : iL52_9 → Option oL52_9) (hl52_9 : SdL52_9 l52_9) : SdL52_9 (fun a => u52_9 sh0 l52_9 a.1 a.2.1 a.2.2.1 a.2.2.2.1 a.2.2.2.2.1 a.2.2.2.2.2.1 a.2.2.2.2.2.2.1 a.2.2.2.2.2.2.2 some) := by
  intro nt a b h
  refine round_ok (sh := sh0) (hsh := fun _ _ => rfl) (br := br52) (ar := ar52) Tryd.mixed (by kernel_rfl) .nil (.cons (mkLEnt_ok (hl52_9 nt)) .nil) ((u52_9_eq sh0 (fun _ _ => rfl) l52_9  a.1 a.2.1 a.2.2.1 a.2.2.2.1 a.2.2.2.2.1 a.2.2.2.2.2.1 a.2.2.2.2.2.2.1 a.2.2.2.2.2.2.2 _).trans ?_)
  rw [u52_9_law]
  simp only at h
  rw [h, Option.bind_some, retKL52_9_eq]
noncomputable def t52 {R : Type} (sh : Sh) (f65 : i65 → Option o65) (l52_9 : iL52_9 → Option oL52_9) (x1 : ByteArray) (k : o52 → Option R) : Option R :=
  bif Decidable.decide ((0 : Int) ≤ (0 : Int) ∧ (0 : Int) < (↑(ByteArray.size x1) : Int)) then
    sh ((↑(UInt8.toNat (List.getD (Array.toList (ByteArray.data x1)) (0 : Nat) (0 : UInt8))) : Int)) fun y1 =>
    bif y1 == (1 : Int) then
      bif Decidable.decide ((0 : Int) ≤ (1 : Int) ∧ (1 : Int) ≤ (↑(ByteArray.size x1) : Int)) then
        sh (ByteArray.extract x1 (1 : Nat) (ByteArray.size x1)) fun y2 =>
        k (((0 : Int), (0 : Int), { data := #[] }, y2, Bool.true))
      else none
    else
      bif y1 == (2 : Int) then
        sh ((↑(ByteArray.size x1) : Int)) fun y3 =>
        bif Decidable.decide (y3 < (6 : Int)) then
          k (((0 : Int), (0 : Int), { data := #[] }, { data := #[] }, Bool.false))
        else
          bif Decidable.decide ((0 : Int) ≤ (1 : Int) ∧ (1 : Int) ≤ (6 : Int) ∧ (6 : Int) ≤ (↑(ByteArray.size x1) : Int)) then
            sh (ByteArray.extract x1 (1 : Nat) (6 : Nat)) fun y4 =>
            bif Go.Ev.roomE Go.Proofs.Tryd.prog (5 : Nat) (ByteArray.size y4) then
              sh (Go.Ev.bytesOfStr y4 : Rows) fun y5 =>
              sh ((↑(List.length y5) : Int)) fun y6 =>
              (l52_9 (x1, (0 : Int), y6, (0 : Int), (0 : Int), (0 : Int), { data := #[] }, y5)).bind fun (r9 : ByteArray × Int × Int × Int × ByteArray) =>
              bif Decidable.decide ((0 : Int) ≤ (6 : Int) ∧ (6 : Int) ≤ (↑(ByteArray.size (Prod.fst r9)) : Int)) then
                sh (ByteArray.extract (Prod.fst r9) (6 : Nat) (ByteArray.size (Prod.fst r9))) fun y10 =>
                k (((1 : Int), Go.IntKind.wrap Go.IntKind.i64 (Prod.fst r9.2 - (4294967296 : Int)), { data := #[] }, y10, Bool.true))
              else none
            else none
          else none
      else
        bif y1 == (3 : Int) then
          bif Decidable.decide ((0 : Int) ≤ (1 : Int) ∧ (1 : Int) ≤ (↑(ByteArray.size x1) : Int)) then
            sh (ByteArray.extract x1 (1 : Nat) (ByteArray.size x1)) fun y11 =>
            (f65 (y11)).bind fun (r12 : ByteArray × ByteArray × Bool) =>
            k (((2 : Int), (0 : Int), Prod.fst r12, Prod.fst r12.2, Prod.snd r12.2))
          else none
        else
          k (((0 : Int), (0 : Int), { data := #[] }, { data := #[] }, Bool.false))
  else none
theorem t52_eq {R : Type} (sh : Sh) (hsh : ∀ {α R : Type} (x : α) (K : α → Option R), sh x K = K x) (f65 : i65 → Option o65) (l52_9 : iL52_9 → Option oL52_9) (x1 : ByteArray) (K : CSt → Option R) : bodyK Tryd.prog (tabO sh hsh br52 ar52 [ent65 f65]) (tabL [entL52_9 l52_9]) ann52 false Tryd.f52 (enc52 x1) K = t52 sh f65 l52_9 x1 (retK52 K) := by kernel_rfl
theorem t52_law {R : Type} (f65 : i65 → Option o65) (l52_9 : iL52_9 → Option oL52_9) (x1 : ByteArray) (K : o52 → Option R) : t52 sh0 f65 l52_9 x1 K = (t52 sh0 f65 l52_9 x1 some).bind K := by
  have key : ∀ (sh : Sh) (_ : ∀ {α R S : Type} (x : α) (f : α → Option R) (K : R → Option S), (sh x f).bind K = sh x fun y => (f y).bind K), t52 sh f65 l52_9 x1 K = (t52 sh f65 l52_9 x1 some).bind K := by
    intro sh hb
    simp only [t52, hb, cond_bind', two_bind, none_bind', Option.bind_assoc, Option.bind_some]
  exact key sh0 (fun _ _ _ => rfl)
theorem ok52 (f65 : i65 → Option o65) (l52_9 : iL52_9 → Option oL52_9) (hf65 : Sd65 f65) (hl52_9 : SdL52_9 l52_9) : Sd52 (fun a => t52 sh0 f65 l52_9 a some) := by
  intro a b h
  refine call_ok (sh := sh0) (hsh := fun _ _ => rfl) (br := br52) (ar := ar52) (own := false) Tryd.mixed Tryd.func52 (by kernel_rfl) (.cons (mkEnt_ok hf65) .nil) (fun nt => (.cons (mkLEnt_ok (hl52_9 nt)) .nil)) ((t52_eq sh0 (fun _ _ => rfl) f65 l52_9 a _).trans ?_)
  rw [t52_law]
  simp only at h
  rw [h, Option.bind_some, retK52_eq]

/-! 35 erasure/value.DecodeRow -/
abbrev i35 : Type := ByteArray
def enc35 : i35 → CSt := fun a => ([Go.Ev.SV.one (Go.Ev.SL.d (Go.Ev.DL.str a))], [])
def dec35 : (c : CSt) → Option { a : i35 // c = enc35 a }
  | ([Go.Ev.SV.one (Go.Ev.SL.d (Go.Ev.DL.str x1))], []) => some ⟨x1, rfl⟩
  | _ => none
abbrev o35 : Type := Rows × Int
def ret35 : o35 → CSt := fun b => ([Go.Ev.SV.one (Go.Ev.SL.d (Go.Ev.DL.lst (23 : Nat) b.1)), Go.Ev.SV.one (Go.Ev.SL.d (Go.Ev.DL.int Go.IntKind.i64 b.2))], [])
def retK35 {R : Type} (K : CSt → Option R) : o35 → Option R := fun b => K (([Go.Ev.SV.one (Go.Ev.SL.d (Go.Ev.DL.lst (23 : Nat) b.1)), Go.Ev.SV.one (Go.Ev.SL.d (Go.Ev.DL.int Go.IntKind.i64 b.2))], []))
theorem retK35_eq {R : Type} (K : CSt → Option R) (b : o35) : retK35 K b = K (ret35 b) := rfl
abbrev Sd35 (f : i35 → Option o35) : Prop := ∀ a b, f a = some b → CallOk Tryd.prog 35 (enc35 a) (ret35 b)
def ent35 (f : i35 → Option o35) : Ent := mkEnt 35 dec35 ret35 retK35 retK35_eq f
def ann35 : Nat → List Nat × List Nat := fun id => bif Nat.beq id 2 then ([0, 4], [2, 3, 4]) else ([], [])
def br35 : FuncId → Bool := fun (g : Nat) => ([71] : List Nat).any (Nat.beq g)
def ar35 : TypeId → Bool := fun (t : Nat) => ([88, 91, 97] : List Nat).any (Nat.beq t)
abbrev iL35_2 : Type := ByteArray × Rows
def encL35_2 : iL35_2 → CSt := fun a => ([Go.Ev.SV.one (Go.Ev.SL.d (Go.Ev.DL.str a.1)), Go.Ev.SV.one (Go.Ev.SL.vr (0 : Nat))], [Go.Ev.Obj.vec (23 : Nat) Bool.false a.2])
def decL35_2 : (c : CSt) → Option { a : iL35_2 // c = encL35_2 a }
  | ([Go.Ev.SV.one (Go.Ev.SL.d (Go.Ev.DL.str x1)), Go.Ev.SV.one (Go.Ev.SL.vr (0 : Nat))], [Go.Ev.Obj.vec (23 : Nat) Bool.false x2]) => some ⟨(x1, x2), rfl⟩
  | _ => none
abbrev oL35_2 : Type := (Int × Rows × Rows) ⊕ (Rows)
def retL35_2 : oL35_2 → Ex × CSt := two (fun b => (Go.Ev.Ex.ret, ([Go.Ev.SV.one (Go.Ev.SL.vr (0 : Nat)), Go.Ev.SV.one (Go.Ev.SL.d (Go.Ev.DL.int Go.IntKind.i64 b.1)), Go.Ev.SV.one (Go.Ev.SL.vr (1 : Nat))], [Go.Ev.Obj.vec (23 : Nat) Bool.false b.2.1, Go.Ev.Obj.vec (23 : Nat) Bool.false b.2.2]))) (fun b => (Go.Ev.Ex.exit (0 : Nat), ([Go.Ev.SV.one Go.Ev.SL.un, Go.Ev.SV.one Go.Ev.SL.un, Go.Ev.SV.one (Go.Ev.SL.vr (0 : Nat))], [Go.Ev.Obj.vec (23 : Nat) Bool.false b])))
def retKL35_2 {R : Type} (K : Ex → CSt → Option R) : oL35_2 → Option R := two (fun b => K (Go.Ev.Ex.ret) (([Go.Ev.SV.one (Go.Ev.SL.vr (0 : Nat)), Go.Ev.SV.one (Go.Ev.SL.d (Go.Ev.DL.int Go.IntKind.i64 b.1)), Go.Ev.SV.one (Go.Ev.SL.vr (1 : Nat))], [Go.Ev.Obj.vec (23 : Nat) Bool.false b.2.1, Go.Ev.Obj.vec (23 : Nat) Bool.false b.2.2]))) (fun b => K (Go.Ev.Ex.exit (0 : Nat)) (([Go.Ev.SV.one Go.Ev.SL.un, Go.Ev.SV.one Go.Ev.SL.un, Go.Ev.SV.one (Go.Ev.SL.vr (0 : Nat))], [Go.Ev.Obj.vec (23 : Nat) Bool.false b])))
theorem retKL35_2_eq {R : Type} (K : Ex → CSt → Option R) (b : oL35_2) : retKL35_2 K b = K (retL35_2 b).1 (retL35_2 b).2 := by
  unfold retKL35_2 retL35_2
  repeat' (first | rfl | cases b with | inl b => rfl | inr b => ?_)
def entL35_2 (l : iL35_2 → Option oL35_2) : LEnt := mkLEnt 2 decL35_2 retL35_2 retKL35_2 retKL35_2_eq l
abbrev SdL35_2 (l : iL35_2 → Option oL35_2) : Prop := ∀ nt a b, l a = some b → LoopAt Tryd.prog nt 0 ann35 Tryd.f35 2 (encL35_2 a) (retL35_2 b)
noncomputable def u35_2 {R : Type} (sh : Sh) (f52 : i52 → Option o52) (l35_2 : iL35_2 → Option oL35_2) (x1 : ByteArray) (x2 : Rows) (k : oL35_2 → Option R) : Option R :=
  bif !Go.Ev.strEq x1 { data := #[] } then
    (f52 (x1)).bind fun (r3 : Int × Int × ByteArray × ByteArray × Bool) =>
    bif !Prod.snd (Prod.snd (Prod.snd r3)).2 then
      sh ([] : Rows) fun y4 =>
      k ((.inl ((1 : Int), y4, x2)))
    else
      sh ([[Go.Ev.DL.int Go.IntKind.i64 (Prod.fst r3), Go.Ev.DL.int Go.IntKind.i64 (Prod.fst r3.2), Go.Ev.DL.str (Prod.fst (Prod.snd r3).2)]] : Rows) fun y5 =>
      bif Go.Ev.roomE Go.Proofs.Tryd.prog (23 : Nat) (List.length x2 + List.length y5) then
        sh (x2 ++ y5 : Rows) fun y6 =>
        (l35_2 (Prod.fst (Prod.snd (Prod.snd r3)).2, y6)).bind k
      else none
  else
    k ((.inr x2))
theorem u35_2_eq {R : Type} (sh : Sh) (hsh : ∀ {α R : Type} (x : α) (K : α → Option R), sh x K = K x) (f52 : i52 → Option o52) (l35_2 : iL35_2 → Option oL35_2) (x1 : ByteArray) (x2 : Rows) (K : Ex → CSt → Option R) : roundK Tryd.prog (tabO sh hsh br35 ar35 [ent52 f52]) (tabL [entL35_2 l35_2]) ann35 0 Tryd.f35 2 (encL35_2 (x1, x2)) K = u35_2 sh f52 l35_2 x1 x2 (retKL35_2 K) := by kernel_rfl
theorem u35_2_law {R : Type} (f52 : i52 → Option o52) (l35_2 : iL35_2 → Option oL35_2) (x1 : ByteArray) (x2 : Rows) (K : oL35_2 → Option R) : u35_2 sh0 f52 l35_2 x1 x2 K = (u35_2 sh0 f52 l35_2 x1 x2 some).bind K := by
  have key : ∀ (sh : Sh) (_ : ∀ {α R S : Type} (x : α) (f : α → Option R) (K : R → Option S), (sh x f).bind K = sh x fun y => (f y).bind K), u35_2 sh f52 l35_2 x1 x2 K = (u35_2 sh f52 l35_2 x1 x2 some).bind K := by
    intro sh hb
    simp only [u35_2, hb, cond_bind', two_bind, none_bind', Option.bind_assoc, Option.bind_some]
  exact key sh0 (fun _ _ _ => rfl)
theorem okL35_2 (f52 : i52 → Option o52) (l35_2 : iL35_2 → Option oL35_2) (hf52 : Sd52 f52) (hl35_2 : SdL35_2 l35_2) : SdL35_2 (fun a => u35_2 sh0 f52 l35_2 a.1 a.2 some) := by
  intro nt a b h
  refine round_ok (sh := sh0) (hsh := fun _ _ => rfl) (br := br35) (ar := ar35) Tryd.mixed (by kernel_rfl) (.cons (mkEnt_ok hf52) .nil) (.cons (mkLEnt_ok (hl35_2 nt)) .nil) ((u35_2_eq sh0 (fun _ _ => rfl) f52 l35_2  a.1 a.2 _).trans ?_)
  rw [u35_2_law]
  simp only at h
  rw [h, Option.bind_some, retKL35_2_eq]
noncomputable def t35 {R : Type} (sh : Sh) (f22 : i22 → Option o22) (l35_2 : iL35_2 → Option oL35_2) (x1 : ByteArray) (k : o35 → Option R) : Option R :=
  sh ([] : Rows) fun y1 =>
  sh ([] : Rows) fun y2 =>
  (l35_2 (x1, y2)).bind (two (fun (r7 : Int × Rows × Rows) =>
    k ((Prod.fst r7.2, Prod.fst r7))
  ) (fun (r8 : Rows) =>
    (f22 (r8)).bind fun (r9 : Bool) =>
    bif !r9 then
      sh ([] : Rows) fun y10 =>
      k ((y10, (1 : Int)))
    else
      k ((r8, (0 : Int)))
  ))
theorem t35_eq {R : Type} (sh : Sh) (hsh : ∀ {α R : Type} (x : α) (K : α → Option R), sh x K = K x) (f22 : i22 → Option o22) (l35_2 : iL35_2 → Option oL35_2) (x1 : ByteArray) (K : CSt → Option R) : bodyK Tryd.prog (tabO sh hsh br35 ar35 [ent22 f22]) (tabL [entL35_2 l35_2]) ann35 false Tryd.f35 (enc35 x1) K = t35 sh f22 l35_2 x1 (retK35 K) := by kernel_rfl
theorem t35_law {R : Type} (f22 : i22 → Option o22) (l35_2 : iL35_2 → Option oL35_2) (x1 : ByteArray) (K : o35 → Option R) : t35 sh0 f22 l35_2 x1 K = (t35 sh0 f22 l35_2 x1 some).bind K := by
  have key : ∀ (sh : Sh) (_ : ∀ {α R S : Type} (x : α) (f : α → Option R) (K : R → Option S), (sh x f).bind K = sh x fun y => (f y).bind K), t35 sh f22 l35_2 x1 K = (t35 sh f22 l35_2 x1 some).bind K := by
    intro sh hb
    simp only [t35, hb, cond_bind', two_bind, none_bind', Option.bind_assoc, Option.bind_some]
  exact key sh0 (fun _ _ _ => rfl)
theorem ok35 (f22 : i22 → Option o22) (l35_2 : iL35_2 → Option oL35_2) (hf22 : Sd22 f22) (hl35_2 : SdL35_2 l35_2) : Sd35 (fun a => t35 sh0 f22 l35_2 a some) := by
  intro a b h
  refine call_ok (sh := sh0) (hsh := fun _ _ => rfl) (br := br35) (ar := ar35) (own := false) Tryd.mixed Tryd.func35 (by kernel_rfl) (.cons (mkEnt_ok hf22) .nil) (fun nt => (.cons (mkLEnt_ok (hl35_2 nt)) .nil)) ((t35_eq sh0 (fun _ _ => rfl) f22 l35_2 a _).trans ?_)
  rw [t35_law]
  simp only at h
  rw [h, Option.bind_some, retK35_eq]

/-! 36 erasure/erasureref01.CleanRow -/
abbrev i36 : Type := Rows
def enc36 : i36 → CSt := fun a => ([Go.Ev.SV.one (Go.Ev.SL.d (Go.Ev.DL.lst (23 : Nat) a))], [])
def dec36 : (c : CSt) → Option { a : i36 // c = enc36 a }
  | ([Go.Ev.SV.one (Go.Ev.SL.d (Go.Ev.DL.lst (23 : Nat) x1))], []) => some ⟨x1, rfl⟩
  | _ => none
abbrev o36 : Type := Rows
def ret36 : o36 → CSt := fun b => ([Go.Ev.SV.one (Go.Ev.SL.d (Go.Ev.DL.lst (23 : Nat) b))], [])
def retK36 {R : Type} (K : CSt → Option R) : o36 → Option R := fun b => K (([Go.Ev.SV.one (Go.Ev.SL.d (Go.Ev.DL.lst (23 : Nat) b))], []))
theorem retK36_eq {R : Type} (K : CSt → Option R) (b : o36) : retK36 K b = K (ret36 b) := rfl
abbrev Sd36 (f : i36 → Option o36) : Prop := ∀ a b, f a = some b → CallOk Tryd.prog 36 (enc36 a) (ret36 b)
def ent36 (f : i36 → Option o36) : Ent := mkEnt 36 dec36 ret36 retK36 retK36_eq f
def ann36 : Nat → List Nat × List Nat := fun id => bif Nat.beq id 3 then ([0, 3, 4], [3]) else ([], [])
def br36 : FuncId → Bool := fun (g : Nat) => ([71] : List Nat).any (Nat.beq g)
def ar36 : TypeId → Bool := fun (t : Nat) => ([88, 91, 97] : List Nat).any (Nat.beq t)
abbrev iL36_3 : Type := Rows × Int × Rows
def encL36_3 : iL36_3 → CSt := fun a => ([Go.Ev.SV.one (Go.Ev.SL.d (Go.Ev.DL.lst (23 : Nat) a.1)), Go.Ev.SV.one (Go.Ev.SL.vr (0 : Nat)), Go.Ev.SV.one (Go.Ev.SL.d (Go.Ev.DL.int Go.IntKind.i64 a.2.1))], [Go.Ev.Obj.vec (23 : Nat) Bool.false a.2.2])
def decL36_3 : (c : CSt) → Option { a : iL36_3 // c = encL36_3 a }
  | ([Go.Ev.SV.one (Go.Ev.SL.d (Go.Ev.DL.lst (23 : Nat) x1)), Go.Ev.SV.one (Go.Ev.SL.vr (0 : Nat)), Go.Ev.SV.one (Go.Ev.SL.d (Go.Ev.DL.int Go.IntKind.i64 x2))], [Go.Ev.Obj.vec (23 : Nat) Bool.false x3]) => some ⟨(x1, x2, x3), rfl⟩
  | _ => none
abbrev oL36_3 : Type := Rows
def retL36_3 : oL36_3 → Ex × CSt := fun b => (Go.Ev.Ex.exit (0 : Nat), ([Go.Ev.SV.one (Go.Ev.SL.vr (0 : Nat))], [Go.Ev.Obj.vec (23 : Nat) Bool.false b]))
def retKL36_3 {R : Type} (K : Ex → CSt → Option R) : oL36_3 → Option R := fun b => K (Go.Ev.Ex.exit (0 : Nat)) (([Go.Ev.SV.one (Go.Ev.SL.vr (0 : Nat))], [Go.Ev.Obj.vec (23 : Nat) Bool.false b]))
theorem retKL36_3_eq {R : Type} (K : Ex → CSt → Option R) (b : oL36_3) : retKL36_3 K b = K (retL36_3 b).1 (retL36_3 b).2 := rfl
def entL36_3 (l : iL36_3 → Option oL36_3) : LEnt := mkLEnt 3 decL36_3 retL36_3 retKL36_3 retKL36_3_eq l
abbrev SdL36_3 (l : iL36_3 → Option oL36_3) : Prop := ∀ nt a b, l a = some b → LoopAt Tryd.prog nt 0 ann36 Tryd.f36 3 (encL36_3 a) (retL36_3 b)
noncomputable def u36_3 {R : Type} (sh : Sh) (f21 : i21 → Option o21) (l36_3 : iL36_3 → Option oL36_3) (x1 : Rows) (x2 : Int) (x3 : Rows) (k : oL36_3 → Option R) : Option R :=
  sh ((↑(List.length x1) : Int)) fun y3 =>
  bif Decidable.decide (x2 < y3) then
    bif Decidable.decide ((0 : Int) ≤ x2 ∧ x2 < (↑(List.length x1) : Int)) then
      (f21 (Go.Ev.DL.getI (Go.Ev.cellAt x1 (Int.toNat x2) (0 : Nat)), Go.Ev.DL.getI (Go.Ev.cellAt x1 (Int.toNat x2) (1 : Nat)), Go.Ev.DL.getS (Go.Ev.cellAt x1 (Int.toNat x2) (2 : Nat)))).bind fun (r4 : Int × Int × ByteArray) =>
      sh ([[Go.Ev.DL.int Go.IntKind.i64 (Prod.fst r4), Go.Ev.DL.int Go.IntKind.i64 (Prod.fst r4.2), Go.Ev.DL.str (Prod.snd r4.2)]] : Rows) fun y5 =>
      bif Go.Ev.roomE Go.Proofs.Tryd.prog (23 : Nat) (List.length x3 + List.length y5) then
        sh (x3 ++ y5 : Rows) fun y6 =>
        (l36_3 (x1, Go.IntKind.wrap Go.IntKind.i64 (x2 + (1 : Int)), y6)).bind k
      else none
    else none
  else
    k (x3)
theorem u36_3_eq {R : Type} (sh : Sh) (hsh : ∀ {α R : Type} (x : α) (K : α → Option R), sh x K = K x) (f21 : i21 → Option o21) (l36_3 : iL36_3 → Option oL36_3) (x1 : Rows) (x2 : Int) (x3 : Rows) (K : Ex → CSt → Option R) : roundK Tryd.prog (tabO sh hsh br36 ar36 [ent21 f21]) (tabL [entL36_3 l36_3]) ann36 0 Tryd.f36 3 (encL36_3 (x1, x2, x3)) K = u36_3 sh f21 l36_3 x1 x2 x3 (retKL36_3 K) := by kernel_rfl
theorem u36_3_law {R : Type} (f21 : i21 → Option o21) (l36_3 : iL36_3 → Option oL36_3) (x1 : Rows) (x2 : Int) (x3 : Rows) (K : oL36_3 → Option R) : u36_3 sh0 f21 l36_3 x1 x2 x3 K = (u36_3 sh0 f21 l36_3 x1 x2 x3 some).bind K := by
  have key : ∀ (sh : Sh) (_ : ∀ {α R S : Type} (x : α) (f : α → Option R) (K : R → Option S), (sh x f).bind K = sh x fun y => (f y).bind K), u36_3 sh f21 l36_3 x1 x2 x3 K = (u36_3 sh f21 l36_3 x1 x2 x3 some).bind K := by
    intro sh hb
    simp only [u36_3, hb, cond_bind', two_bind, none_bind', Option.bind_assoc, Option.bind_some]
  exact key sh0 (fun _ _ _ => rfl)
theorem okL36_3 (f21 : i21 → Option o21) (l36_3 : iL36_3 → Option oL36_3) (hf21 : Sd21 f21) (hl36_3 : SdL36_3 l36_3) : SdL36_3 (fun a => u36_3 sh0 f21 l36_3 a.1 a.2.1 a.2.2 some) := by
  intro nt a b h
  refine round_ok (sh := sh0) (hsh := fun _ _ => rfl) (br := br36) (ar := ar36) Tryd.mixed (by kernel_rfl) (.cons (mkEnt_ok hf21) .nil) (.cons (mkLEnt_ok (hl36_3 nt)) .nil) ((u36_3_eq sh0 (fun _ _ => rfl) f21 l36_3  a.1 a.2.1 a.2.2 _).trans ?_)
  rw [u36_3_law]
  simp only at h
  rw [h, Option.bind_some, retKL36_3_eq]
noncomputable def t36 {R : Type} (sh : Sh) (l36_3 : iL36_3 → Option oL36_3) (x1 : Rows) (k : o36 → Option R) : Option R :=
  sh ([] : Rows) fun y1 =>
  sh ([] : Rows) fun y2 =>
  (l36_3 (x1, (0 : Int), y2)).bind fun (r7 : Rows) =>
  k (r7)
theorem t36_eq {R : Type} (sh : Sh) (hsh : ∀ {α R : Type} (x : α) (K : α → Option R), sh x K = K x) (l36_3 : iL36_3 → Option oL36_3) (x1 : Rows) (K : CSt → Option R) : bodyK Tryd.prog (tabO sh hsh br36 ar36 []) (tabL [entL36_3 l36_3]) ann36 false Tryd.f36 (enc36 x1) K = t36 sh l36_3 x1 (retK36 K) := by kernel_rfl
theorem t36_law {R : Type} (l36_3 : iL36_3 → Option oL36_3) (x1 : Rows) (K : o36 → Option R) : t36 sh0 l36_3 x1 K = (t36 sh0 l36_3 x1 some).bind K := by
  have key : ∀ (sh : Sh) (_ : ∀ {α R S : Type} (x : α) (f : α → Option R) (K : R → Option S), (sh x f).bind K = sh x fun y => (f y).bind K), t36 sh l36_3 x1 K = (t36 sh l36_3 x1 some).bind K := by
    intro sh hb
    simp only [t36, hb, cond_bind', two_bind, none_bind', Option.bind_assoc, Option.bind_some]
  exact key sh0 (fun _ _ _ => rfl)
theorem ok36 (l36_3 : iL36_3 → Option oL36_3) (hl36_3 : SdL36_3 l36_3) : Sd36 (fun a => t36 sh0 l36_3 a some) := by
  intro a b h
  refine call_ok (sh := sh0) (hsh := fun _ _ => rfl) (br := br36) (ar := ar36) (own := false) Tryd.mixed Tryd.func36 (by kernel_rfl) .nil (fun nt => (.cons (mkLEnt_ok (hl36_3 nt)) .nil)) ((t36_eq sh0 (fun _ _ => rfl) l36_3 a _).trans ?_)
  rw [t36_law]
  simp only at h
  rw [h, Option.bind_some, retK36_eq]

/-! 53 erasure/erasureref01.decode -/
abbrev i53 : Type := ByteArray
def enc53 : i53 → CSt := fun a => ([Go.Ev.SV.one (Go.Ev.SL.d (Go.Ev.DL.str a))], [])
def dec53 : (c : CSt) → Option { a : i53 // c = enc53 a }
  | ([Go.Ev.SV.one (Go.Ev.SL.d (Go.Ev.DL.str x1))], []) => some ⟨x1, rfl⟩
  | _ => none
abbrev o53 : Type := Int × Int × ByteArray × Int
def ret53 : o53 → CSt := fun b => ([Go.Ev.SV.agg [Go.Ev.SL.d (Go.Ev.DL.int Go.IntKind.i64 b.1), Go.Ev.SL.d (Go.Ev.DL.int Go.IntKind.i64 b.2.1), Go.Ev.SL.d (Go.Ev.DL.str b.2.2.1)], Go.Ev.SV.one (Go.Ev.SL.d (Go.Ev.DL.int Go.IntKind.i64 b.2.2.2))], [])
def retK53 {R : Type} (K : CSt → Option R) : o53 → Option R := fun b => K (([Go.Ev.SV.agg [Go.Ev.SL.d (Go.Ev.DL.int Go.IntKind.i64 b.1), Go.Ev.SL.d (Go.Ev.DL.int Go.IntKind.i64 b.2.1), Go.Ev.SL.d (Go.Ev.DL.str b.2.2.1)], Go.Ev.SV.one (Go.Ev.SL.d (Go.Ev.DL.int Go.IntKind.i64 b.2.2.2))], []))
theorem retK53_eq {R : Type} (K : CSt → Option R) (b : o53) : retK53 K b = K (ret53 b) := rfl
abbrev Sd53 (f : i53 → Option o53) : Prop := ∀ a b, f a = some b → CallOk Tryd.prog 53 (enc53 a) (ret53 b)
def ent53 (f : i53 → Option o53) : Ent := mkEnt 53 dec53 ret53 retK53 retK53_eq f
def ann53 : Nat → List Nat × List Nat := fun id => bif Nat.beq id 6 then ([0, 2, 4, 5], [2, 4]) else bif Nat.beq id 13 then ([0, 2, 6, 7], [2, 3]) else ([], [])
def br53 : FuncId → Bool := fun (g : Nat) => ([71] : List Nat).any (Nat.beq g)
def ar53 : TypeId → Bool := fun (t : Nat) => ([88, 91, 97] : List Nat).any (Nat.beq t)
abbrev iL53_6 : Type := ByteArray × Int × Int × Int × Int × ByteArray
def encL53_6 : iL53_6 → CSt := fun a => ([Go.Ev.SV.one (Go.Ev.SL.d (Go.Ev.DL.str a.1)), Go.Ev.SV.one (Go.Ev.SL.ptr (0 : Nat) (0 : Nat)), Go.Ev.SV.one (Go.Ev.SL.d (Go.Ev.DL.int Go.IntKind.i64 a.2.1)), Go.Ev.SV.one (Go.Ev.SL.d (Go.Ev.DL.int Go.IntKind.i64 a.2.2.1))], [Go.Ev.Obj.box (23 : Nat) [Go.Ev.SL.d (Go.Ev.DL.int Go.IntKind.i64 a.2.2.2.1), Go.Ev.SL.d (Go.Ev.DL.int Go.IntKind.i64 a.2.2.2.2.1), Go.Ev.SL.d (Go.Ev.DL.str a.2.2.2.2.2)]])
def decL53_6 : (c : CSt) → Option { a : iL53_6 // c = encL53_6 a }
  | ([Go.Ev.SV.one (Go.Ev.SL.d (Go.Ev.DL.str x1)), Go.Ev.SV.one (Go.Ev.SL.ptr (0 : Nat) (0 : Nat)), Go.Ev.SV.one (Go.Ev.SL.d (Go.Ev.DL.int Go.IntKind.i64 x2)), Go.Ev.SV.one (Go.Ev.SL.d (Go.Ev.DL.int Go.IntKind.i64 x3))], [Go.Ev.Obj.box (23 : Nat) [Go.Ev.SL.d (Go.Ev.DL.int Go.IntKind.i64 x4), Go.Ev.SL.d (Go.Ev.DL.int Go.IntKind.i64 x5), Go.Ev.SL.d (Go.Ev.DL.str x6)]]) => some ⟨(x1, x2, x3, x4, x5, x6), rfl⟩
  | _ => none
abbrev oL53_6 : Type := Int × Int × Int × ByteArray
def retL53_6 : oL53_6 → Ex × CSt := fun b => (Go.Ev.Ex.exit (1 : Nat), ([Go.Ev.SV.one (Go.Ev.SL.ptr (0 : Nat) (0 : Nat)), Go.Ev.SV.one (Go.Ev.SL.d (Go.Ev.DL.int Go.IntKind.i64 b.1))], [Go.Ev.Obj.box (23 : Nat) [Go.Ev.SL.d (Go.Ev.DL.int Go.IntKind.i64 b.2.1), Go.Ev.SL.d (Go.Ev.DL.int Go.IntKind.i64 b.2.2.1), Go.Ev.SL.d (Go.Ev.DL.str b.2.2.2)]]))
def retKL53_6 {R : Type} (K : Ex → CSt → Option R) : oL53_6 → Option R := fun b => K (Go.Ev.Ex.exit (1 : Nat)) (([Go.Ev.SV.one (Go.Ev.SL.ptr (0 : Nat) (0 : Nat)), Go.Ev.SV.one (Go.Ev.SL.d (Go.Ev.DL.int Go.IntKind.i64 b.1))], [Go.Ev.Obj.box (23 : Nat) [Go.Ev.SL.d (Go.Ev.DL.int Go.IntKind.i64 b.2.1), Go.Ev.SL.d (Go.Ev.DL.int Go.IntKind.i64 b.2.2.1), Go.Ev.SL.d (Go.Ev.DL.str b.2.2.2)]]))
theorem retKL53_6_eq {R : Type} (K : Ex → CSt → Option R) (b : oL53_6) : retKL53_6 K b = K (retL53_6 b).1 (retL53_6 b).2 := rfl
def entL53_6 (l : iL53_6 → Option oL53_6) : LEnt := mkLEnt 6 decL53_6 retL53_6 retKL53_6 retKL53_6_eq l
abbrev SdL53_6 (l : iL53_6 → Option oL53_6) : Prop := ∀ nt a b, l a = some b → LoopAt Tryd.prog nt 0 ann53 Tryd.f53 6 (encL53_6 a) (retL53_6 b)
abbrev iL53_13 : Type := ByteArray × Int × Int × Int × ByteArray × Rows
def encL53_13 : iL53_13 → CSt := fun a => ([Go.Ev.SV.one (Go.Ev.SL.d (Go.Ev.DL.str a.1)), Go.Ev.SV.one (Go.Ev.SL.ptr (0 : Nat) (0 : Nat)), Go.Ev.SV.one (Go.Ev.SL.vr (1 : Nat)), Go.Ev.SV.one (Go.Ev.SL.d (Go.Ev.DL.int Go.IntKind.i64 a.2.1))], [Go.Ev.Obj.box (23 : Nat) [Go.Ev.SL.d (Go.Ev.DL.int Go.IntKind.i64 a.2.2.1), Go.Ev.SL.d (Go.Ev.DL.int Go.IntKind.i64 a.2.2.2.1), Go.Ev.SL.d (Go.Ev.DL.str a.2.2.2.2.1)], Go.Ev.Obj.vec (5 : Nat) Bool.false a.2.2.2.2.2])
def decL53_13 : (c : CSt) → Option { a : iL53_13 // c = encL53_13 a }
  | ([Go.Ev.SV.one (Go.Ev.SL.d (Go.Ev.DL.str x1)), Go.Ev.SV.one (Go.Ev.SL.ptr (0 : Nat) (0 : Nat)), Go.Ev.SV.one (Go.Ev.SL.vr (1 : Nat)), Go.Ev.SV.one (Go.Ev.SL.d (Go.Ev.DL.int Go.IntKind.i64 x2))], [Go.Ev.Obj.box (23 : Nat) [Go.Ev.SL.d (Go.Ev.DL.int Go.IntKind.i64 x3), Go.Ev.SL.d (Go.Ev.DL.int Go.IntKind.i64 x4), Go.Ev.SL.d (Go.Ev.DL.str x5)], Go.Ev.Obj.vec (5 : Nat) Bool.false x6]) => some ⟨(x1, x2, x3, x4, x5, x6), rfl⟩
  | _ => none
abbrev oL53_13 : Type := (Int × Int × Int × ByteArray) ⊕ (Int × Int × ByteArray)
def retL53_13 : oL53_13 → Ex × CSt := two (fun b => (Go.Ev.Ex.ret, ([Go.Ev.SV.one (Go.Ev.SL.ptr (0 : Nat) (0 : Nat)), Go.Ev.SV.one (Go.Ev.SL.d (Go.Ev.DL.int Go.IntKind.i64 b.1))], [Go.Ev.Obj.box (23 : Nat) [Go.Ev.SL.d (Go.Ev.DL.int Go.IntKind.i64 b.2.1), Go.Ev.SL.d (Go.Ev.DL.int Go.IntKind.i64 b.2.2.1), Go.Ev.SL.d (Go.Ev.DL.str b.2.2.2)]]))) (fun b => (Go.Ev.Ex.exit (3 : Nat), ([Go.Ev.SV.one (Go.Ev.SL.ptr (0 : Nat) (0 : Nat)), Go.Ev.SV.one Go.Ev.SL.un], [Go.Ev.Obj.box (23 : Nat) [Go.Ev.SL.d (Go.Ev.DL.int Go.IntKind.i64 b.1), Go.Ev.SL.d (Go.Ev.DL.int Go.IntKind.i64 b.2.1), Go.Ev.SL.d (Go.Ev.DL.str b.2.2)]])))
def retKL53_13 {R : Type} (K : Ex → CSt → Option R) : oL53_13 → Option R := two (fun b => K (Go.Ev.Ex.ret) (([Go.Ev.SV.one (Go.Ev.SL.ptr (0 : Nat) (0 : Nat)), Go.Ev.SV.one (Go.Ev.SL.d (Go.Ev.DL.int Go.IntKind.i64 b.1))], [Go.Ev.Obj.box (23 : Nat) [Go.Ev.SL.d (Go.Ev.DL.int Go.IntKind.i64 b.2.1), Go.Ev.SL.d (Go.Ev.DL.int Go.IntKind.i64 b.2.2.1), Go.Ev.SL.d (Go.Ev.DL.str b.2.2.2)]]))) (fun b => K (Go.Ev.Ex.exit (3 : Nat)) (([Go.Ev.SV.one (Go.Ev.SL.ptr (0 : Nat) (0 : Nat)), Go.Ev.SV.one Go.Ev.SL.un], [Go.Ev.Obj.box (23 : Nat) [Go.Ev.SL.d (Go.Ev.DL.int Go.IntKind.i64 b.1), Go.Ev.SL.d (Go.Ev.DL.int Go.IntKind.i64 b.2.1), Go.Ev.SL.d (Go.Ev.DL.str b.2.2)]])))
theorem retKL53_13_eq {R : Type} (K : Ex → CSt → Option R) (b : oL53_13) : retKL53_13 K b = K (retL53_13 b).1 (retL53_13 b).2 := by
  unfold retKL53_13 retL53_13
  repeat' (first | rfl | cases b with | inl b => rfl | inr b => ?_)
def entL53_13 (l : iL53_13 → Option oL53_13) : LEnt := mkLEnt 13 decL53_13 retL53_13 retKL53_13 retKL53_13_eq l
abbrev SdL53_13 (l : iL53_13 → Option oL53_13) : Prop := ∀ nt a b, l a = some b → LoopAt Tryd.prog nt 0 ann53 Tryd.f53 13 (encL53_13 a) (retL53_13 b)
noncomputable def u53_6 {R : Type} (sh : Sh) (l53_6 : iL53_6 → Option oL53_6) (x1 : ByteArray) (x2 : Int) (x3 : Int) (x4 : Int) (x5 : Int) (x6 : ByteArray) (k : oL53_6 → Option R) : Option R :=
  bif Decidable.decide (x3 < (6 : Int)) then
    bif Decidable.decide ((0 : Int) ≤ x3 ∧ x3 < (↑(ByteArray.size x1) : Int)) then
      sh ((↑(UInt8.toNat (List.getD (Array.toList (ByteArray.data x1)) (Int.toNat x3) (0 : UInt8))) : Int)) fun y4 =>
      sh (Go.IntKind.wrap Go.IntKind.i64 (Go.IntKind.wrap Go.IntKind.i64 (x2 * (256 : Int)) + Go.IntKind.wrap Go.IntKind.i64 y4)) fun y5 =>
      (l53_6 (x1, y5, Go.IntKind.wrap Go.IntKind.i64 (x3 + (1 : Int)), x4, x5, x6)).bind k
    else none
  else
    k ((x2, x4, x5, x6))
theorem u53_6_eq {R : Type} (sh : Sh) (hsh : ∀ {α R : Type} (x : α) (K : α → Option R), sh x K = K x) (l53_6 : iL53_6 → Option oL53_6) (x1 : ByteArray) (x2 : Int) (x3 : Int) (x4 : Int) (x5 : Int) (x6 : ByteArray) (K : Ex → CSt → Option R) : roundK Tryd.prog (tabO sh hsh br53 ar53 []) (tabL [entL53_6 l53_6]) ann53 0 Tryd.f53 6 (encL53_6 (x1, x2, x3, x4, x5, x6)) K = u53_6 sh l53_6 x1 x2 x3 x4 x5 x6 (retKL53_6 K) := by kernel_rfl
theorem u53_6_law {R : Type} (l53_6 : iL53_6 → Option oL53_6) (x1 : ByteArray) (x2 : Int) (x3 : Int) (x4 : Int) (x5 : Int) (x6 : ByteArray) (K : oL53_6 → Option R) : u53_6 sh0 l53_6 x1 x2 x3 x4 x5 x6 K = (u53_6 sh0 l53_6 x1 x2 x3 x4 x5 x6 some).bind K := by
  have key : ∀ (sh : Sh) (_ : ∀ {α R S : Type} (x : α) (f : α → Option R) (K : R → Option S), (sh x f).bind K = sh x fun y => (f y).bind K), u53_6 sh l53_6 x1 x2 x3 x4 x5 x6 K = (u53_6 sh l53_6 x1 x2 x3 x4 x5 x6 some).bind K := by
    intro sh hb
    simp only [u53_6, hb, cond_bind', two_bind, none_bind', Option.bind_assoc, Option.bind_some]
  exact key sh0 (fun _ _ _ => rfl)
theorem okL53_6 (l53_6 : iL53_6 → Option oL53_6) (hl53_6 : SdL53_6 l53_6) : SdL53_6 (fun a => u53_6 sh0 l53_6 a.1 a.2.1 a.2.2.1 a.2.2.2.1 a.2.2.2.2.1 a.2.2.2.2.2 some) := by
  intro nt a b h
  refine round_ok (sh := sh0) (hsh := fun _ _ => rfl) (br := br53) (ar := ar53) Tryd.mixed (by kernel_rfl) .nil (.cons (mkLEnt_ok (hl53_6 nt)) .nil) ((u53_6_eq sh0 (fun _ _ => rfl) l53_6  a.1 a.2.1 a.2.2.1 a.2.2.2.1 a.2.2.2.2.1 a.2.2.2.2.2 _).trans ?_)
  rw [u53_6_law]
  simp only at h
  rw [h, Option.bind_some, retKL53_6_eq]
noncomputable def u53_13 {R : Type} (sh : Sh) (l53_13 : iL53_13 → Option oL53_13) (x1 : ByteArray) (x2 : Int) (x3 : Int) (x4 : Int) (x5 : ByteArray) (x6 : Rows) (k : oL53_13 → Option R) : Option R :=
  sh ((↑(ByteArray.size x1) : Int)) fun y9 =>
  bif Decidable.decide (x2 < y9) then
    bif Decidable.decide ((0 : Int) ≤ x2 ∧ x2 < (↑(ByteArray.size x1) : Int)) then
      sh ((↑(UInt8.toNat (List.getD (Array.toList (ByteArray.data x1)) (Int.toNat x2) (0 : UInt8))) : Int)) fun y10 =>
      bif y10 != (0 : Int) then
        bif Decidable.decide ((0 : Int) ≤ x2 ∧ x2 < (↑(ByteArray.size x1) : Int)) then
          sh ((↑(UInt8.toNat (List.getD (Array.toList (ByteArray.data x1)) (Int.toNat x2) (0 : UInt8))) : Int)) fun y11 =>
          sh ([[Go.Ev.DL.int Go.IntKind.u8 y11]] : Rows) fun y12 =>
          bif Go.Ev.roomE Go.Proofs.Tryd.prog (5 : Nat) (List.length x6 + List.length y12) then
            sh (x6 ++ y12 : Rows) fun y13 =>
            (l53_13 (x1, Go.IntKind.wrap Go.IntKind.i64 (x2 + (1 : Int)), x3, x4, x5, y13)).bind k
          else none
        else none
      else
        sh ((↑(ByteArray.size x1) : Int)) fun y14 =>
        bif Decidable.decide (Go.IntKind.wrap Go.IntKind.i64 (x2 + (1 : Int)) ≥ y14) then
          k ((.inl ((0 : Int), (0 : Int), (0 : Int), { data := #[] })))
        else
          bif Decidable.decide ((0 : Int) ≤ Go.IntKind.wrap Go.IntKind.i64 (x2 + (1 : Int)) ∧ Go.IntKind.wrap Go.IntKind.i64 (x2 + (1 : Int)) < (↑(ByteArray.size x1) : Int)) then
            sh ((↑(UInt8.toNat (List.getD (Array.toList (ByteArray.data x1)) (Int.toNat (Go.IntKind.wrap Go.IntKind.i64 (x2 + (1 : Int)))) (0 : UInt8))) : Int)) fun y15 =>
            bif y15 != (0 : Int) then
              bif Decidable.decide ((0 : Int) ≤ Go.IntKind.wrap Go.IntKind.i64 (x2 + (1 : Int)) ∧ Go.IntKind.wrap Go.IntKind.i64 (x2 + (1 : Int)) < (↑(ByteArray.size x1) : Int)) then
                sh ((↑(UInt8.toNat (List.getD (Array.toList (ByteArray.data x1)) (Int.toNat (Go.IntKind.wrap Go.IntKind.i64 (x2 + (1 : Int)))) (0 : UInt8))) : Int)) fun y16 =>
                bif y16 != (255 : Int) then
                  k ((.inl ((0 : Int), (0 : Int), (0 : Int), { data := #[] })))
                else
                  bif Decidable.decide ((0 : Int) ≤ Go.IntKind.wrap Go.IntKind.i64 (x2 + (1 : Int)) ∧ Go.IntKind.wrap Go.IntKind.i64 (x2 + (1 : Int)) < (↑(ByteArray.size x1) : Int)) then
                    sh ((↑(UInt8.toNat (List.getD (Array.toList (ByteArray.data x1)) (Int.toNat (Go.IntKind.wrap Go.IntKind.i64 (x2 + (1 : Int)))) (0 : UInt8))) : Int)) fun y17 =>
                    bif y17 == (0 : Int) then
                      sh (Go.Ev.strOfBytes x6) fun y18 =>
                      k ((.inl (Go.IntKind.wrap Go.IntKind.i64 (x2 + (2 : Int)), (2 : Int), (0 : Int), y18)))
                    else
                      sh ([[Go.Ev.DL.int Go.IntKind.u8 (0 : Int)]] : Rows) fun y19 =>
                      bif Go.Ev.roomE Go.Proofs.Tryd.prog (5 : Nat) (List.length x6 + List.length y19) then
                        sh (x6 ++ y19 : Rows) fun y20 =>
                        (l53_13 (x1, Go.IntKind.wrap Go.IntKind.i64 (Go.IntKind.wrap Go.IntKind.i64 (x2 + (1 : Int)) + (1 : Int)), x3, x4, x5, y20)).bind k
                      else none
                  else none
              else none
            else
              bif Decidable.decide ((0 : Int) ≤ Go.IntKind.wrap Go.IntKind.i64 (x2 + (1 : Int)) ∧ Go.IntKind.wrap Go.IntKind.i64 (x2 + (1 : Int)) < (↑(ByteArray.size x1) : Int)) then
                sh ((↑(UInt8.toNat (List.getD (Array.toList (ByteArray.data x1)) (Int.toNat (Go.IntKind.wrap Go.IntKind.i64 (x2 + (1 : Int)))) (0 : UInt8))) : Int)) fun y21 =>
                bif y21 == (0 : Int) then
                  sh (Go.Ev.strOfBytes x6) fun y22 =>
                  k ((.inl (Go.IntKind.wrap Go.IntKind.i64 (x2 + (2 : Int)), (2 : Int), (0 : Int), y22)))
                else
                  sh ([[Go.Ev.DL.int Go.IntKind.u8 (0 : Int)]] : Rows) fun y23 =>
                  bif Go.Ev.roomE Go.Proofs.Tryd.prog (5 : Nat) (List.length x6 + List.length y23) then
                    sh (x6 ++ y23 : Rows) fun y24 =>
                    (l53_13 (x1, Go.IntKind.wrap Go.IntKind.i64 (Go.IntKind.wrap Go.IntKind.i64 (x2 + (1 : Int)) + (1 : Int)), x3, x4, x5, y24)).bind k
                  else none
              else none
          else none
    else none
  else
    k ((.inr (x3, x4, x5)))
theorem u53_13_eq {R : Type} (sh : Sh) (hsh : ∀ {α R : Type} (x : α) (K : α → Option R), sh x K = K x) (l53_13 : iL53_13 → Option oL53_13) (x1 : ByteArray) (x2 : Int) (x3 : Int) (x4 : Int) (x5 : ByteArray) (x6 : Rows) (K : Ex → CSt → Option R) : roundK Tryd.prog (tabO sh hsh br53 ar53 []) (tabL [entL53_13 l53_13]) ann53 0 Tryd.f53 13 (encL53_13 (x1, x2, x3, x4, x5, x6)) K = u53_13 sh l53_13 x1 x2 x3 x4 x5 x6 (retKL53_13 K) := by kernel_rfl
theorem u53_13_law {R : Type} (l53_13 : iL53_13 → Option oL53_13) (x1 : ByteArray) (x2 : Int) (x3 : Int) (x4 : Int) (x5 : ByteArray) (x6 : Rows) (K : oL53_13 → Option R) : u53_13 sh0 l53_13 x1 x2 x3 x4 x5 x6 K = (u53_13 sh0 l53_13 x1 x2 x3 x4 x5 x6 some).bind K := by
  have key : ∀ (sh : Sh) (_ : ∀ {α R S : Type} (x : α) (f : α → Option R) (K : R → Option S), (sh x f).bind K = sh x fun y => (f y).bind K), u53_13 sh l53_13 x1 x2 x3 x4 x5 x6 K = (u53_13 sh l53_13 x1 x2 x3 x4 x5 x6 some).bind K := by
    intro sh hb
    simp only [u53_13, hb, cond_bind', two_bind, none_bind', Option.bind_assoc, Option.bind_some]
  exact key sh0 (fun _ _ _ => rfl)
theorem okL53_13 (l53_13 : iL53_13 → Option oL53_13) (hl53_13 : SdL53_13 l53_13) : SdL53_13 (fun a => u53_13 sh0 l53_13 a.1 a.2.1 a.2.2.1 a.2.2.2.1 a.2.2.2.2.1 a.2.2.2.2.2 some) := by
  intro nt a b h
  refine round_ok (sh := sh0) (hsh := fun _ _ => rfl) (br := br53) (ar := ar53) Tryd.mixed (by kernel_rfl) .nil (.cons (mkLEnt_ok (hl53_13 nt)) .nil) ((u53_13_eq sh0 (fun _ _ => rfl) l53_13  a.1 a.2.1 a.2.2.1 a.2.2.2.1 a.2.2.2.2.1 a.2.2.2.2.2 _).trans ?_)
  rw [u53_13_law]
  simp only at h
  rw [h, Option.bind_some, retKL53_13_eq]
noncomputable def t53 {R : Type} (sh : Sh) (l53_6 : iL53_6 → Option oL53_6) (l53_13 : iL53_13 → Option oL53_13) (x1 : ByteArray) (k : o53 → Option R) : Option R :=
  bif Decidable.decide ((0 : Int) ≤ (0 : Int) ∧ (0 : Int) < (↑(ByteArray.size x1) : Int)) then
    sh ((↑(UInt8.toNat (List.getD (Array.toList (ByteArray.data x1)) (0 : Nat) (0 : UInt8))) : Int)) fun y1 =>
    bif y1 == (1 : Int) then
      k (((0 : Int), (0 : Int), { data := #[] }, (1 : Int)))
    else
      bif Decidable.decide ((0 : Int) ≤ (0 : Int) ∧ (0 : Int) < (↑(ByteArray.size x1) : Int)) then
        sh ((↑(UInt8.toNat (List.getD (Array.toList (ByteArray.data x1)) (0 : Nat) (0 : UInt8))) : Int)) fun y2 =>
        bif y2 == (2 : Int) then
          sh ((↑(ByteArray.size x1) : Int)) fun y3 =>
          bif Decidable.decide (y3 ≥ (6 : Int)) then
            (l53_6 (x1, (0 : Int), (1 : Int), (0 : Int), (0 : Int), { data := #[] })).bind fun (r6 : Int × Int × Int × ByteArray) =>
            k (((1 : Int), Go.IntKind.wrap Go.IntKind.i64 (Prod.fst r6 - (4294967296 : Int)), { data := #[] }, (6 : Int)))
          else
            bif Decidable.decide ((0 : Int) ≤ (0 : Int) ∧ (0 : Int) < (↑(ByteArray.size x1) : Int)) then
              sh ((↑(UInt8.toNat (List.getD (Array.toList (ByteArray.data x1)) (0 : Nat) (0 : UInt8))) : Int)) fun y7 =>
              bif y7 == (3 : Int) then
                sh ([] : Rows) fun y8 =>
                (l53_13 (x1, (1 : Int), (0 : Int), (0 : Int), { data := #[] }, y8)).bind (two (fun (r25 : Int × Int × Int × ByteArray) =>
                  k ((Prod.fst r25.2, Prod.fst (Prod.snd r25).2, Prod.snd (Prod.snd r25).2, Prod.fst r25))
                ) (fun (r26 : Int × Int × ByteArray) =>
                  k (((0 : Int), (0 : Int), { data := #[] }, (0 : Int)))
                ))
              else
                k (((0 : Int), (0 : Int), { data := #[] }, (0 : Int)))
            else none
        else
          bif Decidable.decide ((0 : Int) ≤ (0 : Int) ∧ (0 : Int) < (↑(ByteArray.size x1) : Int)) then
            sh ((↑(UInt8.toNat (List.getD (Array.toList (ByteArray.data x1)) (0 : Nat) (0 : UInt8))) : Int)) fun y28 =>
            bif y28 == (3 : Int) then
              sh ([] : Rows) fun y29 =>
              (l53_13 (x1, (1 : Int), (0 : Int), (0 : Int), { data := #[] }, y29)).bind (two (fun (r30 : Int × Int × Int × ByteArray) =>
                k ((Prod.fst r30.2, Prod.fst (Prod.snd r30).2, Prod.snd (Prod.snd r30).2, Prod.fst r30))
              ) (fun (r31 : Int × Int × ByteArray) =>
                k (((0 : Int), (0 : Int), { data := #[] }, (0 : Int)))
              ))
            else
              k (((0 : Int), (0 : Int), { data := #[] }, (0 : Int)))
          else none
      else none
  else none
theorem t53_eq {R : Type} (sh : Sh) (hsh : ∀ {α R : Type} (x : α) (K : α → Option R), sh x K = K x) (l53_6 : iL53_6 → Option oL53_6) (l53_13 : iL53_13 → Option oL53_13) (x1 : ByteArray) (K : CSt → Option R) : bodyK Tryd.prog (tabO sh hsh br53 ar53 []) (tabL [entL53_6 l53_6, entL53_13 l53_13]) ann53 false Tryd.f53 (enc53 x1) K = t53 sh l53_6 l53_13 x1 (retK53 K) := by kernel_rfl
theorem t53_law {R : Type} (l53_6 : iL53_6 → Option oL53_6) (l53_13 : iL53_13 → Option oL53_13) (x1 : ByteArray) (K : o53 → Option R) : t53 sh0 l53_6 l53_13 x1 K = (t53 sh0 l53_6 l53_13 x1 some).bind K := by
  have key : ∀ (sh : Sh) (_ : ∀ {α R S : Type} (x : α) (f : α → Option R) (K : R → Option S), (sh x f).bind K = sh x fun y => (f y).bind K), t53 sh l53_6 l53_13 x1 K = (t53 sh l53_6 l53_13 x1 some).bind K := by
    intro sh hb
    simp only [t53, hb, cond_bind', two_bind, none_bind', Option.bind_assoc, Option.bind_some]
  exact key sh0 (fun _ _ _ => rfl)
theorem ok53 (l53_6 : iL53_6 → Option oL53_6) (l53_13 : iL53_13 → Option oL53_13) (hl53_6 : SdL53_6 l53_6) (hl53_13 : SdL53_13 l53_13) : Sd53 (fun a => t53 sh0 l53_6 l53_13 a some) := by
  intro a b h
  refine call_ok (sh := sh0) (hsh := fun _ _ => rfl) (br := br53) (ar := ar53) (own := false) Tryd.mixed Tryd.func53 (by kernel_rfl) .nil (fun nt => (.cons (mkLEnt_ok (hl53_6 nt)) (.cons (mkLEnt_ok (hl53_13 nt)) .nil))) ((t53_eq sh0 (fun _ _ => rfl) l53_6 l53_13 a _).trans ?_)
  rw [t53_law]
  simp only at h
  rw [h, Option.bind_some, retK53_eq]

/-! 38 erasure/erasureref01.DecodeRow -/
abbrev i38 : Type := ByteArray
def enc38 : i38 → CSt := fun a => ([Go.Ev.SV.one (Go.Ev.SL.d (Go.Ev.DL.str a))], [])
def dec38 : (c : CSt) → Option { a : i38 // c = enc38 a }
  | ([Go.Ev.SV.one (Go.Ev.SL.d (Go.Ev.DL.str x1))], []) => some ⟨x1, rfl⟩
  | _ => none
abbrev o38 : Type := Rows × Int
def ret38 : o38 → CSt := fun b => ([Go.Ev.SV.one (Go.Ev.SL.d (Go.Ev.DL.lst (23 : Nat) b.1)), Go.Ev.SV.one (Go.Ev.SL.d (Go.Ev.DL.int Go.IntKind.i64 b.2))], [])
def retK38 {R : Type} (K : CSt → Option R) : o38 → Option R := fun b => K (([Go.Ev.SV.one (Go.Ev.SL.d (Go.Ev.DL.lst (23 : Nat) b.1)), Go.Ev.SV.one (Go.Ev.SL.d (Go.Ev.DL.int Go.IntKind.i64 b.2))], []))
theorem retK38_eq {R : Type} (K : CSt → Option R) (b : o38) : retK38 K b = K (ret38 b) := rfl
abbrev Sd38 (f : i38 → Option o38) : Prop := ∀ a b, f a = some b → CallOk Tryd.prog 38 (enc38 a) (ret38 b)
def ent38 (f : i38 → Option o38) : Ent := mkEnt 38 dec38 ret38 retK38 retK38_eq f
def ann38 : Nat → List Nat × List Nat := fun id => bif Nat.beq id 3 then ([0, 4, 5], [2, 3, 4]) else ([], [])
def br38 : FuncId → Bool := fun (g : Nat) => ([71] : List Nat).any (Nat.beq g)
def ar38 : TypeId → Bool := fun (t : Nat) => ([88, 91, 97] : List Nat).any (Nat.beq t)
abbrev iL38_3 : Type := ByteArray × Int × Rows
def encL38_3 : iL38_3 → CSt := fun a => ([Go.Ev.SV.one (Go.Ev.SL.d (Go.Ev.DL.str a.1)), Go.Ev.SV.one (Go.Ev.SL.vr (0 : Nat)), Go.Ev.SV.one (Go.Ev.SL.d (Go.Ev.DL.int Go.IntKind.i64 a.2.1))], [Go.Ev.Obj.vec (23 : Nat) Bool.false a.2.2])
def decL38_3 : (c : CSt) → Option { a : iL38_3 // c = encL38_3 a }
  | ([Go.Ev.SV.one (Go.Ev.SL.d (Go.Ev.DL.str x1)), Go.Ev.SV.one (Go.Ev.SL.vr (0 : Nat)), Go.Ev.SV.one (Go.Ev.SL.d (Go.Ev.DL.int Go.IntKind.i64 x2))], [Go.Ev.Obj.vec (23 : Nat) Bool.false x3]) => some ⟨(x1, x2, x3), rfl⟩
  | _ => none
abbrev oL38_3 : Type := (Int × Rows × Rows) ⊕ (Rows)
def retL38_3 : oL38_3 → Ex × CSt := two (fun b => (Go.Ev.Ex.ret, ([Go.Ev.SV.one (Go.Ev.SL.vr (0 : Nat)), Go.Ev.SV.one (Go.Ev.SL.d (Go.Ev.DL.int Go.IntKind.i64 b.1)), Go.Ev.SV.one (Go.Ev.SL.vr (1 : Nat))], [Go.Ev.Obj.vec (23 : Nat) Bool.false b.2.1, Go.Ev.Obj.vec (23 : Nat) Bool.false b.2.2]))) (fun b => (Go.Ev.Ex.exit (0 : Nat), ([Go.Ev.SV.one Go.Ev.SL.un, Go.Ev.SV.one Go.Ev.SL.un, Go.Ev.SV.one (Go.Ev.SL.vr (0 : Nat))], [Go.Ev.Obj.vec (23 : Nat) Bool.false b])))
def retKL38_3 {R : Type} (K : Ex → CSt → Option R) : oL38_3 → Option R := two (fun b => K (Go.Ev.Ex.ret) (([Go.Ev.SV.one (Go.Ev.SL.vr (0 : Nat)), Go.Ev.SV.one (Go.Ev.SL.d (Go.Ev.DL.int Go.IntKind.i64 b.1)), Go.Ev.SV.one (Go.Ev.SL.vr (1 : Nat))], [Go.Ev.Obj.vec (23 : Nat) Bool.false b.2.1, Go.Ev.Obj.vec (23 : Nat) Bool.false b.2.2]))) (fun b => K (Go.Ev.Ex.exit (0 : Nat)) (([Go.Ev.SV.one Go.Ev.SL.un, Go.Ev.SV.one Go.Ev.SL.un, Go.Ev.SV.one (Go.Ev.SL.vr (0 : Nat))], [Go.Ev.Obj.vec (23 : Nat) Bool.false b])))
theorem retKL38_3_eq {R : Type} (K : Ex → CSt → Option R) (b : oL38_3) : retKL38_3 K b = K (retL38_3 b).1 (retL38_3 b).2 := by
  unfold retKL38_3 retL38_3
  repeat' (first | rfl | cases b with | inl b => rfl | inr b => ?_)
def entL38_3 (l : iL38_3 → Option oL38_3) : LEnt := mkLEnt 3 decL38_3 retL38_3 retKL38_3 retKL38_3_eq l
abbrev SdL38_3 (l : iL38_3 → Option oL38_3) : Prop := ∀ nt a b, l a = some b → LoopAt Tryd.prog nt 0 ann38 Tryd.f38 3 (encL38_3 a) (retL38_3 b)
noncomputable def u38_3 {R : Type} (sh : Sh) (f53 : i53 → Option o53) (f19 : i19 → Option o19) (l38_3 : iL38_3 → Option oL38_3) (x1 : ByteArray) (x2 : Int) (x3 : Rows) (k : oL38_3 → Option R) : Option R :=
  sh ((↑(ByteArray.size x1) : Int)) fun y3 =>
  bif Decidable.decide (x2 < y3) then
    bif Decidable.decide ((0 : Int) ≤ x2 ∧ x2 ≤ (↑(ByteArray.size x1) : Int)) then
      sh (ByteArray.extract x1 (Int.toNat x2) (ByteArray.size x1)) fun y4 =>
      (f53 (y4)).bind fun (r5 : Int × Int × ByteArray × Int) =>
      bif Prod.snd (Prod.snd r5).2 == (0 : Int) then
        sh ([] : Rows) fun y6 =>
        k ((.inl ((1 : Int), y6, x3)))
      else
        (f19 (Prod.fst r5, Prod.fst r5.2, Prod.fst (Prod.snd r5).2)).bind fun (r7 : Bool) =>
        bif !r7 then
          sh ([] : Rows) fun y8 =>
          k ((.inl ((1 : Int), y8, x3)))
        else
          sh ((↑(List.length x3) : Int)) fun y9 =>
          bif y9 == (16 : Int) then
            sh ([] : Rows) fun y10 =>
            k ((.inl ((1 : Int), y10, x3)))
          else
            sh ([[Go.Ev.DL.int Go.IntKind.i64 (Prod.fst r5), Go.Ev.DL.int Go.IntKind.i64 (Prod.fst r5.2), Go.Ev.DL.str (Prod.fst (Prod.snd r5).2)]] : Rows) fun y11 =>
            bif Go.Ev.roomE Go.Proofs.Tryd.prog (23 : Nat) (List.length x3 + List.length y11) then
              sh (x3 ++ y11 : Rows) fun y12 =>
              sh (Go.IntKind.wrap Go.IntKind.i64 (x2 + Prod.snd (Prod.snd r5).2)) fun y13 =>
              (l38_3 (x1, y13, y12)).bind k
            else none
    else none
  else
    k ((.inr x3))
theorem u38_3_eq {R : Type} (sh : Sh) (hsh : ∀ {α R : Type} (x : α) (K : α → Option R), sh x K = K x) (f53 : i53 → Option o53) (f19 : i19 → Option o19) (l38_3 : iL38_3 → Option oL38_3) (x1 : ByteArray) (x2 : Int) (x3 : Rows) (K : Ex → CSt → Option R) : roundK Tryd.prog (tabO sh hsh br38 ar38 [ent53 f53, ent19 f19]) (tabL [entL38_3 l38_3]) ann38 0 Tryd.f38 3 (encL38_3 (x1, x2, x3)) K = u38_3 sh f53 f19 l38_3 x1 x2 x3 (retKL38_3 K) := by kernel_rfl
theorem u38_3_law {R : Type} (f53 : i53 → Option o53) (f19 : i19 → Option o19) (l38_3 : iL38_3 → Option oL38_3) (x1 : ByteArray) (x2 : Int) (x3 : Rows) (K : oL38_3 → Option R) : u38_3 sh0 f53 f19 l38_3 x1 x2 x3 K = (u38_3 sh0 f53 f19 l38_3 x1 x2 x3 some).bind K := by
  have key : ∀ (sh : Sh) (_ : ∀ {α R S : Type} (x : α) (f : α → Option R) (K : R → Option S), (sh x f).bind K = sh x fun y => (f y).bind K), u38_3 sh f53 f19 l38_3 x1 x2 x3 K = (u38_3 sh f53 f19 l38_3 x1 x2 x3 some).bind K := by
    intro sh hb
    simp only [u38_3, hb, cond_bind', two_bind, none_bind', Option.bind_assoc, Option.bind_some]
  exact key sh0 (fun _ _ _ => rfl)
theorem okL38_3 (f53 : i53 → Option o53) (f19 : i19 → Option o19) (l38_3 : iL38_3 → Option oL38_3) (hf53 : Sd53 f53) (hf19 : Sd19 f19) (hl38_3 : SdL38_3 l38_3) : SdL38_3 (fun a => u38_3 sh0 f53 f19 l38_3 a.1 a.2.1 a.2.2 some) := by
  intro nt a b h
  refine round_ok (sh := sh0) (hsh := fun _ _ => rfl) (br := br38) (ar := ar38) Tryd.mixed (by kernel_rfl) (.cons (mkEnt_ok hf53) (.cons (mkEnt_ok hf19) .nil)) (.cons (mkLEnt_ok (hl38_3 nt)) .nil) ((u38_3_eq sh0 (fun _ _ => rfl) f53 f19 l38_3  a.1 a.2.1 a.2.2 _).trans ?_)
  rw [u38_3_law]
  simp only at h
  rw [h, Option.bind_some, retKL38_3_eq]
noncomputable def t38 {R : Type} (sh : Sh) (l38_3 : iL38_3 → Option oL38_3) (x1 : ByteArray) (k : o38 → Option R) : Option R :=
  sh ([] : Rows) fun y1 =>
  sh ([] : Rows) fun y2 =>
  (l38_3 (x1, (0 : Int), y2)).bind (two (fun (r14 : Int × Rows × Rows) =>
    k ((Prod.fst r14.2, Prod.fst r14))
  ) (fun (r15 : Rows) =>
    k ((r15, (0 : Int)))
  ))
theorem t38_eq {R : Type} (sh : Sh) (hsh : ∀ {α R : Type} (x : α) (K : α → Option R), sh x K = K x) (l38_3 : iL38_3 → Option oL38_3) (x1 : ByteArray) (K : CSt → Option R) : bodyK Tryd.prog (tabO sh hsh br38 ar38 []) (tabL [entL38_3 l38_3]) ann38 false Tryd.f38 (enc38 x1) K = t38 sh l38_3 x1 (retK38 K) := by kernel_rfl
theorem t38_law {R : Type} (l38_3 : iL38_3 → Option oL38_3) (x1 : ByteArray) (K : o38 → Option R) : t38 sh0 l38_3 x1 K = (t38 sh0 l38_3 x1 some).bind K := by
  have key : ∀ (sh : Sh) (_ : ∀ {α R S : Type} (x : α) (f : α → Option R) (K : R → Option S), (sh x f).bind K = sh x fun y => (f y).bind K), t38 sh l38_3 x1 K = (t38 sh l38_3 x1 some).bind K := by
    intro sh hb
    simp only [t38, hb, cond_bind', two_bind, none_bind', Option.bind_assoc, Option.bind_some]
  exact key sh0 (fun _ _ _ => rfl)
theorem ok38 (l38_3 : iL38_3 → Option oL38_3) (hl38_3 : SdL38_3 l38_3) : Sd38 (fun a => t38 sh0 l38_3 a some) := by
  intro a b h
  refine call_ok (sh := sh0) (hsh := fun _ _ => rfl) (br := br38) (ar := ar38) (own := false) Tryd.mixed Tryd.func38 (by kernel_rfl) .nil (fun nt => (.cons (mkLEnt_ok (hl38_3 nt)) .nil)) ((t38_eq sh0 (fun _ _ => rfl) l38_3 a _).trans ?_)
  rw [t38_law]
  simp only at h
  rw [h, Option.bind_some, retK38_eq]

/-! 43 erasure/erasureref01.Digits -/
abbrev i43 : Type := Int
def enc43 : i43 → CSt := fun a => ([Go.Ev.SV.one (Go.Ev.SL.d (Go.Ev.DL.int Go.IntKind.i64 a))], [])
def dec43 : (c : CSt) → Option { a : i43 // c = enc43 a }
  | ([Go.Ev.SV.one (Go.Ev.SL.d (Go.Ev.DL.int Go.IntKind.i64 x1))], []) => some ⟨x1, rfl⟩
  | _ => none
abbrev o43 : Type := ByteArray
def ret43 : o43 → CSt := fun b => ([Go.Ev.SV.one (Go.Ev.SL.d (Go.Ev.DL.str b))], [])
def retK43 {R : Type} (K : CSt → Option R) : o43 → Option R := fun b => K (([Go.Ev.SV.one (Go.Ev.SL.d (Go.Ev.DL.str b))], []))
theorem retK43_eq {R : Type} (K : CSt → Option R) (b : o43) : retK43 K b = K (ret43 b) := rfl
abbrev Sd43 (f : i43 → Option o43) : Prop := ∀ a b, f a = some b → CallOk Tryd.prog 43 (enc43 a) (ret43 b)
def ent43 (f : i43 → Option o43) : Ent := mkEnt 43 dec43 ret43 retK43 retK43_eq f
def ann43 : Nat → List Nat × List Nat := fun id => ([], [])
def br43 : FuncId → Bool := fun (g : Nat) => ([71] : List Nat).any (Nat.beq g)
def ar43 : TypeId → Bool := fun (t : Nat) => ([88, 91, 97] : List Nat).any (Nat.beq t)
noncomputable def t43 {R : Type} (sh : Sh) (f43 : i43 → Option o43) (x1 : Int) (k : o43 → Option R) : Option R :=
  bif Decidable.decide (x1 < (0 : Int)) then
    sh (Go.IntKind.wrap Go.IntKind.i64 ((0 : Int) - x1)) fun y1 =>
    (f43 (y1)).bind fun (r2 : ByteArray) =>
    bif Decidable.decide ((↑((1 : Nat) + ByteArray.size r2) : Int) ≤ (9223372036854775807 : Int)) then
      k ({ data := #[(45 : UInt8)] } ++ r2)
    else none
  else
    bif Decidable.decide (x1 < (10 : Int)) then
      sh ([[Go.Ev.DL.int Go.IntKind.u8 (Go.IntKind.wrap Go.IntKind.u8 (Go.IntKind.wrap Go.IntKind.i64 ((48 : Int) + x1)))]] : Rows) fun y3 =>
      sh (Go.Ev.strOfBytes y3) fun y4 =>
      k (y4)
    else
      (f43 (Go.IntKind.wrap Go.IntKind.i64 (Int.tdiv x1 (10 : Int)))).bind fun (r5 : ByteArray) =>
      sh ([[Go.Ev.DL.int Go.IntKind.u8 (Go.IntKind.wrap Go.IntKind.u8 (Go.IntKind.wrap Go.IntKind.i64 ((48 : Int) + Int.tmod x1 (10 : Int))))]] : Rows) fun y6 =>
      sh (Go.Ev.strOfBytes y6) fun y7 =>
      bif Decidable.decide ((↑(ByteArray.size r5 + ByteArray.size y7) : Int) ≤ (9223372036854775807 : Int)) then
        sh (r5 ++ y7) fun y8 =>
        k (y8)
      else none
theorem t43_eq {R : Type} (sh : Sh) (hsh : ∀ {α R : Type} (x : α) (K : α → Option R), sh x K = K x) (f43 : i43 → Option o43) (x1 : Int) (K : CSt → Option R) : bodyK Tryd.prog (tabO sh hsh br43 ar43 [ent43 f43]) (tabL []) ann43 false Tryd.f43 (enc43 x1) K = t43 sh f43 x1 (retK43 K) := by kernel_rfl
theorem t43_law {R : Type} (f43 : i43 → Option o43) (x1 : Int) (K : o43 → Option R) : t43 sh0 f43 x1 K = (t43 sh0 f43 x1 some).bind K := by
  have key : ∀ (sh : Sh) (_ : ∀ {α R S : Type} (x : α) (f : α → Option R) (K : R → Option S), (sh x f).bind K = sh x fun y => (f y).bind K), t43 sh f43 x1 K = (t43 sh f43 x1 some).bind K := by
    intro sh hb
    simp only [t43, hb, cond_bind', two_bind, none_bind', Option.bind_assoc, Option.bind_some]
  exact key sh0 (fun _ _ _ => rfl)
theorem ok43 (f43 : i43 → Option o43) (hf43 : Sd43 f43) : Sd43 (fun a => t43 sh0 f43 a some) := by
  intro a b h
  refine call_ok (sh := sh0) (hsh := fun _ _ => rfl) (br := br43) (ar := ar43) (own := false) Tryd.mixed Tryd.func43 (by kernel_rfl) (.cons (mkEnt_ok hf43) .nil) (fun nt => .nil) ((t43_eq sh0 (fun _ _ => rfl) f43 a _).trans ?_)
  rw [t43_law]
  simp only at h
  rw [h, Option.bind_some, retK43_eq]

/-! 44 erasure/erasureref01.Quote -/
abbrev i44 : Type := ByteArray
def enc44 : i44 → CSt := fun a => ([Go.Ev.SV.one (Go.Ev.SL.d (Go.Ev.DL.str a))], [])
def dec44 : (c : CSt) → Option { a : i44 // c = enc44 a }
  | ([Go.Ev.SV.one (Go.Ev.SL.d (Go.Ev.DL.str x1))], []) => some ⟨x1, rfl⟩
  | _ => none
abbrev o44 : Type := ByteArray
def ret44 : o44 → CSt := fun b => ([Go.Ev.SV.one (Go.Ev.SL.d (Go.Ev.DL.str b))], [])
def retK44 {R : Type} (K : CSt → Option R) : o44 → Option R := fun b => K (([Go.Ev.SV.one (Go.Ev.SL.d (Go.Ev.DL.str b))], []))
theorem retK44_eq {R : Type} (K : CSt → Option R) (b : o44) : retK44 K b = K (ret44 b) := rfl
abbrev Sd44 (f : i44 → Option o44) : Prop := ∀ a b, f a = some b → CallOk Tryd.prog 44 (enc44 a) (ret44 b)
def ent44 (f : i44 → Option o44) : Ent := mkEnt 44 dec44 ret44 retK44 retK44_eq f
def ann44 : Nat → List Nat × List Nat := fun id => bif Nat.beq id 3 then ([0, 3, 4], [3]) else ([], [])
def br44 : FuncId → Bool := fun (g : Nat) => ([71] : List Nat).any (Nat.beq g)
def ar44 : TypeId → Bool := fun (t : Nat) => ([88, 91, 97] : List Nat).any (Nat.beq t)
abbrev iL44_3 : Type := ByteArray × Int × Rows
def encL44_3 : iL44_3 → CSt := fun a => ([Go.Ev.SV.one (Go.Ev.SL.d (Go.Ev.DL.str a.1)), Go.Ev.SV.one (Go.Ev.SL.vr (0 : Nat)), Go.Ev.SV.one (Go.Ev.SL.d (Go.Ev.DL.int Go.IntKind.i64 a.2.1))], [Go.Ev.Obj.vec (5 : Nat) Bool.false a.2.2])
def decL44_3 : (c : CSt) → Option { a : iL44_3 // c = encL44_3 a }
  | ([Go.Ev.SV.one (Go.Ev.SL.d (Go.Ev.DL.str x1)), Go.Ev.SV.one (Go.Ev.SL.vr (0 : Nat)), Go.Ev.SV.one (Go.Ev.SL.d (Go.Ev.DL.int Go.IntKind.i64 x2))], [Go.Ev.Obj.vec (5 : Nat) Bool.false x3]) => some ⟨(x1, x2, x3), rfl⟩
  | _ => none
abbrev oL44_3 : Type := Rows
def retL44_3 : oL44_3 → Ex × CSt := fun b => (Go.Ev.Ex.exit (0 : Nat), ([Go.Ev.SV.one (Go.Ev.SL.vr (0 : Nat))], [Go.Ev.Obj.vec (5 : Nat) Bool.false b]))
def retKL44_3 {R : Type} (K : Ex → CSt → Option R) : oL44_3 → Option R := fun b => K (Go.Ev.Ex.exit (0 : Nat)) (([Go.Ev.SV.one (Go.Ev.SL.vr (0 : Nat))], [Go.Ev.Obj.vec (5 : Nat) Bool.false b]))
theorem retKL44_3_eq {R : Type} (K : Ex → CSt → Option R) (b : oL44_3) : retKL44_3 K b = K (retL44_3 b).1 (retL44_3 b).2 := rfl
def entL44_3 (l : iL44_3 → Option oL44_3) : LEnt := mkLEnt 3 decL44_3 retL44_3 retKL44_3 retKL44_3_eq l
abbrev SdL44_3 (l : iL44_3 → Option oL44_3) : Prop := ∀ nt a b, l a = some b → LoopAt Tryd.prog nt 0 ann44 Tryd.f44 3 (encL44_3 a) (retL44_3 b)
noncomputable def u44_3 {R : Type} (sh : Sh) (l44_3 : iL44_3 → Option oL44_3) (x1 : ByteArray) (x2 : Int) (x3 : Rows) (k : oL44_3 → Option R) : Option R :=
  sh ((↑(ByteArray.size x1) : Int)) fun y2 =>
  bif Decidable.decide (x2 < y2) then
    bif Decidable.decide ((0 : Int) ≤ x2 ∧ x2 < (↑(ByteArray.size x1) : Int)) then
      sh ((↑(UInt8.toNat (List.getD (Array.toList (ByteArray.data x1)) (Int.toNat x2) (0 : UInt8))) : Int)) fun y3 =>
      bif y3 == (34 : Int) then
        bif Decidable.decide ((0 : Int) ≤ x2 ∧ x2 < (↑(ByteArray.size x1) : Int)) then
          sh ((↑(UInt8.toNat (List.getD (Array.toList (ByteArray.data x1)) (Int.toNat x2) (0 : UInt8))) : Int)) fun y4 =>
          bif Decidable.decide ((0 : Int) ≤ Go.IntKind.wrap Go.IntKind.u8 (Int.tdiv y4 (16 : Int)) ∧ Go.IntKind.wrap Go.IntKind.u8 (Int.tdiv y4 (16 : Int)) < (16 : Int)) then
            sh ((↑(UInt8.toNat (List.getD [(48 : UInt8), (49 : UInt8), (50 : UInt8), (51 : UInt8), (52 : UInt8), (53 : UInt8), (54 : UInt8), (55 : UInt8), (56 : UInt8), (57 : UInt8), (97 : UInt8), (98 : UInt8), (99 : UInt8), (100 : UInt8), (101 : UInt8), (102 : UInt8)] (Int.toNat (Go.IntKind.wrap Go.IntKind.u8 (Int.tdiv y4 (16 : Int)))) (0 : UInt8))) : Int)) fun y5 =>
            bif Decidable.decide ((0 : Int) ≤ x2 ∧ x2 < (↑(ByteArray.size x1) : Int)) then
              sh ((↑(UInt8.toNat (List.getD (Array.toList (ByteArray.data x1)) (Int.toNat x2) (0 : UInt8))) : Int)) fun y6 =>
              bif Decidable.decide ((0 : Int) ≤ Int.tmod y6 (16 : Int) ∧ Int.tmod y6 (16 : Int) < (16 : Int)) then
                sh ((↑(UInt8.toNat (List.getD [(48 : UInt8), (49 : UInt8), (50 : UInt8), (51 : UInt8), (52 : UInt8), (53 : UInt8), (54 : UInt8), (55 : UInt8), (56 : UInt8), (57 : UInt8), (97 : UInt8), (98 : UInt8), (99 : UInt8), (100 : UInt8), (101 : UInt8), (102 : UInt8)] (Int.toNat (Int.tmod y6 (16 : Int))) (0 : UInt8))) : Int)) fun y7 =>
                sh ([[Go.Ev.DL.int Go.IntKind.u8 (92 : Int)], [Go.Ev.DL.int Go.IntKind.u8 y5], [Go.Ev.DL.int Go.IntKind.u8 y7]] : Rows) fun y8 =>
                bif Go.Ev.roomE Go.Proofs.Tryd.prog (5 : Nat) (List.length x3 + List.length y8) then
                  sh (x3 ++ y8 : Rows) fun y9 =>
                  (l44_3 (x1, Go.IntKind.wrap Go.IntKind.i64 (x2 + (1 : Int)), y9)).bind k
                else none
              else none
            else none
          else none
        else none
      else
        bif Decidable.decide ((0 : Int) ≤ x2 ∧ x2 < (↑(ByteArray.size x1) : Int)) then
          sh ((↑(UInt8.toNat (List.getD (Array.toList (ByteArray.data x1)) (Int.toNat x2) (0 : UInt8))) : Int)) fun y10 =>
          bif y10 == (92 : Int) then
            bif Decidable.decide ((0 : Int) ≤ x2 ∧ x2 < (↑(ByteArray.size x1) : Int)) then
              sh ((↑(UInt8.toNat (List.getD (Array.toList (ByteArray.data x1)) (Int.toNat x2) (0 : UInt8))) : Int)) fun y11 =>
              bif Decidable.decide ((0 : Int) ≤ Go.IntKind.wrap Go.IntKind.u8 (Int.tdiv y11 (16 : Int)) ∧ Go.IntKind.wrap Go.IntKind.u8 (Int.tdiv y11 (16 : Int)) < (16 : Int)) then
                sh ((↑(UInt8.toNat (List.getD [(48 : UInt8), (49 : UInt8), (50 : UInt8), (51 : UInt8), (52 : UInt8), (53 : UInt8), (54 : UInt8), (55 : UInt8), (56 : UInt8), (57 : UInt8), (97 : UInt8), (98 : UInt8), (99 : UInt8), (100 : UInt8), (101 : UInt8), (102 : UInt8)] (Int.toNat (Go.IntKind.wrap Go.IntKind.u8 (Int.tdiv y11 (16 : Int)))) (0 : UInt8))) : Int)) fun y12 =>
                bif Decidable.decide ((0 : Int) ≤ x2 ∧ x2 < (↑(ByteArray.size x1) : Int)) then
                  sh ((↑(UInt8.toNat (List.getD (Array.toList (ByteArray.data x1)) (Int.toNat x2) (0 : UInt8))) : Int)) fun y13 =>
                  bif Decidable.decide ((0 : Int) ≤ Int.tmod y13 (16 : Int) ∧ Int.tmod y13 (16 : Int) < (16 : Int)) then
                    sh ((↑(UInt8.toNat (List.getD [(48 : UInt8), (49 : UInt8), (50 : UInt8), (51 : UInt8), (52 : UInt8), (53 : UInt8), (54 : UInt8), (55 : UInt8), (56 : UInt8), (57 : UInt8), (97 : UInt8), (98 : UInt8), (99 : UInt8), (100 : UInt8), (101 : UInt8), (102 : UInt8)] (Int.toNat (Int.tmod y13 (16 : Int))) (0 : UInt8))) : Int)) fun y14 =>
                    sh ([[Go.Ev.DL.int Go.IntKind.u8 (92 : Int)], [Go.Ev.DL.int Go.IntKind.u8 y12], [Go.Ev.DL.int Go.IntKind.u8 y14]] : Rows) fun y15 =>
                    bif Go.Ev.roomE Go.Proofs.Tryd.prog (5 : Nat) (List.length x3 + List.length y15) then
                      sh (x3 ++ y15 : Rows) fun y16 =>
                      (l44_3 (x1, Go.IntKind.wrap Go.IntKind.i64 (x2 + (1 : Int)), y16)).bind k
                    else none
                  else none
                else none
              else none
            else none
          else
            bif Decidable.decide ((0 : Int) ≤ x2 ∧ x2 < (↑(ByteArray.size x1) : Int)) then
              sh ((↑(UInt8.toNat (List.getD (Array.toList (ByteArray.data x1)) (Int.toNat x2) (0 : UInt8))) : Int)) fun y17 =>
              bif Decidable.decide (y17 < (32 : Int)) then
                bif Decidable.decide ((0 : Int) ≤ x2 ∧ x2 < (↑(ByteArray.size x1) : Int)) then
                  sh ((↑(UInt8.toNat (List.getD (Array.toList (ByteArray.data x1)) (Int.toNat x2) (0 : UInt8))) : Int)) fun y18 =>
                  bif Decidable.decide ((0 : Int) ≤ Go.IntKind.wrap Go.IntKind.u8 (Int.tdiv y18 (16 : Int)) ∧ Go.IntKind.wrap Go.IntKind.u8 (Int.tdiv y18 (16 : Int)) < (16 : Int)) then
                    sh ((↑(UInt8.toNat (List.getD [(48 : UInt8), (49 : UInt8), (50 : UInt8), (51 : UInt8), (52 : UInt8), (53 : UInt8), (54 : UInt8), (55 : UInt8), (56 : UInt8), (57 : UInt8), (97 : UInt8), (98 : UInt8), (99 : UInt8), (100 : UInt8), (101 : UInt8), (102 : UInt8)] (Int.toNat (Go.IntKind.wrap Go.IntKind.u8 (Int.tdiv y18 (16 : Int)))) (0 : UInt8))) : Int)) fun y19 =>
                    bif Decidable.decide ((0 : Int) ≤ x2 ∧ x2 < (↑(ByteArray.size x1) : Int)) then
                      sh ((↑(UInt8.toNat (List.getD (Array.toList (ByteArray.data x1)) (Int.toNat x2) (0 : UInt8))) : Int)) fun y20 =>
                      bif Decidable.decide ((0 : Int) ≤ Int.tmod y20 (16 : Int) ∧ Int.tmod y20 (16 : Int) < (16 : Int)) then
                        sh ((↑(UInt8.toNat (List.getD [(48 : UInt8), (49 : UInt8), (50 : UInt8), (51 : UInt8), (52 : UInt8), (53 : UInt8), (54 : UInt8), (55 : UInt8), (56 : UInt8), (57 : UInt8), (97 : UInt8), (98 : UInt8), (99 : UInt8), (100 : UInt8), (101 : UInt8), (102 : UInt8)] (Int.toNat (Int.tmod y20 (16 : Int))) (0 : UInt8))) : Int)) fun y21 =>
                        sh ([[Go.Ev.DL.int Go.IntKind.u8 (92 : Int)], [Go.Ev.DL.int Go.IntKind.u8 y19], [Go.Ev.DL.int Go.IntKind.u8 y21]] : Rows) fun y22 =>
                        bif Go.Ev.roomE Go.Proofs.Tryd.prog (5 : Nat) (List.length x3 + List.length y22) then
                          sh (x3 ++ y22 : Rows) fun y23 =>
                          (l44_3 (x1, Go.IntKind.wrap Go.IntKind.i64 (x2 + (1 : Int)), y23)).bind k
                        else none
                      else none
                    else none
                  else none
                else none
              else
                bif Decidable.decide ((0 : Int) ≤ x2 ∧ x2 < (↑(ByteArray.size x1) : Int)) then
                  sh ((↑(UInt8.toNat (List.getD (Array.toList (ByteArray.data x1)) (Int.toNat x2) (0 : UInt8))) : Int)) fun y24 =>
                  bif Decidable.decide (y24 > (126 : Int)) then
                    bif Decidable.decide ((0 : Int) ≤ x2 ∧ x2 < (↑(ByteArray.size x1) : Int)) then
                      sh ((↑(UInt8.toNat (List.getD (Array.toList (ByteArray.data x1)) (Int.toNat x2) (0 : UInt8))) : Int)) fun y25 =>
                      bif Decidable.decide ((0 : Int) ≤ Go.IntKind.wrap Go.IntKind.u8 (Int.tdiv y25 (16 : Int)) ∧ Go.IntKind.wrap Go.IntKind.u8 (Int.tdiv y25 (16 : Int)) < (16 : Int)) then
                        sh ((↑(UInt8.toNat (List.getD [(48 : UInt8), (49 : UInt8), (50 : UInt8), (51 : UInt8), (52 : UInt8), (53 : UInt8), (54 : UInt8), (55 : UInt8), (56 : UInt8), (57 : UInt8), (97 : UInt8), (98 : UInt8), (99 : UInt8), (100 : UInt8), (101 : UInt8), (102 : UInt8)] (Int.toNat (Go.IntKind.wrap Go.IntKind.u8 (Int.tdiv y25 (16 : Int)))) (0 : UInt8))) : Int)) fun y26 =>
                        bif Decidable.decide ((0 : Int) ≤ x2 ∧ x2 < (↑(ByteArray.size x1) : Int)) then
                          sh ((↑(UInt8.toNat (List.getD (Array.toList (ByteArray.data x1)) (Int.toNat x2) (0 : UInt8))) : Int)) fun y27 =>
                          bif Decidable.decide ((0 : Int) ≤ Int.tmod y27 (16 : Int) ∧ Int.tmod y27 (16 : Int) < (16 : Int)) then
                            sh ((↑(UInt8.toNat (List.getD [(48 : UInt8), (49 : UInt8), (50 : UInt8), (51 : UInt8), (52 : UInt8), (53 : UInt8), (54 : UInt8), (55 : UInt8), (56 : UInt8), (57 : UInt8), (97 : UInt8), (98 : UInt8), (99 : UInt8), (100 : UInt8), (101 : UInt8), (102 : UInt8)] (Int.toNat (Int.tmod y27 (16 : Int))) (0 : UInt8))) : Int)) fun y28 =>
                            sh ([[Go.Ev.DL.int Go.IntKind.u8 (92 : Int)], [Go.Ev.DL.int Go.IntKind.u8 y26], [Go.Ev.DL.int Go.IntKind.u8 y28]] : Rows) fun y29 =>
                            bif Go.Ev.roomE Go.Proofs.Tryd.prog (5 : Nat) (List.length x3 + List.length y29) then
                              sh (x3 ++ y29 : Rows) fun y30 =>
                              (l44_3 (x1, Go.IntKind.wrap Go.IntKind.i64 (x2 + (1 : Int)), y30)).bind k
                            else none
                          else none
                        else none
                      else none
                    else none
                  else
                    bif Decidable.decide ((0 : Int) ≤ x2 ∧ x2 < (↑(ByteArray.size x1) : Int)) then
                      sh ((↑(UInt8.toNat (List.getD (Array.toList (ByteArray.data x1)) (Int.toNat x2) (0 : UInt8))) : Int)) fun y31 =>
                      sh ([[Go.Ev.DL.int Go.IntKind.u8 y31]] : Rows) fun y32 =>
                      bif Go.Ev.roomE Go.Proofs.Tryd.prog (5 : Nat) (List.length x3 + List.length y32) then
                        sh (x3 ++ y32 : Rows) fun y33 =>
                        (l44_3 (x1, Go.IntKind.wrap Go.IntKind.i64 (x2 + (1 : Int)), y33)).bind k
                      else none
                    else none
                else none
            else none
        else none
    else none
  else
    k (x3)
theorem u44_3_eq {R : Type} (sh : Sh) (hsh : ∀ {α R : Type} (x : α) (K : α → Option R), sh x K = K x) (l44_3 : iL44_3 → Option oL44_3) (x1 : ByteArray) (x2 : Int) (x3 : Rows) (K : Ex → CSt → Option R) : roundK Tryd.prog (tabO sh hsh br44 ar44 []) (tabL [entL44_3 l44_3]) ann44 0 Tryd.f44 3 (encL44_3 (x1, x2, x3)) K = u44_3 sh l44_3 x1 x2 x3 (retKL44_3 K) := by kernel_rfl
theorem u44_3_law {R : Type} (l44_3 : iL44_3 → Option oL44_3) (x1 : ByteArray) (x2 : Int) (x3 : Rows) (K : oL44_3 → Option R) : u44_3 sh0 l44_3 x1 x2 x3 K = (u44_3 sh0 l44_3 x1 x2 x3 some).bind K := by
  have key : ∀ (sh : Sh) (_ : ∀ {α R S : Type} (x : α) (f : α → Option R) (K : R → Option S), (sh x f).bind K = sh x fun y => (f y).bind K), u44_3 sh l44_3 x1 x2 x3 K = (u44_3 sh l44_3 x1 x2 x3 some).bind K := by
    intro sh hb
    simp only [u44_3, hb, cond_bind', two_bind, none_bind', Option.bind_assoc, Option.bind_some]
  exact key sh0 (fun _ _ _ => rfl)
theorem okL44_3 (l44_3 : iL44_3 → Option oL44_3) (hl44_3 : SdL44_3 l44_3) : SdL44_3 (fun a => u44_3 sh0 l44_3 a.1 a.2.1 a.2.2 some) := by
  intro nt a b h
  refine round_ok (sh := sh0) (hsh := fun _ _ => rfl) (br := br44) (ar := ar44) Tryd.mixed (by kernel_rfl) .nil (.cons (mkLEnt_ok (hl44_3 nt)) .nil) ((u44_3_eq sh0 (fun _ _ => rfl) l44_3  a.1 a.2.1 a.2.2 _).trans ?_)
  rw [u44_3_law]
  simp only at h
  rw [h, Option.bind_some, retKL44_3_eq]
noncomputable def t44 {R : Type} (sh : Sh) (l44_3 : iL44_3 → Option oL44_3) (x1 : ByteArray) (k : o44 → Option R) : Option R :=
  sh ([[Go.Ev.DL.int Go.IntKind.u8 (34 : Int)]] : Rows) fun y1 =>
  (l44_3 (x1, (0 : Int), y1)).bind fun (r34 : Rows) =>
  sh ([[Go.Ev.DL.int Go.IntKind.u8 (34 : Int)]] : Rows) fun y35 =>
  bif Go.Ev.roomE Go.Proofs.Tryd.prog (5 : Nat) (List.length r34 + List.length y35) then
    sh (r34 ++ y35 : Rows) fun y36 =>
    sh (Go.Ev.strOfBytes y36) fun y37 =>
    k (y37)
  else none
theorem t44_eq {R : Type} (sh : Sh) (hsh : ∀ {α R : Type} (x : α) (K : α → Option R), sh x K = K x) (l44_3 : iL44_3 → Option oL44_3) (x1 : ByteArray) (K : CSt → Option R) : bodyK Tryd.prog (tabO sh hsh br44 ar44 []) (tabL [entL44_3 l44_3]) ann44 false Tryd.f44 (enc44 x1) K = t44 sh l44_3 x1 (retK44 K) := by kernel_rfl
theorem t44_law {R : Type} (l44_3 : iL44_3 → Option oL44_3) (x1 : ByteArray) (K : o44 → Option R) : t44 sh0 l44_3 x1 K = (t44 sh0 l44_3 x1 some).bind K := by
  have key : ∀ (sh : Sh) (_ : ∀ {α R S : Type} (x : α) (f : α → Option R) (K : R → Option S), (sh x f).bind K = sh x fun y => (f y).bind K), t44 sh l44_3 x1 K = (t44 sh l44_3 x1 some).bind K := by
    intro sh hb
    simp only [t44, hb, cond_bind', two_bind, none_bind', Option.bind_assoc, Option.bind_some]
  exact key sh0 (fun _ _ _ => rfl)
theorem ok44 (l44_3 : iL44_3 → Option oL44_3) (hl44_3 : SdL44_3 l44_3) : Sd44 (fun a => t44 sh0 l44_3 a some) := by
  intro a b h
  refine call_ok (sh := sh0) (hsh := fun _ _ => rfl) (br := br44) (ar := ar44) (own := false) Tryd.mixed Tryd.func44 (by kernel_rfl) .nil (fun nt => (.cons (mkLEnt_ok (hl44_3 nt)) .nil)) ((t44_eq sh0 (fun _ _ => rfl) l44_3 a _).trans ?_)
  rw [t44_law]
  simp only at h
  rw [h, Option.bind_some, retK44_eq]

/-! 16 erasure/erasureref01.Format -/
abbrev i16 : Type := Int × Int × ByteArray
def enc16 : i16 → CSt := fun a => ([Go.Ev.SV.agg [Go.Ev.SL.d (Go.Ev.DL.int Go.IntKind.i64 a.1), Go.Ev.SL.d (Go.Ev.DL.int Go.IntKind.i64 a.2.1), Go.Ev.SL.d (Go.Ev.DL.str a.2.2)]], [])
def dec16 : (c : CSt) → Option { a : i16 // c = enc16 a }
  | ([Go.Ev.SV.agg [Go.Ev.SL.d (Go.Ev.DL.int Go.IntKind.i64 x1), Go.Ev.SL.d (Go.Ev.DL.int Go.IntKind.i64 x2), Go.Ev.SL.d (Go.Ev.DL.str x3)]], []) => some ⟨(x1, x2, x3), rfl⟩
  | _ => none
abbrev o16 : Type := ByteArray
def ret16 : o16 → CSt := fun b => ([Go.Ev.SV.one (Go.Ev.SL.d (Go.Ev.DL.str b))], [])
def retK16 {R : Type} (K : CSt → Option R) : o16 → Option R := fun b => K (([Go.Ev.SV.one (Go.Ev.SL.d (Go.Ev.DL.str b))], []))
theorem retK16_eq {R : Type} (K : CSt → Option R) (b : o16) : retK16 K b = K (ret16 b) := rfl
abbrev Sd16 (f : i16 → Option o16) : Prop := ∀ a b, f a = some b → CallOk Tryd.prog 16 (enc16 a) (ret16 b)
def ent16 (f : i16 → Option o16) : Ent := mkEnt 16 dec16 ret16 retK16 retK16_eq f
def ann16 : Nat → List Nat × List Nat := fun id => ([], [])
def br16 : FuncId → Bool := fun (g : Nat) => ([71] : List Nat).any (Nat.beq g)
def ar16 : TypeId → Bool := fun (t : Nat) => ([88, 91, 97] : List Nat).any (Nat.beq t)
noncomputable def t16 {R : Type} (sh : Sh) (f21 : i21 → Option o21) (f43 : i43 → Option o43) (f44 : i44 → Option o44) (x1 : Int) (x2 : Int) (x3 : ByteArray) (k : o16 → Option R) : Option R :=
  (f21 (x1, x2, x3)).bind fun (r1 : Int × Int × ByteArray) =>
  bif Prod.fst r1 == (1 : Int) then
    (f43 (Prod.fst r1.2)).bind fun (r2 : ByteArray) =>
    k (r2)
  else
    bif Prod.fst r1 == (2 : Int) then
      (f44 (Prod.snd r1.2)).bind fun (r3 : ByteArray) =>
      k (r3)
    else
      k ({ data := #[(110 : UInt8), (117 : UInt8), (108 : UInt8), (108 : UInt8)] })
theorem t16_eq {R : Type} (sh : Sh) (hsh : ∀ {α R : Type} (x : α) (K : α → Option R), sh x K = K x) (f21 : i21 → Option o21) (f43 : i43 → Option o43) (f44 : i44 → Option o44) (x1 : Int) (x2 : Int) (x3 : ByteArray) (K : CSt → Option R) : bodyK Tryd.prog (tabO sh hsh br16 ar16 [ent21 f21, ent43 f43, ent44 f44]) (tabL []) ann16 false Tryd.f16 (enc16 (x1, x2, x3)) K = t16 sh f21 f43 f44 x1 x2 x3 (retK16 K) := by kernel_rfl
theorem t16_law {R : Type} (f21 : i21 → Option o21) (f43 : i43 → Option o43) (f44 : i44 → Option o44) (x1 : Int) (x2 : Int) (x3 : ByteArray) (K : o16 → Option R) : t16 sh0 f21 f43 f44 x1 x2 x3 K = (t16 sh0 f21 f43 f44 x1 x2 x3 some).bind K := by
  have key : ∀ (sh : Sh) (_ : ∀ {α R S : Type} (x : α) (f : α → Option R) (K : R → Option S), (sh x f).bind K = sh x fun y => (f y).bind K), t16 sh f21 f43 f44 x1 x2 x3 K = (t16 sh f21 f43 f44 x1 x2 x3 some).bind K := by
    intro sh hb
    simp only [t16, hb, cond_bind', two_bind, none_bind', Option.bind_assoc, Option.bind_some]
  exact key sh0 (fun _ _ _ => rfl)
theorem ok16 (f21 : i21 → Option o21) (f43 : i43 → Option o43) (f44 : i44 → Option o44) (hf21 : Sd21 f21) (hf43 : Sd43 f43) (hf44 : Sd44 f44) : Sd16 (fun a => t16 sh0 f21 f43 f44 a.1 a.2.1 a.2.2 some) := by
  intro a b h
  refine call_ok (sh := sh0) (hsh := fun _ _ => rfl) (br := br16) (ar := ar16) (own := false) Tryd.mixed Tryd.func16 (by kernel_rfl) (.cons (mkEnt_ok hf21) (.cons (mkEnt_ok hf43) (.cons (mkEnt_ok hf44) .nil))) (fun nt => .nil) ((t16_eq sh0 (fun _ _ => rfl) f21 f43 f44 a.1 a.2.1 a.2.2 _).trans ?_)
  rw [t16_law]
  simp only at h
  rw [h, Option.bind_some, retK16_eq]

end Go.Proofs.VaG
