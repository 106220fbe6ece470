/- Printed by a tool of mine: plain functions, their equations and contracts. -/
import Derived.Test.YtjmpecjcnmdnaaaE3
import Derived.Test.YtjmpecjcnmdnaaaChecked
import Derived.Eval
import Derived.KernelRfl
set_option linter.unusedVariables false
set_option linter.unusedSimpArgs false

namespace Go.Proofs.SmG
open Go Go.Ev
abbrev Rows := List (List DL)
theorem Try.mixed : Try.prog.follows .mixedOrders = true := Try.checked.mixed
/-! 78 erasure/digest.rotate -/
abbrev i78 : Type := Int × Int
def enc78 : i78 → CSt := fun a => ([Go.Ev.SV.one (Go.Ev.SL.d (Go.Ev.DL.int Go.IntKind.u64 a.1)), Go.Ev.SV.one (Go.Ev.SL.d (Go.Ev.DL.int Go.IntKind.u64 a.2))], [])
def dec78 : (c : CSt) → Option { a : i78 // c = enc78 a }
  | ([Go.Ev.SV.one (Go.Ev.SL.d (Go.Ev.DL.int Go.IntKind.u64 x1)), Go.Ev.SV.one (Go.Ev.SL.d (Go.Ev.DL.int Go.IntKind.u64 x2))], []) => some ⟨(x1, x2), rfl⟩
  | _ => none
abbrev o78 : Type := Int
def ret78 : o78 → CSt := fun b => ([Go.Ev.SV.one (Go.Ev.SL.d (Go.Ev.DL.int Go.IntKind.u64 b))], [])
def retK78 {R : Type} (K : CSt → Option R) : o78 → Option R := fun b => K (([Go.Ev.SV.one (Go.Ev.SL.d (Go.Ev.DL.int Go.IntKind.u64 b))], []))
theorem retK78_eq {R : Type} (K : CSt → Option R) (b : o78) : retK78 K b = K (ret78 b) := rfl
abbrev Sd78 (f : i78 → Option o78) : Prop := ∀ a b, f a = some b → CallOk Try.prog 78 (enc78 a) (ret78 b)
def ent78 (f : i78 → Option o78) : Ent := mkEnt 78 dec78 ret78 retK78 retK78_eq f
def ann78 : Nat → List Nat × List Nat := fun id => ([], [])
def br78 : FuncId → Bool := fun (g : Nat) => ([67, 72] : List Nat).any (Nat.beq g)
def ar78 : TypeId → Bool := fun (t : Nat) => ([24, 25, 79, 82] : List Nat).any (Nat.beq t)
noncomputable def t78 {R : Type} (sh : Sh) (x1 : Int) (x2 : Int) (k : o78 → Option R) : Option R :=
  bif Decidable.decide ((0 : Int) ≤ x2) then
    sh (Int.fdiv x1 ((2 : Int) ^ Min.min (Int.toNat x2) (64 : Nat))) fun y1 =>
    bif Decidable.decide ((0 : Int) ≤ Go.IntKind.wrap Go.IntKind.u64 ((64 : Int) - x2)) then
      sh (Go.IntKind.wrap Go.IntKind.u64 (x1 * (2 : Int) ^ Min.min (Int.toNat (Go.IntKind.wrap Go.IntKind.u64 ((64 : Int) - x2))) (64 : Nat))) fun y2 =>
      sh (Go.IntKind.wrap Go.IntKind.u64 (↑(BitVec.toNat (BitVec.ofInt (64 : Nat) y1 ||| BitVec.ofInt (64 : Nat) y2)) : Int)) fun y3 =>
      k (y3)
    else none
  else none
theorem t78_eq {R : Type} (sh : Sh) (hsh : ∀ {α R : Type} (x : α) (K : α → Option R), sh x K = K x) (x1 : Int) (x2 : Int) (K : CSt → Option R) : bodyK Try.prog (tabO sh hsh br78 ar78 []) (tabL []) ann78 false Try.f78 (enc78 (x1, x2)) K = t78 sh x1 x2 (retK78 K) := by kernel_rfl
theorem t78_law {R : Type} (x1 : Int) (x2 : Int) (K : o78 → Option R) : t78 sh0 x1 x2 K = (t78 sh0 x1 x2 some).bind K := by
  simp only [t78, sh0, cond_bind', two_bind, none_bind', Option.bind_assoc, Option.bind_some]
theorem ok78 : Sd78 (fun a => t78 sh0 a.1 a.2 some) := by
  intro a b h
  refine call_ok (sh := sh0) (hsh := fun _ _ => rfl) (br := br78) (ar := ar78) (own := false) Try.mixed Try.func78 (by kernel_rfl) .nil (fun nt => .nil) ((t78_eq sh0 (fun _ _ => rfl) a.1 a.2 _).trans ?_)
  rw [t78_law]
  simp only at h
  rw [h, Option.bind_some, retK78_eq]

/-! 74 erasure/digest.Permute -/
abbrev i74 : Type := Int × Int × Int × Int × Int
def enc74 : i74 → CSt := fun a => ([Go.Ev.SV.agg [Go.Ev.SL.d (Go.Ev.DL.int Go.IntKind.u64 a.1), Go.Ev.SL.d (Go.Ev.DL.int Go.IntKind.u64 a.2.1), Go.Ev.SL.d (Go.Ev.DL.int Go.IntKind.u64 a.2.2.1), Go.Ev.SL.d (Go.Ev.DL.int Go.IntKind.u64 a.2.2.2.1), Go.Ev.SL.d (Go.Ev.DL.int Go.IntKind.u64 a.2.2.2.2)]], [])
def dec74 : (c : CSt) → Option { a : i74 // c = enc74 a }
  | ([Go.Ev.SV.agg [Go.Ev.SL.d (Go.Ev.DL.int Go.IntKind.u64 x1), Go.Ev.SL.d (Go.Ev.DL.int Go.IntKind.u64 x2), Go.Ev.SL.d (Go.Ev.DL.int Go.IntKind.u64 x3), Go.Ev.SL.d (Go.Ev.DL.int Go.IntKind.u64 x4), Go.Ev.SL.d (Go.Ev.DL.int Go.IntKind.u64 x5)]], []) => some ⟨(x1, x2, x3, x4, x5), rfl⟩
  | _ => none
abbrev o74 : Type := Int × Int × Int × Int × Int
def ret74 : o74 → CSt := fun b => ([Go.Ev.SV.agg [Go.Ev.SL.d (Go.Ev.DL.int Go.IntKind.u64 b.1), Go.Ev.SL.d (Go.Ev.DL.int Go.IntKind.u64 b.2.1), Go.Ev.SL.d (Go.Ev.DL.int Go.IntKind.u64 b.2.2.1), Go.Ev.SL.d (Go.Ev.DL.int Go.IntKind.u64 b.2.2.2.1), Go.Ev.SL.d (Go.Ev.DL.int Go.IntKind.u64 b.2.2.2.2)]], [])
def retK74 {R : Type} (K : CSt → Option R) : o74 → Option R := fun b => K (([Go.Ev.SV.agg [Go.Ev.SL.d (Go.Ev.DL.int Go.IntKind.u64 b.1), Go.Ev.SL.d (Go.Ev.DL.int Go.IntKind.u64 b.2.1), Go.Ev.SL.d (Go.Ev.DL.int Go.IntKind.u64 b.2.2.1), Go.Ev.SL.d (Go.Ev.DL.int Go.IntKind.u64 b.2.2.2.1), Go.Ev.SL.d (Go.Ev.DL.int Go.IntKind.u64 b.2.2.2.2)]], []))
theorem retK74_eq {R : Type} (K : CSt → Option R) (b : o74) : retK74 K b = K (ret74 b) := rfl
abbrev Sd74 (f : i74 → Option o74) : Prop := ∀ a b, f a = some b → CallOk Try.prog 74 (enc74 a) (ret74 b)
def ent74 (f : i74 → Option o74) : Ent := mkEnt 74 dec74 ret74 retK74 retK74_eq f
def ann74 : Nat → List Nat × List Nat := fun id => bif Nat.beq id 2 then ([1, 2, 3], [1, 2]) else bif Nat.beq id 10 then ([1, 2, 3, 4, 5], [1, 2, 3, 4]) else bif Nat.beq id 14 then ([1, 2, 3, 4, 6], [1, 2, 3]) else bif Nat.beq id 1000010 then ([0, 0, 0, 0, 0, 0], []) else bif Nat.beq id 1000014 then ([0, 0, 0, 0, 0, 0], []) else ([], [])
def br74 : FuncId → Bool := fun (g : Nat) => ([67, 72] : List Nat).any (Nat.beq g)
def ar74 : TypeId → Bool := fun (t : Nat) => ([24, 25, 79, 82] : List Nat).any (Nat.beq t)
abbrev iL74_2 : Type := Int × Int × Int × Int × Int × Int × Int × Int × Int × Int × Int
def encL74_2 : iL74_2 → CSt := fun a => ([Go.Ev.SV.one (Go.Ev.SL.ptr (0 : Nat) (0 : Nat)), Go.Ev.SV.one (Go.Ev.SL.ptr (1 : Nat) (0 : Nat)), Go.Ev.SV.one (Go.Ev.SL.d (Go.Ev.DL.int Go.IntKind.u64 a.1))], [Go.Ev.Obj.box (74 : Nat) [Go.Ev.SL.d (Go.Ev.DL.int Go.IntKind.u64 a.2.1), Go.Ev.SL.d (Go.Ev.DL.int Go.IntKind.u64 a.2.2.1), Go.Ev.SL.d (Go.Ev.DL.int Go.IntKind.u64 a.2.2.2.1), Go.Ev.SL.d (Go.Ev.DL.int Go.IntKind.u64 a.2.2.2.2.1), Go.Ev.SL.d (Go.Ev.DL.int Go.IntKind.u64 a.2.2.2.2.2.1)], Go.Ev.Obj.box (74 : Nat) [Go.Ev.SL.d (Go.Ev.DL.int Go.IntKind.u64 a.2.2.2.2.2.2.1), Go.Ev.SL.d (Go.Ev.DL.int Go.IntKind.u64 a.2.2.2.2.2.2.2.1), Go.Ev.SL.d (Go.Ev.DL.int Go.IntKind.u64 a.2.2.2.2.2.2.2.2.1), Go.Ev.SL.d (Go.Ev.DL.int Go.IntKind.u64 a.2.2.2.2.2.2.2.2.2.1), Go.Ev.SL.d (Go.Ev.DL.int Go.IntKind.u64 a.2.2.2.2.2.2.2.2.2.2)]])
def decL74_2 : (c : CSt) → Option { a : iL74_2 // c = encL74_2 a }
  | ([Go.Ev.SV.one (Go.Ev.SL.ptr (0 : Nat) (0 : Nat)), Go.Ev.SV.one (Go.Ev.SL.ptr (1 : Nat) (0 : Nat)), Go.Ev.SV.one (Go.Ev.SL.d (Go.Ev.DL.int Go.IntKind.u64 x1))], [Go.Ev.Obj.box (74 : Nat) [Go.Ev.SL.d (Go.Ev.DL.int Go.IntKind.u64 x2), Go.Ev.SL.d (Go.Ev.DL.int Go.IntKind.u64 x3), Go.Ev.SL.d (Go.Ev.DL.int Go.IntKind.u64 x4), Go.Ev.SL.d (Go.Ev.DL.int Go.IntKind.u64 x5), Go.Ev.SL.d (Go.Ev.DL.int Go.IntKind.u64 x6)], Go.Ev.Obj.box (74 : Nat) [Go.Ev.SL.d (Go.Ev.DL.int Go.IntKind.u64 x7), Go.Ev.SL.d (Go.Ev.DL.int Go.IntKind.u64 x8), Go.Ev.SL.d (Go.Ev.DL.int Go.IntKind.u64 x9), Go.Ev.SL.d (Go.Ev.DL.int Go.IntKind.u64 x10), Go.Ev.SL.d (Go.Ev.DL.int Go.IntKind.u64 x11)]]) => some ⟨(x1, x2, x3, x4, x5, x6, x7, x8, x9, x10, x11), rfl⟩
  | _ => none
abbrev oL74_2 : Type := Int × Int × Int × Int × Int × Int × Int × Int × Int × Int
def retL74_2 : oL74_2 → Ex × CSt := fun b => (Go.Ev.Ex.exit (0 : Nat), ([Go.Ev.SV.one (Go.Ev.SL.ptr (0 : Nat) (0 : Nat)), Go.Ev.SV.one (Go.Ev.SL.ptr (1 : Nat) (0 : Nat))], [Go.Ev.Obj.box (74 : Nat) [Go.Ev.SL.d (Go.Ev.DL.int Go.IntKind.u64 b.1), Go.Ev.SL.d (Go.Ev.DL.int Go.IntKind.u64 b.2.1), Go.Ev.SL.d (Go.Ev.DL.int Go.IntKind.u64 b.2.2.1), Go.Ev.SL.d (Go.Ev.DL.int Go.IntKind.u64 b.2.2.2.1), Go.Ev.SL.d (Go.Ev.DL.int Go.IntKind.u64 b.2.2.2.2.1)], Go.Ev.Obj.box (74 : Nat) [Go.Ev.SL.d (Go.Ev.DL.int Go.IntKind.u64 b.2.2.2.2.2.1), Go.Ev.SL.d (Go.Ev.DL.int Go.IntKind.u64 b.2.2.2.2.2.2.1), Go.Ev.SL.d (Go.Ev.DL.int Go.IntKind.u64 b.2.2.2.2.2.2.2.1), Go.Ev.SL.d (Go.Ev.DL.int Go.IntKind.u64 b.2.2.2.2.2.2.2.2.1), Go.Ev.SL.d (Go.Ev.DL.int Go.IntKind.u64 b.2.2.2.2.2.2.2.2.2)]]))
def retKL74_2 {R : Type} (K : Ex → CSt → Option R) : oL74_2 → Option R := fun b => K (Go.Ev.Ex.exit (0 : Nat)) (([Go.Ev.SV.one (Go.Ev.SL.ptr (0 : Nat) (0 : Nat)), Go.Ev.SV.one (Go.Ev.SL.ptr (1 : Nat) (0 : Nat))], [Go.Ev.Obj.box (74 : Nat) [Go.Ev.SL.d (Go.Ev.DL.int Go.IntKind.u64 b.1), Go.Ev.SL.d (Go.Ev.DL.int Go.IntKind.u64 b.2.1), Go.Ev.SL.d (Go.Ev.DL.int Go.IntKind.u64 b.2.2.1), Go.Ev.SL.d (Go.Ev.DL.int Go.IntKind.u64 b.2.2.2.1), Go.Ev.SL.d (Go.Ev.DL.int Go.IntKind.u64 b.2.2.2.2.1)], Go.Ev.Obj.box (74 : Nat) [Go.Ev.SL.d (Go.Ev.DL.int Go.IntKind.u64 b.2.2.2.2.2.1), Go.Ev.SL.d (Go.Ev.DL.int Go.IntKind.u64 b.2.2.2.2.2.2.1), Go.Ev.SL.d (Go.Ev.DL.int Go.IntKind.u64 b.2.2.2.2.2.2.2.1), Go.Ev.SL.d (Go.Ev.DL.int Go.IntKind.u64 b.2.2.2.2.2.2.2.2.1), Go.Ev.SL.d (Go.Ev.DL.int Go.IntKind.u64 b.2.2.2.2.2.2.2.2.2)]]))
theorem retKL74_2_eq {R : Type} (K : Ex → CSt → Option R) (b : oL74_2) : retKL74_2 K b = K (retL74_2 b).1 (retL74_2 b).2 := rfl
def entL74_2 (l : iL74_2 → Option oL74_2) : LEnt := mkLEnt 2 decL74_2 retL74_2 retKL74_2 retKL74_2_eq l
abbrev SdL74_2 (l : iL74_2 → Option oL74_2) : Prop := ∀ nt a b, l a = some b → LoopAt Try.prog nt 0 ann74 Try.f74 2 (encL74_2 a) (retL74_2 b)
noncomputable def u74_2 {R : Type} (sh : Sh) (f78 : i78 → Option o78) (l74_2 : iL74_2 → Option oL74_2) (x1 : Int) (x2 : Int) (x3 : Int) (x4 : Int) (x5 : Int) (x6 : Int) (x7 : Int) (x8 : Int) (x9 : Int) (x10 : Int) (x11 : Int) (k : oL74_2 → Option R) : Option R :=
  bif Decidable.decide (x1 < (12 : Int)) then
    sh (Go.IntKind.wrap Go.IntKind.u64 (↑(BitVec.toNat (BitVec.ofInt (64 : Nat) x4 ^^^ BitVec.ofInt (64 : Nat) (Go.IntKind.wrap Go.IntKind.u64 ((240 : Int) - Go.IntKind.wrap Go.IntKind.u64 ((15 : Int) * x1))))) : Int)) fun y1 =>
    sh (Go.IntKind.wrap Go.IntKind.u64 (↑(BitVec.toNat (BitVec.ofInt (64 : Nat) x2 ^^^ BitVec.ofInt (64 : Nat) x6)) : Int)) fun y2 =>
    sh (Go.IntKind.wrap Go.IntKind.u64 (↑(BitVec.toNat (BitVec.ofInt (64 : Nat) x6 ^^^ BitVec.ofInt (64 : Nat) x5)) : Int)) fun y3 =>
    sh (Go.IntKind.wrap Go.IntKind.u64 (↑(BitVec.toNat (BitVec.ofInt (64 : Nat) y1 ^^^ BitVec.ofInt (64 : Nat) x3)) : Int)) fun y4 =>
    sh (Go.IntKind.wrap Go.IntKind.u64 (↑(BitVec.toNat (BitVec.ofInt (64 : Nat) (18446744073709551615 : Int) ^^^ BitVec.ofInt (64 : Nat) y2)) : Int)) fun y5 =>
    sh (Go.IntKind.wrap Go.IntKind.u64 (↑(BitVec.toNat (BitVec.ofInt (64 : Nat) y5 &&& BitVec.ofInt (64 : Nat) x3)) : Int)) fun y6 =>
    sh (Go.IntKind.wrap Go.IntKind.u64 (↑(BitVec.toNat (BitVec.ofInt (64 : Nat) (18446744073709551615 : Int) ^^^ BitVec.ofInt (64 : Nat) x3)) : Int)) fun y7 =>
    sh (Go.IntKind.wrap Go.IntKind.u64 (↑(BitVec.toNat (BitVec.ofInt (64 : Nat) y7 &&& BitVec.ofInt (64 : Nat) y4)) : Int)) fun y8 =>
    sh (Go.IntKind.wrap Go.IntKind.u64 (↑(BitVec.toNat (BitVec.ofInt (64 : Nat) (18446744073709551615 : Int) ^^^ BitVec.ofInt (64 : Nat) y4)) : Int)) fun y9 =>
    sh (Go.IntKind.wrap Go.IntKind.u64 (↑(BitVec.toNat (BitVec.ofInt (64 : Nat) y9 &&& BitVec.ofInt (64 : Nat) x5)) : Int)) fun y10 =>
    sh (Go.IntKind.wrap Go.IntKind.u64 (↑(BitVec.toNat (BitVec.ofInt (64 : Nat) (18446744073709551615 : Int) ^^^ BitVec.ofInt (64 : Nat) x5)) : Int)) fun y11 =>
    sh (Go.IntKind.wrap Go.IntKind.u64 (↑(BitVec.toNat (BitVec.ofInt (64 : Nat) y11 &&& BitVec.ofInt (64 : Nat) y3)) : Int)) fun y12 =>
    sh (Go.IntKind.wrap Go.IntKind.u64 (↑(BitVec.toNat (BitVec.ofInt (64 : Nat) (18446744073709551615 : Int) ^^^ BitVec.ofInt (64 : Nat) y3)) : Int)) fun y13 =>
    sh (Go.IntKind.wrap Go.IntKind.u64 (↑(BitVec.toNat (BitVec.ofInt (64 : Nat) y13 &&& BitVec.ofInt (64 : Nat) y2)) : Int)) fun y14 =>
    sh (Go.IntKind.wrap Go.IntKind.u64 (↑(BitVec.toNat (BitVec.ofInt (64 : Nat) y2 ^^^ BitVec.ofInt (64 : Nat) y8)) : Int)) fun y15 =>
    sh (Go.IntKind.wrap Go.IntKind.u64 (↑(BitVec.toNat (BitVec.ofInt (64 : Nat) x3 ^^^ BitVec.ofInt (64 : Nat) y10)) : Int)) fun y16 =>
    sh (Go.IntKind.wrap Go.IntKind.u64 (↑(BitVec.toNat (BitVec.ofInt (64 : Nat) y4 ^^^ BitVec.ofInt (64 : Nat) y12)) : Int)) fun y17 =>
    sh (Go.IntKind.wrap Go.IntKind.u64 (↑(BitVec.toNat (BitVec.ofInt (64 : Nat) x5 ^^^ BitVec.ofInt (64 : Nat) y14)) : Int)) fun y18 =>
    sh (Go.IntKind.wrap Go.IntKind.u64 (↑(BitVec.toNat (BitVec.ofInt (64 : Nat) y3 ^^^ BitVec.ofInt (64 : Nat) y6)) : Int)) fun y19 =>
    sh (Go.IntKind.wrap Go.IntKind.u64 (↑(BitVec.toNat (BitVec.ofInt (64 : Nat) y16 ^^^ BitVec.ofInt (64 : Nat) y15)) : Int)) fun y20 =>
    sh (Go.IntKind.wrap Go.IntKind.u64 (↑(BitVec.toNat (BitVec.ofInt (64 : Nat) y15 ^^^ BitVec.ofInt (64 : Nat) y19)) : Int)) fun y21 =>
    sh (Go.IntKind.wrap Go.IntKind.u64 (↑(BitVec.toNat (BitVec.ofInt (64 : Nat) y18 ^^^ BitVec.ofInt (64 : Nat) y17)) : Int)) fun y22 =>
    sh (Go.IntKind.wrap Go.IntKind.u64 (↑(BitVec.toNat (BitVec.ofInt (64 : Nat) (18446744073709551615 : Int) ^^^ BitVec.ofInt (64 : Nat) y17)) : Int)) fun y23 =>
    (f78 (y21, (19 : Int))).bind fun (r24 : Int) =>
    (f78 (y21, (28 : Int))).bind fun (r25 : Int) =>
    sh (Go.IntKind.wrap Go.IntKind.u64 (↑(BitVec.toNat (BitVec.ofInt (64 : Nat) r24 ^^^ BitVec.ofInt (64 : Nat) r25)) : Int)) fun y26 =>
    sh (Go.IntKind.wrap Go.IntKind.u64 (↑(BitVec.toNat (BitVec.ofInt (64 : Nat) y21 ^^^ BitVec.ofInt (64 : Nat) y26)) : Int)) fun y27 =>
    (f78 (y20, (61 : Int))).bind fun (r28 : Int) =>
    (f78 (y20, (39 : Int))).bind fun (r29 : Int) =>
    sh (Go.IntKind.wrap Go.IntKind.u64 (↑(BitVec.toNat (BitVec.ofInt (64 : Nat) r28 ^^^ BitVec.ofInt (64 : Nat) r29)) : Int)) fun y30 =>
    sh (Go.IntKind.wrap Go.IntKind.u64 (↑(BitVec.toNat (BitVec.ofInt (64 : Nat) y20 ^^^ BitVec.ofInt (64 : Nat) y30)) : Int)) fun y31 =>
    (f78 (y23, (1 : Int))).bind fun (r32 : Int) =>
    (f78 (y23, (6 : Int))).bind fun (r33 : Int) =>
    sh (Go.IntKind.wrap Go.IntKind.u64 (↑(BitVec.toNat (BitVec.ofInt (64 : Nat) r32 ^^^ BitVec.ofInt (64 : Nat) r33)) : Int)) fun y34 =>
    sh (Go.IntKind.wrap Go.IntKind.u64 (↑(BitVec.toNat (BitVec.ofInt (64 : Nat) y23 ^^^ BitVec.ofInt (64 : Nat) y34)) : Int)) fun y35 =>
    (f78 (y22, (10 : Int))).bind fun (r36 : Int) =>
    (f78 (y22, (17 : Int))).bind fun (r37 : Int) =>
    sh (Go.IntKind.wrap Go.IntKind.u64 (↑(BitVec.toNat (BitVec.ofInt (64 : Nat) r36 ^^^ BitVec.ofInt (64 : Nat) r37)) : Int)) fun y38 =>
    sh (Go.IntKind.wrap Go.IntKind.u64 (↑(BitVec.toNat (BitVec.ofInt (64 : Nat) y22 ^^^ BitVec.ofInt (64 : Nat) y38)) : Int)) fun y39 =>
    (f78 (y19, (7 : Int))).bind fun (r40 : Int) =>
    (f78 (y19, (41 : Int))).bind fun (r41 : Int) =>
    sh (Go.IntKind.wrap Go.IntKind.u64 (↑(BitVec.toNat (BitVec.ofInt (64 : Nat) r40 ^^^ BitVec.ofInt (64 : Nat) r41)) : Int)) fun y42 =>
    sh (Go.IntKind.wrap Go.IntKind.u64 (↑(BitVec.toNat (BitVec.ofInt (64 : Nat) y19 ^^^ BitVec.ofInt (64 : Nat) y42)) : Int)) fun y43 =>
    (l74_2 (Go.IntKind.wrap Go.IntKind.u64 (x1 + (1 : Int)), y27, y31, y35, y39, y43, x7, x8, x9, x10, x11)).bind k
  else
    k ((x2, x3, x4, x5, x6, x7, x8, x9, x10, x11))
theorem u74_2_eq {R : Type} (sh : Sh) (hsh : ∀ {α R : Type} (x : α) (K : α → Option R), sh x K = K x) (f78 : i78 → Option o78) (l74_2 : iL74_2 → Option oL74_2) (x1 : Int) (x2 : Int) (x3 : Int) (x4 : Int) (x5 : Int) (x6 : Int) (x7 : Int) (x8 : Int) (x9 : Int) (x10 : Int) (x11 : Int) (K : Ex → CSt → Option R) : roundK Try.prog (tabO sh hsh br74 ar74 [ent78 f78]) (tabL [entL74_2 l74_2]) ann74 0 Try.f74 2 (encL74_2 (x1, x2, x3, x4, x5, x6, x7, x8, x9, x10, x11)) K = u74_2 sh f78 l74_2 x1 x2 x3 x4 x5 x6 x7 x8 x9 x10 x11 (retKL74_2 K) := by kernel_rfl
theorem u74_2_law {R : Type} (f78 : i78 → Option o78) (l74_2 : iL74_2 → Option oL74_2) (x1 : Int) (x2 : Int) (x3 : Int) (x4 : Int) (x5 : Int) (x6 : Int) (x7 : Int) (x8 : Int) (x9 : Int) (x10 : Int) (x11 : Int) (K : oL74_2 → Option R) : u74_2 sh0 f78 l74_2 x1 x2 x3 x4 x5 x6 x7 x8 x9 x10 x11 K = (u74_2 sh0 f78 l74_2 x1 x2 x3 x4 x5 x6 x7 x8 x9 x10 x11 some).bind K := by
  simp only [u74_2, sh0, cond_bind', two_bind, none_bind', Option.bind_assoc, Option.bind_some]
theorem okL74_2 (f78 : i78 → Option o78) (l74_2 : iL74_2 → Option oL74_2) (hf78 : Sd78 f78) (hl74_2 : SdL74_2 l74_2) : SdL74_2 (fun a => u74_2 sh0 f78 l74_2 a.1 a.2.1 a.2.2.1 a.2.2.2.1 a.2.2.2.2.1 a.2.2.2.2.2.1 a.2.2.2.2.2.2.1 a.2.2.2.2.2.2.2.1 a.2.2.2.2.2.2.2.2.1 a.2.2.2.2.2.2.2.2.2.1 a.2.2.2.2.2.2.2.2.2.2 some) := by
  intro nt a b h
  refine round_ok (sh := sh0) (hsh := fun _ _ => rfl) (br := br74) (ar := ar74) Try.mixed (by kernel_rfl) (.cons (mkEnt_ok hf78) .nil) (.cons (mkLEnt_ok (hl74_2 nt)) .nil) ((u74_2_eq sh0 (fun _ _ => rfl) f78 l74_2  a.1 a.2.1 a.2.2.1 a.2.2.2.1 a.2.2.2.2.1 a.2.2.2.2.2.1 a.2.2.2.2.2.2.1 a.2.2.2.2.2.2.2.1 a.2.2.2.2.2.2.2.2.1 a.2.2.2.2.2.2.2.2.2.1 a.2.2.2.2.2.2.2.2.2.2 _).trans ?_)
  rw [u74_2_law]
  simp only at h
  rw [h, Option.bind_some, retKL74_2_eq]
noncomputable def t74 {R : Type} (sh : Sh) (l74_2 : iL74_2 → Option oL74_2) (x1 : Int) (x2 : Int) (x3 : Int) (x4 : Int) (x5 : Int) (k : o74 → Option R) : Option R :=
  (l74_2 ((0 : Int), x1, x2, x3, x4, x5, (0 : Int), (0 : Int), (0 : Int), (0 : Int), (0 : Int))).bind fun (r44 : Int × Int × Int × Int × Int × Int × Int × Int × Int × Int) =>
  k ((Prod.fst r44, Prod.fst r44.2, Prod.fst (Prod.snd r44).2, Prod.fst (Prod.snd (Prod.snd r44)).2, Prod.fst (Prod.snd (Prod.snd (Prod.snd r44))).2))
theorem t74_eq {R : Type} (sh : Sh) (hsh : ∀ {α R : Type} (x : α) (K : α → Option R), sh x K = K x) (l74_2 : iL74_2 → Option oL74_2) (x1 : Int) (x2 : Int) (x3 : Int) (x4 : Int) (x5 : Int) (K : CSt → Option R) : bodyK Try.prog (tabO sh hsh br74 ar74 []) (tabL [entL74_2 l74_2]) ann74 false Try.f74 (enc74 (x1, x2, x3, x4, x5)) K = t74 sh l74_2 x1 x2 x3 x4 x5 (retK74 K) := by kernel_rfl
theorem t74_law {R : Type} (l74_2 : iL74_2 → Option oL74_2) (x1 : Int) (x2 : Int) (x3 : Int) (x4 : Int) (x5 : Int) (K : o74 → Option R) : t74 sh0 l74_2 x1 x2 x3 x4 x5 K = (t74 sh0 l74_2 x1 x2 x3 x4 x5 some).bind K := by
  simp only [t74, sh0, cond_bind', two_bind, none_bind', Option.bind_assoc, Option.bind_some]
theorem ok74 (l74_2 : iL74_2 → Option oL74_2) (hl74_2 : SdL74_2 l74_2) : Sd74 (fun a => t74 sh0 l74_2 a.1 a.2.1 a.2.2.1 a.2.2.2.1 a.2.2.2.2 some) := by
  intro a b h
  refine call_ok (sh := sh0) (hsh := fun _ _ => rfl) (br := br74) (ar := ar74) (own := false) Try.mixed Try.func74 (by kernel_rfl) .nil (fun nt => (.cons (mkLEnt_ok (hl74_2 nt)) .nil)) ((t74_eq sh0 (fun _ _ => rfl) l74_2 a.1 a.2.1 a.2.2.1 a.2.2.2.1 a.2.2.2.2 _).trans ?_)
  rw [t74_law]
  simp only at h
  rw [h, Option.bind_some, retK74_eq]

/-! 75 erasure/digest.group -/
abbrev i75 : Type := Rows
def enc75 : i75 → CSt := fun a => ([Go.Ev.SV.one (Go.Ev.SL.d (Go.Ev.DL.lst (5 : Nat) a))], [])
def dec75 : (c : CSt) → Option { a : i75 // c = enc75 a }
  | ([Go.Ev.SV.one (Go.Ev.SL.d (Go.Ev.DL.lst (5 : Nat) x1))], []) => some ⟨x1, rfl⟩
  | _ => none
abbrev o75 : Type := Int
def ret75 : o75 → CSt := fun b => ([Go.Ev.SV.one (Go.Ev.SL.d (Go.Ev.DL.int Go.IntKind.u64 b))], [])
def retK75 {R : Type} (K : CSt → Option R) : o75 → Option R := fun b => K (([Go.Ev.SV.one (Go.Ev.SL.d (Go.Ev.DL.int Go.IntKind.u64 b))], []))
theorem retK75_eq {R : Type} (K : CSt → Option R) (b : o75) : retK75 K b = K (ret75 b) := rfl
abbrev Sd75 (f : i75 → Option o75) : Prop := ∀ a b, f a = some b → CallOk Try.prog 75 (enc75 a) (ret75 b)
def ent75 (f : i75 → Option o75) : Ent := mkEnt 75 dec75 ret75 retK75 retK75_eq f
def ann75 : Nat → List Nat × List Nat := fun id => bif Nat.beq id 3 then ([0, 3, 4], [3]) else ([], [])
def br75 : FuncId → Bool := fun (g : Nat) => ([67, 72] : List Nat).any (Nat.beq g)
def ar75 : TypeId → Bool := fun (t : Nat) => ([24, 25, 79, 82] : List Nat).any (Nat.beq t)
abbrev iL75_3 : Type := Rows × Int × Int
def encL75_3 : iL75_3 → CSt := fun a => ([Go.Ev.SV.one (Go.Ev.SL.d (Go.Ev.DL.lst (5 : Nat) a.1)), Go.Ev.SV.one (Go.Ev.SL.d (Go.Ev.DL.int Go.IntKind.u64 a.2.1)), Go.Ev.SV.one (Go.Ev.SL.d (Go.Ev.DL.int Go.IntKind.i64 a.2.2))], [])
def decL75_3 : (c : CSt) → Option { a : iL75_3 // c = encL75_3 a }
  | ([Go.Ev.SV.one (Go.Ev.SL.d (Go.Ev.DL.lst (5 : Nat) x1)), Go.Ev.SV.one (Go.Ev.SL.d (Go.Ev.DL.int Go.IntKind.u64 x2)), Go.Ev.SV.one (Go.Ev.SL.d (Go.Ev.DL.int Go.IntKind.i64 x3))], []) => some ⟨(x1, x2, x3), rfl⟩
  | _ => none
abbrev oL75_3 : Type := Int
def retL75_3 : oL75_3 → Ex × CSt := fun b => (Go.Ev.Ex.exit (0 : Nat), ([Go.Ev.SV.one (Go.Ev.SL.d (Go.Ev.DL.int Go.IntKind.u64 b))], []))
def retKL75_3 {R : Type} (K : Ex → CSt → Option R) : oL75_3 → Option R := fun b => K (Go.Ev.Ex.exit (0 : Nat)) (([Go.Ev.SV.one (Go.Ev.SL.d (Go.Ev.DL.int Go.IntKind.u64 b))], []))
theorem retKL75_3_eq {R : Type} (K : Ex → CSt → Option R) (b : oL75_3) : retKL75_3 K b = K (retL75_3 b).1 (retL75_3 b).2 := rfl
def entL75_3 (l : iL75_3 → Option oL75_3) : LEnt := mkLEnt 3 decL75_3 retL75_3 retKL75_3 retKL75_3_eq l
abbrev SdL75_3 (l : iL75_3 → Option oL75_3) : Prop := ∀ nt a b, l a = some b → LoopAt Try.prog nt 0 ann75 Try.f75 3 (encL75_3 a) (retL75_3 b)
noncomputable def u75_3 {R : Type} (sh : Sh) (l75_3 : iL75_3 → Option oL75_3) (x1 : Rows) (x2 : Int) (x3 : Int) (k : oL75_3 → Option R) : Option R :=
  bif Decidable.decide (x3 ≥ (0 : Int)) then
    bif Decidable.decide ((0 : Int) ≤ x3 ∧ x3 < (↑(List.length x1) : Int)) then
      sh (Go.Ev.DL.getI (Go.Ev.cellAt x1 (Int.toNat x3) (0 : Nat))) fun y1 =>
      sh (Go.IntKind.wrap Go.IntKind.u64 (↑(BitVec.toNat (BitVec.ofInt (64 : Nat) (Go.IntKind.wrap Go.IntKind.u64 (x2 * (256 : Int))) ||| BitVec.ofInt (64 : Nat) (Go.IntKind.wrap Go.IntKind.u64 y1))) : Int)) fun y2 =>
      (l75_3 (x1, y2, Go.IntKind.wrap Go.IntKind.i64 (x3 - (1 : Int)))).bind k
    else none
  else
    k (x2)
theorem u75_3_eq {R : Type} (sh : Sh) (hsh : ∀ {α R : Type} (x : α) (K : α → Option R), sh x K = K x) (l75_3 : iL75_3 → Option oL75_3) (x1 : Rows) (x2 : Int) (x3 : Int) (K : Ex → CSt → Option R) : roundK Try.prog (tabO sh hsh br75 ar75 []) (tabL [entL75_3 l75_3]) ann75 0 Try.f75 3 (encL75_3 (x1, x2, x3)) K = u75_3 sh l75_3 x1 x2 x3 (retKL75_3 K) := by kernel_rfl
theorem u75_3_law {R : Type} (l75_3 : iL75_3 → Option oL75_3) (x1 : Rows) (x2 : Int) (x3 : Int) (K : oL75_3 → Option R) : u75_3 sh0 l75_3 x1 x2 x3 K = (u75_3 sh0 l75_3 x1 x2 x3 some).bind K := by
  simp only [u75_3, sh0, cond_bind', two_bind, none_bind', Option.bind_assoc, Option.bind_some]
theorem okL75_3 (l75_3 : iL75_3 → Option oL75_3) (hl75_3 : SdL75_3 l75_3) : SdL75_3 (fun a => u75_3 sh0 l75_3 a.1 a.2.1 a.2.2 some) := by
  intro nt a b h
  refine round_ok (sh := sh0) (hsh := fun _ _ => rfl) (br := br75) (ar := ar75) Try.mixed (by kernel_rfl) .nil (.cons (mkLEnt_ok (hl75_3 nt)) .nil) ((u75_3_eq sh0 (fun _ _ => rfl) l75_3  a.1 a.2.1 a.2.2 _).trans ?_)
  rw [u75_3_law]
  simp only at h
  rw [h, Option.bind_some, retKL75_3_eq]
noncomputable def t75 {R : Type} (sh : Sh) (l75_3 : iL75_3 → Option oL75_3) (x1 : Rows) (k : o75 → Option R) : Option R :=
  (l75_3 (x1, (0 : Int), (7 : Int))).bind fun (r3 : Int) =>
  k (r3)
theorem t75_eq {R : Type} (sh : Sh) (hsh : ∀ {α R : Type} (x : α) (K : α → Option R), sh x K = K x) (l75_3 : iL75_3 → Option oL75_3) (x1 : Rows) (K : CSt → Option R) : bodyK Try.prog (tabO sh hsh br75 ar75 []) (tabL [entL75_3 l75_3]) ann75 false Try.f75 (enc75 x1) K = t75 sh l75_3 x1 (retK75 K) := by kernel_rfl
theorem t75_law {R : Type} (l75_3 : iL75_3 → Option oL75_3) (x1 : Rows) (K : o75 → Option R) : t75 sh0 l75_3 x1 K = (t75 sh0 l75_3 x1 some).bind K := by
  simp only [t75, sh0, cond_bind', two_bind, none_bind', Option.bind_assoc, Option.bind_some]
theorem ok75 (l75_3 : iL75_3 → Option oL75_3) (hl75_3 : SdL75_3 l75_3) : Sd75 (fun a => t75 sh0 l75_3 a some) := by
  intro a b h
  refine call_ok (sh := sh0) (hsh := fun _ _ => rfl) (br := br75) (ar := ar75) (own := false) Try.mixed Try.func75 (by kernel_rfl) .nil (fun nt => (.cons (mkLEnt_ok (hl75_3 nt)) .nil)) ((t75_eq sh0 (fun _ _ => rfl) l75_3 a _).trans ?_)
  rw [t75_law]
  simp only at h
  rw [h, Option.bind_some, retK75_eq]

/-! 68 erasure/digest.absorb -/
abbrev i68 : Type := Int × Rows
def enc68 : i68 → CSt := fun a => ([Go.Ev.SV.one (Go.Ev.SL.d (Go.Ev.DL.int Go.IntKind.u64 a.1)), Go.Ev.SV.one (Go.Ev.SL.d (Go.Ev.DL.lst (5 : Nat) a.2))], [])
def dec68 : (c : CSt) → Option { a : i68 // c = enc68 a }
  | ([Go.Ev.SV.one (Go.Ev.SL.d (Go.Ev.DL.int Go.IntKind.u64 x1)), Go.Ev.SV.one (Go.Ev.SL.d (Go.Ev.DL.lst (5 : Nat) x2))], []) => some ⟨(x1, x2), rfl⟩
  | _ => none
abbrev o68 : Type := Int × Int × Int × Int × Int
def ret68 : o68 → CSt := fun b => ([Go.Ev.SV.agg [Go.Ev.SL.d (Go.Ev.DL.int Go.IntKind.u64 b.1), Go.Ev.SL.d (Go.Ev.DL.int Go.IntKind.u64 b.2.1), Go.Ev.SL.d (Go.Ev.DL.int Go.IntKind.u64 b.2.2.1), Go.Ev.SL.d (Go.Ev.DL.int Go.IntKind.u64 b.2.2.2.1), Go.Ev.SL.d (Go.Ev.DL.int Go.IntKind.u64 b.2.2.2.2)]], [])
def retK68 {R : Type} (K : CSt → Option R) : o68 → Option R := fun b => K (([Go.Ev.SV.agg [Go.Ev.SL.d (Go.Ev.DL.int Go.IntKind.u64 b.1), Go.Ev.SL.d (Go.Ev.DL.int Go.IntKind.u64 b.2.1), Go.Ev.SL.d (Go.Ev.DL.int Go.IntKind.u64 b.2.2.1), Go.Ev.SL.d (Go.Ev.DL.int Go.IntKind.u64 b.2.2.2.1), Go.Ev.SL.d (Go.Ev.DL.int Go.IntKind.u64 b.2.2.2.2)]], []))
theorem retK68_eq {R : Type} (K : CSt → Option R) (b : o68) : retK68 K b = K (ret68 b) := rfl
abbrev Sd68 (f : i68 → Option o68) : Prop := ∀ a b, f a = some b → CallOk Try.prog 68 (enc68 a) (ret68 b)
def ent68 (f : i68 → Option o68) : Ent := mkEnt 68 dec68 ret68 retK68 retK68_eq f
def ann68 : Nat → List Nat × List Nat := fun id => bif Nat.beq id 4 then ([1, 4, 5, 6, 7], [1, 4, 5, 6]) else ([], [])
def br68 : FuncId → Bool := fun (g : Nat) => ([67, 72] : List Nat).any (Nat.beq g)
def ar68 : TypeId → Bool := fun (t : Nat) => ([24, 25, 79, 82] : List Nat).any (Nat.beq t)
abbrev iL68_4 : Type := Rows × Int × Int × Int × Int × Int × Int × Int × Int × Int × Int × Int × Int
def encL68_4 : iL68_4 → CSt := fun a => ([Go.Ev.SV.one (Go.Ev.SL.d (Go.Ev.DL.lst (5 : Nat) a.1)), Go.Ev.SV.one (Go.Ev.SL.ptr (0 : Nat) (0 : Nat)), Go.Ev.SV.one (Go.Ev.SL.ptr (1 : Nat) (0 : Nat)), Go.Ev.SV.one (Go.Ev.SL.d (Go.Ev.DL.int Go.IntKind.i64 a.2.1)), Go.Ev.SV.one (Go.Ev.SL.d (Go.Ev.DL.int Go.IntKind.i64 a.2.2.1))], [Go.Ev.Obj.box (74 : Nat) [Go.Ev.SL.d (Go.Ev.DL.int Go.IntKind.u64 a.2.2.2.1), Go.Ev.SL.d (Go.Ev.DL.int Go.IntKind.u64 a.2.2.2.2.1), Go.Ev.SL.d (Go.Ev.DL.int Go.IntKind.u64 a.2.2.2.2.2.1), Go.Ev.SL.d (Go.Ev.DL.int Go.IntKind.u64 a.2.2.2.2.2.2.1), Go.Ev.SL.d (Go.Ev.DL.int Go.IntKind.u64 a.2.2.2.2.2.2.2.1)], Go.Ev.Obj.box (74 : Nat) [Go.Ev.SL.d (Go.Ev.DL.int Go.IntKind.u64 a.2.2.2.2.2.2.2.2.1), Go.Ev.SL.d (Go.Ev.DL.int Go.IntKind.u64 a.2.2.2.2.2.2.2.2.2.1), Go.Ev.SL.d (Go.Ev.DL.int Go.IntKind.u64 a.2.2.2.2.2.2.2.2.2.2.1), Go.Ev.SL.d (Go.Ev.DL.int Go.IntKind.u64 a.2.2.2.2.2.2.2.2.2.2.2.1), Go.Ev.SL.d (Go.Ev.DL.int Go.IntKind.u64 a.2.2.2.2.2.2.2.2.2.2.2.2)]])
def decL68_4 : (c : CSt) → Option { a : iL68_4 // c = encL68_4 a }
  | ([Go.Ev.SV.one (Go.Ev.SL.d (Go.Ev.DL.lst (5 : Nat) x1)), Go.Ev.SV.one (Go.Ev.SL.ptr (0 : Nat) (0 : Nat)), Go.Ev.SV.one (Go.Ev.SL.ptr (1 : Nat) (0 : Nat)), Go.Ev.SV.one (Go.Ev.SL.d (Go.Ev.DL.int Go.IntKind.i64 x2)), Go.Ev.SV.one (Go.Ev.SL.d (Go.Ev.DL.int Go.IntKind.i64 x3))], [Go.Ev.Obj.box (74 : Nat) [Go.Ev.SL.d (Go.Ev.DL.int Go.IntKind.u64 x4), Go.Ev.SL.d (Go.Ev.DL.int Go.IntKind.u64 x5), Go.Ev.SL.d (Go.Ev.DL.int Go.IntKind.u64 x6), Go.Ev.SL.d (Go.Ev.DL.int Go.IntKind.u64 x7), Go.Ev.SL.d (Go.Ev.DL.int Go.IntKind.u64 x8)], Go.Ev.Obj.box (74 : Nat) [Go.Ev.SL.d (Go.Ev.DL.int Go.IntKind.u64 x9), Go.Ev.SL.d (Go.Ev.DL.int Go.IntKind.u64 x10), Go.Ev.SL.d (Go.Ev.DL.int Go.IntKind.u64 x11), Go.Ev.SL.d (Go.Ev.DL.int Go.IntKind.u64 x12), Go.Ev.SL.d (Go.Ev.DL.int Go.IntKind.u64 x13)]]) => some ⟨(x1, x2, x3, x4, x5, x6, x7, x8, x9, x10, x11, x12, x13), rfl⟩
  | _ => none
abbrev oL68_4 : Type := Rows × Int × Int × Int × Int × Int × Int × Int × Int × Int × Int × Int
def retL68_4 : oL68_4 → Ex × CSt := fun b => (Go.Ev.Ex.exit (0 : Nat), ([Go.Ev.SV.one (Go.Ev.SL.d (Go.Ev.DL.lst (5 : Nat) b.1)), Go.Ev.SV.one (Go.Ev.SL.ptr (0 : Nat) (0 : Nat)), Go.Ev.SV.one (Go.Ev.SL.ptr (1 : Nat) (0 : Nat)), Go.Ev.SV.one (Go.Ev.SL.d (Go.Ev.DL.int Go.IntKind.i64 b.2.1))], [Go.Ev.Obj.box (74 : Nat) [Go.Ev.SL.d (Go.Ev.DL.int Go.IntKind.u64 b.2.2.1), Go.Ev.SL.d (Go.Ev.DL.int Go.IntKind.u64 b.2.2.2.1), Go.Ev.SL.d (Go.Ev.DL.int Go.IntKind.u64 b.2.2.2.2.1), Go.Ev.SL.d (Go.Ev.DL.int Go.IntKind.u64 b.2.2.2.2.2.1), Go.Ev.SL.d (Go.Ev.DL.int Go.IntKind.u64 b.2.2.2.2.2.2.1)], Go.Ev.Obj.box (74 : Nat) [Go.Ev.SL.d (Go.Ev.DL.int Go.IntKind.u64 b.2.2.2.2.2.2.2.1), Go.Ev.SL.d (Go.Ev.DL.int Go.IntKind.u64 b.2.2.2.2.2.2.2.2.1), Go.Ev.SL.d (Go.Ev.DL.int Go.IntKind.u64 b.2.2.2.2.2.2.2.2.2.1), Go.Ev.SL.d (Go.Ev.DL.int Go.IntKind.u64 b.2.2.2.2.2.2.2.2.2.2.1), Go.Ev.SL.d (Go.Ev.DL.int Go.IntKind.u64 b.2.2.2.2.2.2.2.2.2.2.2)]]))
def retKL68_4 {R : Type} (K : Ex → CSt → Option R) : oL68_4 → Option R := fun b => K (Go.Ev.Ex.exit (0 : Nat)) (([Go.Ev.SV.one (Go.Ev.SL.d (Go.Ev.DL.lst (5 : Nat) b.1)), Go.Ev.SV.one (Go.Ev.SL.ptr (0 : Nat) (0 : Nat)), Go.Ev.SV.one (Go.Ev.SL.ptr (1 : Nat) (0 : Nat)), Go.Ev.SV.one (Go.Ev.SL.d (Go.Ev.DL.int Go.IntKind.i64 b.2.1))], [Go.Ev.Obj.box (74 : Nat) [Go.Ev.SL.d (Go.Ev.DL.int Go.IntKind.u64 b.2.2.1), Go.Ev.SL.d (Go.Ev.DL.int Go.IntKind.u64 b.2.2.2.1), Go.Ev.SL.d (Go.Ev.DL.int Go.IntKind.u64 b.2.2.2.2.1), Go.Ev.SL.d (Go.Ev.DL.int Go.IntKind.u64 b.2.2.2.2.2.1), Go.Ev.SL.d (Go.Ev.DL.int Go.IntKind.u64 b.2.2.2.2.2.2.1)], Go.Ev.Obj.box (74 : Nat) [Go.Ev.SL.d (Go.Ev.DL.int Go.IntKind.u64 b.2.2.2.2.2.2.2.1), Go.Ev.SL.d (Go.Ev.DL.int Go.IntKind.u64 b.2.2.2.2.2.2.2.2.1), Go.Ev.SL.d (Go.Ev.DL.int Go.IntKind.u64 b.2.2.2.2.2.2.2.2.2.1), Go.Ev.SL.d (Go.Ev.DL.int Go.IntKind.u64 b.2.2.2.2.2.2.2.2.2.2.1), Go.Ev.SL.d (Go.Ev.DL.int Go.IntKind.u64 b.2.2.2.2.2.2.2.2.2.2.2)]]))
theorem retKL68_4_eq {R : Type} (K : Ex → CSt → Option R) (b : oL68_4) : retKL68_4 K b = K (retL68_4 b).1 (retL68_4 b).2 := rfl
def entL68_4 (l : iL68_4 → Option oL68_4) : LEnt := mkLEnt 4 decL68_4 retL68_4 retKL68_4 retKL68_4_eq l
abbrev SdL68_4 (l : iL68_4 → Option oL68_4) : Prop := ∀ nt a b, l a = some b → LoopAt Try.prog nt 0 ann68 Try.f68 4 (encL68_4 a) (retL68_4 b)
noncomputable def u68_4 {R : Type} (sh : Sh) (f75 : i75 → Option o75) (f74 : i74 → Option o74) (l68_4 : iL68_4 → Option oL68_4) (x1 : Rows) (x2 : Int) (x3 : Int) (x4 : Int) (x5 : Int) (x6 : Int) (x7 : Int) (x8 : Int) (x9 : Int) (x10 : Int) (x11 : Int) (x12 : Int) (x13 : Int) (k : oL68_4 → Option R) : Option R :=
  bif Decidable.decide (x3 < x2) then
    bif Decidable.decide ((0 : Int) ≤ Go.IntKind.wrap Go.IntKind.i64 ((8 : Int) * x3) ∧ Go.IntKind.wrap Go.IntKind.i64 ((8 : Int) * x3) ≤ Go.IntKind.wrap Go.IntKind.i64 (Go.IntKind.wrap Go.IntKind.i64 ((8 : Int) * x3) + (8 : Int)) ∧ Go.IntKind.wrap Go.IntKind.i64 (Go.IntKind.wrap Go.IntKind.i64 ((8 : Int) * x3) + (8 : Int)) ≤ (↑(List.length x1) : Int)) then
      (f75 (List.take (Int.toNat (Go.IntKind.wrap Go.IntKind.i64 (Go.IntKind.wrap Go.IntKind.i64 ((8 : Int) * x3) + (8 : Int))) - Int.toNat (Go.IntKind.wrap Go.IntKind.i64 ((8 : Int) * x3))) (List.drop (Int.toNat (Go.IntKind.wrap Go.IntKind.i64 ((8 : Int) * x3))) x1))).bind fun (r3 : Int) =>
      sh (Go.IntKind.wrap Go.IntKind.u64 (↑(BitVec.toNat (BitVec.ofInt (64 : Nat) x9 ^^^ BitVec.ofInt (64 : Nat) r3)) : Int)) fun y4 =>
      (f74 (y4, x10, x11, x12, x13)).bind fun (r5 : Int × Int × Int × Int × Int) =>
      (l68_4 (x1, x2, Go.IntKind.wrap Go.IntKind.i64 (x3 + (1 : Int)), x4, x5, x6, x7, x8, Prod.fst r5, Prod.fst r5.2, Prod.fst (Prod.snd r5).2, Prod.fst (Prod.snd (Prod.snd r5)).2, Prod.snd (Prod.snd (Prod.snd r5)).2)).bind k
    else none
  else
    k ((x1, x2, x4, x5, x6, x7, x8, x9, x10, x11, x12, x13))
theorem u68_4_eq {R : Type} (sh : Sh) (hsh : ∀ {α R : Type} (x : α) (K : α → Option R), sh x K = K x) (f75 : i75 → Option o75) (f74 : i74 → Option o74) (l68_4 : iL68_4 → Option oL68_4) (x1 : Rows) (x2 : Int) (x3 : Int) (x4 : Int) (x5 : Int) (x6 : Int) (x7 : Int) (x8 : Int) (x9 : Int) (x10 : Int) (x11 : Int) (x12 : Int) (x13 : Int) (K : Ex → CSt → Option R) : roundK Try.prog (tabO sh hsh br68 ar68 [ent75 f75, ent74 f74]) (tabL [entL68_4 l68_4]) ann68 0 Try.f68 4 (encL68_4 (x1, x2, x3, x4, x5, x6, x7, x8, x9, x10, x11, x12, x13)) K = u68_4 sh f75 f74 l68_4 x1 x2 x3 x4 x5 x6 x7 x8 x9 x10 x11 x12 x13 (retKL68_4 K) := by kernel_rfl
theorem u68_4_law {R : Type} (f75 : i75 → Option o75) (f74 : i74 → Option o74) (l68_4 : iL68_4 → Option oL68_4) (x1 : Rows) (x2 : Int) (x3 : Int) (x4 : Int) (x5 : Int) (x6 : Int) (x7 : Int) (x8 : Int) (x9 : Int) (x10 : Int) (x11 : Int) (x12 : Int) (x13 : Int) (K : oL68_4 → Option R) : u68_4 sh0 f75 f74 l68_4 x1 x2 x3 x4 x5 x6 x7 x8 x9 x10 x11 x12 x13 K = (u68_4 sh0 f75 f74 l68_4 x1 x2 x3 x4 x5 x6 x7 x8 x9 x10 x11 x12 x13 some).bind K := by
  simp only [u68_4, sh0, cond_bind', two_bind, none_bind', Option.bind_assoc, Option.bind_some]
theorem okL68_4 (f75 : i75 → Option o75) (f74 : i74 → Option o74) (l68_4 : iL68_4 → Option oL68_4) (hf75 : Sd75 f75) (hf74 : Sd74 f74) (hl68_4 : SdL68_4 l68_4) : SdL68_4 (fun a => u68_4 sh0 f75 f74 l68_4 a.1 a.2.1 a.2.2.1 a.2.2.2.1 a.2.2.2.2.1 a.2.2.2.2.2.1 a.2.2.2.2.2.2.1 a.2.2.2.2.2.2.2.1 a.2.2.2.2.2.2.2.2.1 a.2.2.2.2.2.2.2.2.2.1 a.2.2.2.2.2.2.2.2.2.2.1 a.2.2.2.2.2.2.2.2.2.2.2.1 a.2.2.2.2.2.2.2.2.2.2.2.2 some) := by
  intro nt a b h
  refine round_ok (sh := sh0) (hsh := fun _ _ => rfl) (br := br68) (ar := ar68) Try.mixed (by kernel_rfl) (.cons (mkEnt_ok hf75) (.cons (mkEnt_ok hf74) .nil)) (.cons (mkLEnt_ok (hl68_4 nt)) .nil) ((u68_4_eq sh0 (fun _ _ => rfl) f75 f74 l68_4  a.1 a.2.1 a.2.2.1 a.2.2.2.1 a.2.2.2.2.1 a.2.2.2.2.2.1 a.2.2.2.2.2.2.1 a.2.2.2.2.2.2.2.1 a.2.2.2.2.2.2.2.2.1 a.2.2.2.2.2.2.2.2.2.1 a.2.2.2.2.2.2.2.2.2.2.1 a.2.2.2.2.2.2.2.2.2.2.2.1 a.2.2.2.2.2.2.2.2.2.2.2.2 _).trans ?_)
  rw [u68_4_law]
  simp only at h
  rw [h, Option.bind_some, retKL68_4_eq]
noncomputable def t68 {R : Type} (sh : Sh) (f74 : i74 → Option o74) (f75 : i75 → Option o75) (l68_4 : iL68_4 → Option oL68_4) (x1 : Int) (x2 : Rows) (k : o68 → Option R) : Option R :=
  (f74 (x1, (1 : Int), (2 : Int), (3 : Int), (4 : Int))).bind fun (r1 : Int × Int × Int × Int × Int) =>
  sh ((↑(List.length x2) : Int)) fun y2 =>
  (l68_4 (x2, Go.IntKind.wrap Go.IntKind.i64 (Int.tdiv y2 (8 : Int)), (0 : Int), (0 : Int), (0 : Int), (0 : Int), (0 : Int), (0 : Int), Prod.fst r1, Prod.fst r1.2, Prod.fst (Prod.snd r1).2, Prod.fst (Prod.snd (Prod.snd r1)).2, Prod.snd (Prod.snd (Prod.snd r1)).2)).bind fun (r6 : Rows × Int × Int × Int × Int × Int × Int × Int × Int × Int × Int × Int) =>
  sh (List.replicate (8 : Nat) [Go.Ev.DL.int Go.IntKind.u8 (0 : Int)] : Rows) fun y7 =>
  bif Decidable.decide (List.length y7 = (8 : Nat)) then
    bif Decidable.decide ((0 : Int) ≤ Go.IntKind.wrap Go.IntKind.i64 ((8 : Int) * Prod.fst r6.2) ∧ Go.IntKind.wrap Go.IntKind.i64 ((8 : Int) * Prod.fst r6.2) ≤ (↑(List.length (Prod.fst r6)) : Int)) then
      sh ((↑(Min.min (List.length (List.drop (Int.toNat (Go.IntKind.wrap Go.IntKind.i64 ((8 : Int) * Prod.fst r6.2))) (Prod.fst r6))) (List.length y7)) : Int)) fun y8 =>
      sh (List.take (Min.min (List.length (List.drop (Int.toNat (Go.IntKind.wrap Go.IntKind.i64 ((8 : Int) * Prod.fst r6.2))) (Prod.fst r6))) (List.length y7)) (List.drop (Int.toNat (Go.IntKind.wrap Go.IntKind.i64 ((8 : Int) * Prod.fst r6.2))) (Prod.fst r6)) ++ List.drop (Min.min (List.length (List.drop (Int.toNat (Go.IntKind.wrap Go.IntKind.i64 ((8 : Int) * Prod.fst r6.2))) (Prod.fst r6))) (List.length y7)) y7 : Rows) fun y9 =>
      bif Decidable.decide ((0 : Int) ≤ y8 ∧ y8 < (8 : Int)) then
        bif Decidable.decide (Int.toNat y8 < List.length y9) then
          sh (List.set y9 (Int.toNat y8) [Go.Ev.DL.int Go.IntKind.u8 (1 : Int)] : Rows) fun y10 =>
          bif Decidable.decide (List.length y10 = (8 : Nat)) then
            (f75 (y10)).bind fun (r11 : Int) =>
            sh (Go.IntKind.wrap Go.IntKind.u64 (↑(BitVec.toNat (BitVec.ofInt (64 : Nat) (Prod.fst (Prod.snd (Prod.snd (Prod.snd (Prod.snd (Prod.snd (Prod.snd r6)))))).2) ^^^ BitVec.ofInt (64 : Nat) r11)) : Int)) fun y12 =>
            (f74 (y12, Prod.fst (Prod.snd (Prod.snd (Prod.snd (Prod.snd (Prod.snd (Prod.snd (Prod.snd r6))))))).2, Prod.fst (Prod.snd (Prod.snd (Prod.snd (Prod.snd (Prod.snd (Prod.snd (Prod.snd (Prod.snd r6)))))))).2, Prod.fst (Prod.snd (Prod.snd (Prod.snd (Prod.snd (Prod.snd (Prod.snd (Prod.snd (Prod.snd (Prod.snd r6))))))))).2, Prod.snd (Prod.snd (Prod.snd (Prod.snd (Prod.snd (Prod.snd (Prod.snd (Prod.snd (Prod.snd (Prod.snd r6))))))))).2)).bind fun (r13 : Int × Int × Int × Int × Int) =>
            k ((Prod.fst r13, Prod.fst r13.2, Prod.fst (Prod.snd r13).2, Prod.fst (Prod.snd (Prod.snd r13)).2, Prod.snd (Prod.snd (Prod.snd r13)).2))
          else none
        else none
      else none
    else none
  else none
theorem t68_eq {R : Type} (sh : Sh) (hsh : ∀ {α R : Type} (x : α) (K : α → Option R), sh x K = K x) (f74 : i74 → Option o74) (f75 : i75 → Option o75) (l68_4 : iL68_4 → Option oL68_4) (x1 : Int) (x2 : Rows) (K : CSt → Option R) : bodyK Try.prog (tabO sh hsh br68 ar68 [ent74 f74, ent75 f75]) (tabL [entL68_4 l68_4]) ann68 false Try.f68 (enc68 (x1, x2)) K = t68 sh f74 f75 l68_4 x1 x2 (retK68 K) := by kernel_rfl
theorem t68_law {R : Type} (f74 : i74 → Option o74) (f75 : i75 → Option o75) (l68_4 : iL68_4 → Option oL68_4) (x1 : Int) (x2 : Rows) (K : o68 → Option R) : t68 sh0 f74 f75 l68_4 x1 x2 K = (t68 sh0 f74 f75 l68_4 x1 x2 some).bind K := by
  simp only [t68, sh0, cond_bind', two_bind, none_bind', Option.bind_assoc, Option.bind_some]
theorem ok68 (f74 : i74 → Option o74) (f75 : i75 → Option o75) (l68_4 : iL68_4 → Option oL68_4) (hf74 : Sd74 f74) (hf75 : Sd75 f75) (hl68_4 : SdL68_4 l68_4) : Sd68 (fun a => t68 sh0 f74 f75 l68_4 a.1 a.2 some) := by
  intro a b h
  refine call_ok (sh := sh0) (hsh := fun _ _ => rfl) (br := br68) (ar := ar68) (own := false) Try.mixed Try.func68 (by kernel_rfl) (.cons (mkEnt_ok hf74) (.cons (mkEnt_ok hf75) .nil)) (fun nt => (.cons (mkLEnt_ok (hl68_4 nt)) .nil)) ((t68_eq sh0 (fun _ _ => rfl) f74 f75 l68_4 a.1 a.2 _).trans ?_)
  rw [t68_law]
  simp only at h
  rw [h, Option.bind_some, retK68_eq]

/-! 67 erasure/digest.squeeze -/
abbrev i67 : Type := Int × Int × Int × Int × Int × Rows
def enc67 : i67 → CSt := fun a => ([Go.Ev.SV.agg [Go.Ev.SL.d (Go.Ev.DL.int Go.IntKind.u64 a.1), Go.Ev.SL.d (Go.Ev.DL.int Go.IntKind.u64 a.2.1), Go.Ev.SL.d (Go.Ev.DL.int Go.IntKind.u64 a.2.2.1), Go.Ev.SL.d (Go.Ev.DL.int Go.IntKind.u64 a.2.2.2.1), Go.Ev.SL.d (Go.Ev.DL.int Go.IntKind.u64 a.2.2.2.2.1)], Go.Ev.SV.one (Go.Ev.SL.vr (0 : Nat))], [Go.Ev.Obj.vec (5 : Nat) Bool.false a.2.2.2.2.2])
def dec67 : (c : CSt) → Option { a : i67 // c = enc67 a }
  | ([Go.Ev.SV.agg [Go.Ev.SL.d (Go.Ev.DL.int Go.IntKind.u64 x1), Go.Ev.SL.d (Go.Ev.DL.int Go.IntKind.u64 x2), Go.Ev.SL.d (Go.Ev.DL.int Go.IntKind.u64 x3), Go.Ev.SL.d (Go.Ev.DL.int Go.IntKind.u64 x4), Go.Ev.SL.d (Go.Ev.DL.int Go.IntKind.u64 x5)], Go.Ev.SV.one (Go.Ev.SL.vr (0 : Nat))], [Go.Ev.Obj.vec (5 : Nat) Bool.false x6]) => some ⟨(x1, x2, x3, x4, x5, x6), rfl⟩
  | _ => none
abbrev o67 : Type := Rows
def ret67 : o67 → CSt := fun b => ([], [Go.Ev.Obj.vec (5 : Nat) Bool.false b])
def retK67 {R : Type} (K : CSt → Option R) : o67 → Option R := fun b => K (([], [Go.Ev.Obj.vec (5 : Nat) Bool.false b]))
theorem retK67_eq {R : Type} (K : CSt → Option R) (b : o67) : retK67 K b = K (ret67 b) := rfl
abbrev Sd67 (f : i67 → Option o67) : Prop := ∀ a b, f a = some b → CallOk Try.prog 67 (enc67 a) (ret67 b)
def ent67 (f : i67 → Option o67) : Ent := mkEnt 67 dec67 ret67 retK67 retK67_eq f
def ann67 : Nat → List Nat × List Nat := fun id => bif Nat.beq id 2 then ([1, 2, 4], []) else ([], [])
def br67 : FuncId → Bool := fun (g : Nat) => ([67, 72] : List Nat).any (Nat.beq g)
def ar67 : TypeId → Bool := fun (t : Nat) => ([24, 25, 79, 82] : List Nat).any (Nat.beq t)
abbrev iL67_2 : Type := Int × Rows × Int × Int × Int × Int × Int
def encL67_2 : iL67_2 → CSt := fun a => ([Go.Ev.SV.one (Go.Ev.SL.vr (0 : Nat)), Go.Ev.SV.one (Go.Ev.SL.ptr (1 : Nat) (0 : Nat)), Go.Ev.SV.one (Go.Ev.SL.d (Go.Ev.DL.int Go.IntKind.i64 a.1))], [Go.Ev.Obj.vec (5 : Nat) Bool.false a.2.1, Go.Ev.Obj.box (74 : Nat) [Go.Ev.SL.d (Go.Ev.DL.int Go.IntKind.u64 a.2.2.1), Go.Ev.SL.d (Go.Ev.DL.int Go.IntKind.u64 a.2.2.2.1), Go.Ev.SL.d (Go.Ev.DL.int Go.IntKind.u64 a.2.2.2.2.1), Go.Ev.SL.d (Go.Ev.DL.int Go.IntKind.u64 a.2.2.2.2.2.1), Go.Ev.SL.d (Go.Ev.DL.int Go.IntKind.u64 a.2.2.2.2.2.2)]])
def decL67_2 : (c : CSt) → Option { a : iL67_2 // c = encL67_2 a }
  | ([Go.Ev.SV.one (Go.Ev.SL.vr (0 : Nat)), Go.Ev.SV.one (Go.Ev.SL.ptr (1 : Nat) (0 : Nat)), Go.Ev.SV.one (Go.Ev.SL.d (Go.Ev.DL.int Go.IntKind.i64 x1))], [Go.Ev.Obj.vec (5 : Nat) Bool.false x2, Go.Ev.Obj.box (74 : Nat) [Go.Ev.SL.d (Go.Ev.DL.int Go.IntKind.u64 x3), Go.Ev.SL.d (Go.Ev.DL.int Go.IntKind.u64 x4), Go.Ev.SL.d (Go.Ev.DL.int Go.IntKind.u64 x5), Go.Ev.SL.d (Go.Ev.DL.int Go.IntKind.u64 x6), Go.Ev.SL.d (Go.Ev.DL.int Go.IntKind.u64 x7)]]) => some ⟨(x1, x2, x3, x4, x5, x6, x7), rfl⟩
  | _ => none
abbrev oL67_2 : Type := Rows
def retL67_2 : oL67_2 → Ex × CSt := fun b => (Go.Ev.Ex.exit (0 : Nat), ([], [Go.Ev.Obj.vec (5 : Nat) Bool.false b]))
def retKL67_2 {R : Type} (K : Ex → CSt → Option R) : oL67_2 → Option R := fun b => K (Go.Ev.Ex.exit (0 : Nat)) (([], [Go.Ev.Obj.vec (5 : Nat) Bool.false b]))
theorem retKL67_2_eq {R : Type} (K : Ex → CSt → Option R) (b : oL67_2) : retKL67_2 K b = K (retL67_2 b).1 (retL67_2 b).2 := rfl
def entL67_2 (l : iL67_2 → Option oL67_2) : LEnt := mkLEnt 2 decL67_2 retL67_2 retKL67_2 retKL67_2_eq l
abbrev SdL67_2 (l : iL67_2 → Option oL67_2) : Prop := ∀ nt a b, l a = some b → LoopAt Try.prog nt 1 ann67 Try.f67 2 (encL67_2 a) (retL67_2 b)
noncomputable def u67_2 {R : Type} (sh : Sh) (f74 : i74 → Option o74) (l67_2 : iL67_2 → Option oL67_2) (x1 : Int) (x2 : Rows) (x3 : Int) (x4 : Int) (x5 : Int) (x6 : Int) (x7 : Int) (k : oL67_2 → Option R) : Option R :=
  sh ((↑(List.length x2) : Int)) fun y1 =>
  bif Decidable.decide (x1 < y1) then
    bif Decidable.decide (x1 > (0 : Int)) then
      bif Int.tmod x1 (8 : Int) == (0 : Int) then
        (f74 (x3, x4, x5, x6, x7)).bind fun (r2 : Int × Int × Int × Int × Int) =>
        bif Decidable.decide ((0 : Int) ≤ Go.IntKind.wrap Go.IntKind.u64 ((8 : Int) * Go.IntKind.wrap Go.IntKind.u64 (Int.tmod x1 (8 : Int)))) then
          sh (Int.fdiv (Prod.fst r2) ((2 : Int) ^ Min.min (Int.toNat (Go.IntKind.wrap Go.IntKind.u64 ((8 : Int) * Go.IntKind.wrap Go.IntKind.u64 (Int.tmod x1 (8 : Int))))) (64 : Nat))) fun y3 =>
          bif Decidable.decide ((0 : Int) ≤ x1 ∧ x1 < (↑(List.length x2) : Int)) then
            bif Decidable.decide (Int.toNat x1 < List.length x2) then
              sh (List.set x2 (Int.toNat x1) [Go.Ev.DL.int Go.IntKind.u8 (Go.IntKind.wrap Go.IntKind.u8 y3)] : Rows) fun y4 =>
              (l67_2 (Go.IntKind.wrap Go.IntKind.i64 (x1 + (1 : Int)), y4, Prod.fst r2, Prod.fst r2.2, Prod.fst (Prod.snd r2).2, Prod.fst (Prod.snd (Prod.snd r2)).2, Prod.snd (Prod.snd (Prod.snd r2)).2)).bind k
            else none
          else none
        else none
      else
        bif Decidable.decide ((0 : Int) ≤ Go.IntKind.wrap Go.IntKind.u64 ((8 : Int) * Go.IntKind.wrap Go.IntKind.u64 (Int.tmod x1 (8 : Int)))) then
          sh (Int.fdiv x3 ((2 : Int) ^ Min.min (Int.toNat (Go.IntKind.wrap Go.IntKind.u64 ((8 : Int) * Go.IntKind.wrap Go.IntKind.u64 (Int.tmod x1 (8 : Int))))) (64 : Nat))) fun y5 =>
          bif Decidable.decide ((0 : Int) ≤ x1 ∧ x1 < (↑(List.length x2) : Int)) then
            bif Decidable.decide (Int.toNat x1 < List.length x2) then
              sh (List.set x2 (Int.toNat x1) [Go.Ev.DL.int Go.IntKind.u8 (Go.IntKind.wrap Go.IntKind.u8 y5)] : Rows) fun y6 =>
              (l67_2 (Go.IntKind.wrap Go.IntKind.i64 (x1 + (1 : Int)), y6, x3, x4, x5, x6, x7)).bind k
            else none
          else none
        else none
    else
      bif Decidable.decide ((0 : Int) ≤ Go.IntKind.wrap Go.IntKind.u64 ((8 : Int) * Go.IntKind.wrap Go.IntKind.u64 (Int.tmod x1 (8 : Int)))) then
        sh (Int.fdiv x3 ((2 : Int) ^ Min.min (Int.toNat (Go.IntKind.wrap Go.IntKind.u64 ((8 : Int) * Go.IntKind.wrap Go.IntKind.u64 (Int.tmod x1 (8 : Int))))) (64 : Nat))) fun y7 =>
        bif Decidable.decide ((0 : Int) ≤ x1 ∧ x1 < (↑(List.length x2) : Int)) then
          bif Decidable.decide (Int.toNat x1 < List.length x2) then
            sh (List.set x2 (Int.toNat x1) [Go.Ev.DL.int Go.IntKind.u8 (Go.IntKind.wrap Go.IntKind.u8 y7)] : Rows) fun y8 =>
            (l67_2 (Go.IntKind.wrap Go.IntKind.i64 (x1 + (1 : Int)), y8, x3, x4, x5, x6, x7)).bind k
          else none
        else none
      else none
  else
    k (x2)
theorem u67_2_eq {R : Type} (sh : Sh) (hsh : ∀ {α R : Type} (x : α) (K : α → Option R), sh x K = K x) (f74 : i74 → Option o74) (l67_2 : iL67_2 → Option oL67_2) (x1 : Int) (x2 : Rows) (x3 : Int) (x4 : Int) (x5 : Int) (x6 : Int) (x7 : Int) (K : Ex → CSt → Option R) : roundK Try.prog (tabO sh hsh br67 ar67 [ent74 f74]) (tabL [entL67_2 l67_2]) ann67 1 Try.f67 2 (encL67_2 (x1, x2, x3, x4, x5, x6, x7)) K = u67_2 sh f74 l67_2 x1 x2 x3 x4 x5 x6 x7 (retKL67_2 K) := by kernel_rfl
theorem u67_2_law {R : Type} (f74 : i74 → Option o74) (l67_2 : iL67_2 → Option oL67_2) (x1 : Int) (x2 : Rows) (x3 : Int) (x4 : Int) (x5 : Int) (x6 : Int) (x7 : Int) (K : oL67_2 → Option R) : u67_2 sh0 f74 l67_2 x1 x2 x3 x4 x5 x6 x7 K = (u67_2 sh0 f74 l67_2 x1 x2 x3 x4 x5 x6 x7 some).bind K := by
  simp only [u67_2, sh0, cond_bind', two_bind, none_bind', Option.bind_assoc, Option.bind_some]
theorem okL67_2 (f74 : i74 → Option o74) (l67_2 : iL67_2 → Option oL67_2) (hf74 : Sd74 f74) (hl67_2 : SdL67_2 l67_2) : SdL67_2 (fun a => u67_2 sh0 f74 l67_2 a.1 a.2.1 a.2.2.1 a.2.2.2.1 a.2.2.2.2.1 a.2.2.2.2.2.1 a.2.2.2.2.2.2 some) := by
  intro nt a b h
  refine round_ok (sh := sh0) (hsh := fun _ _ => rfl) (br := br67) (ar := ar67) Try.mixed (by kernel_rfl) (.cons (mkEnt_ok hf74) .nil) (.cons (mkLEnt_ok (hl67_2 nt)) .nil) ((u67_2_eq sh0 (fun _ _ => rfl) f74 l67_2  a.1 a.2.1 a.2.2.1 a.2.2.2.1 a.2.2.2.2.1 a.2.2.2.2.2.1 a.2.2.2.2.2.2 _).trans ?_)
  rw [u67_2_law]
  simp only at h
  rw [h, Option.bind_some, retKL67_2_eq]
noncomputable def t67 {R : Type} (sh : Sh) (l67_2 : iL67_2 → Option oL67_2) (x1 : Int) (x2 : Int) (x3 : Int) (x4 : Int) (x5 : Int) (x6 : Rows) (k : o67 → Option R) : Option R :=
  (l67_2 ((0 : Int), x6, x1, x2, x3, x4, x5)).bind fun (r9 : Rows) =>
  k (r9)
theorem t67_eq {R : Type} (sh : Sh) (hsh : ∀ {α R : Type} (x : α) (K : α → Option R), sh x K = K x) (l67_2 : iL67_2 → Option oL67_2) (x1 : Int) (x2 : Int) (x3 : Int) (x4 : Int) (x5 : Int) (x6 : Rows) (K : CSt → Option R) : bodyK Try.prog (tabO sh hsh br67 ar67 []) (tabL [entL67_2 l67_2]) ann67 false Try.f67 (enc67 (x1, x2, x3, x4, x5, x6)) K = t67 sh l67_2 x1 x2 x3 x4 x5 x6 (retK67 K) := by kernel_rfl
theorem t67_law {R : Type} (l67_2 : iL67_2 → Option oL67_2) (x1 : Int) (x2 : Int) (x3 : Int) (x4 : Int) (x5 : Int) (x6 : Rows) (K : o67 → Option R) : t67 sh0 l67_2 x1 x2 x3 x4 x5 x6 K = (t67 sh0 l67_2 x1 x2 x3 x4 x5 x6 some).bind K := by
  simp only [t67, sh0, cond_bind', two_bind, none_bind', Option.bind_assoc, Option.bind_some]
theorem ok67 (l67_2 : iL67_2 → Option oL67_2) (hl67_2 : SdL67_2 l67_2) : Sd67 (fun a => t67 sh0 l67_2 a.1 a.2.1 a.2.2.1 a.2.2.2.1 a.2.2.2.2.1 a.2.2.2.2.2 some) := by
  intro a b h
  refine call_ok (sh := sh0) (hsh := fun _ _ => rfl) (br := br67) (ar := ar67) (own := false) Try.mixed Try.func67 (by kernel_rfl) .nil (fun nt => (.cons (mkLEnt_ok (hl67_2 nt)) .nil)) ((t67_eq sh0 (fun _ _ => rfl) l67_2 a.1 a.2.1 a.2.2.1 a.2.2.2.1 a.2.2.2.2.1 a.2.2.2.2.2 _).trans ?_)
  rw [t67_law]
  simp only at h
  rw [h, Option.bind_some, retK67_eq]

/-! 47 erasure/digest.Sum -/
abbrev i47 : Type := Int × Rows
def enc47 : i47 → CSt := fun a => ([Go.Ev.SV.one (Go.Ev.SL.d (Go.Ev.DL.int Go.IntKind.u64 a.1)), Go.Ev.SV.one (Go.Ev.SL.d (Go.Ev.DL.lst (5 : Nat) a.2))], [])
def dec47 : (c : CSt) → Option { a : i47 // c = enc47 a }
  | ([Go.Ev.SV.one (Go.Ev.SL.d (Go.Ev.DL.int Go.IntKind.u64 x1)), Go.Ev.SV.one (Go.Ev.SL.d (Go.Ev.DL.lst (5 : Nat) x2))], []) => some ⟨(x1, x2), rfl⟩
  | _ => none
abbrev o47 : Type := List Int
def ret47 : o47 → CSt := fun b => ([Go.Ev.SV.agg (Go.Ev.pkS Go.IntKind.u8 b (32 : Nat))], [])
def retK47 {R : Type} (K : CSt → Option R) : o47 → Option R := fun b => K (([Go.Ev.SV.agg (Go.Ev.pkS Go.IntKind.u8 b (32 : Nat))], []))
theorem retK47_eq {R : Type} (K : CSt → Option R) (b : o47) : retK47 K b = K (ret47 b) := rfl
abbrev Sd47 (f : i47 → Option o47) : Prop := ∀ a b, f a = some b → CallOk Try.prog 47 (enc47 a) (ret47 b)
def ent47 (f : i47 → Option o47) : Ent := mkEnt 47 dec47 ret47 retK47 retK47_eq f
def ann47 : Nat → List Nat × List Nat := fun id => ([], [])
def br47 : FuncId → Bool := fun (g : Nat) => ([67, 72] : List Nat).any (Nat.beq g)
def ar47 : TypeId → Bool := fun (t : Nat) => ([24, 25, 79, 82] : List Nat).any (Nat.beq t)
noncomputable def t47 {R : Type} (sh : Sh) (f68 : i68 → Option o68) (f67 : i67 → Option o67) (x1 : Int) (x2 : Rows) (k : o47 → Option R) : Option R :=
  sh (List.replicate (32 : Nat) [Go.Ev.DL.int Go.IntKind.u8 (0 : Int)] : Rows) fun y1 =>
  sh (List.replicate (32 : Nat) [Go.Ev.DL.int Go.IntKind.u8 (0 : Int)] : Rows) fun y2 =>
  (f68 (x1, x2)).bind fun (r3 : Int × Int × Int × Int × Int) =>
  bif Decidable.decide (List.length y2 = (32 : Nat)) then
    (f67 (Prod.fst r3, Prod.fst r3.2, Prod.fst (Prod.snd r3).2, Prod.fst (Prod.snd (Prod.snd r3)).2, Prod.snd (Prod.snd (Prod.snd r3)).2, y2)).bind fun (r4 : Rows) =>
    bif Decidable.decide (List.length r4 = (32 : Nat)) then
      bif Decidable.decide (List.length y1 = (32 : Nat)) then
        sh (Go.Ev.colD (Go.Ev.mapD Go.IntKind.u8 (Go.Ev.colI r4 (32 : Nat))) : Rows) fun y5 =>
        bif Decidable.decide (List.length y5 = (32 : Nat)) then
          k (Go.Ev.colI y5 (32 : Nat))
        else none
      else none
    else none
  else none
theorem t47_eq {R : Type} (sh : Sh) (hsh : ∀ {α R : Type} (x : α) (K : α → Option R), sh x K = K x) (f68 : i68 → Option o68) (f67 : i67 → Option o67) (x1 : Int) (x2 : Rows) (K : CSt → Option R) : bodyK Try.prog (tabO sh hsh br47 ar47 [ent68 f68, ent67 f67]) (tabL []) ann47 false Try.f47 (enc47 (x1, x2)) K = t47 sh f68 f67 x1 x2 (retK47 K) := by kernel_rfl
theorem t47_law {R : Type} (f68 : i68 → Option o68) (f67 : i67 → Option o67) (x1 : Int) (x2 : Rows) (K : o47 → Option R) : t47 sh0 f68 f67 x1 x2 K = (t47 sh0 f68 f67 x1 x2 some).bind K := by
  simp only [t47, sh0, cond_bind', two_bind, none_bind', Option.bind_assoc, Option.bind_some]
theorem ok47 (f68 : i68 → Option o68) (f67 : i67 → Option o67) (hf68 : Sd68 f68) (hf67 : Sd67 f67) : Sd47 (fun a => t47 sh0 f68 f67 a.1 a.2 some) := by
  intro a b h
  refine call_ok (sh := sh0) (hsh := fun _ _ => rfl) (br := br47) (ar := ar47) (own := false) Try.mixed Try.func47 (by kernel_rfl) (.cons (mkEnt_ok hf68) (.cons (mkEnt_ok hf67) .nil)) (fun nt => .nil) ((t47_eq sh0 (fun _ _ => rfl) f68 f67 a.1 a.2 _).trans ?_)
  rw [t47_law]
  simp only at h
  rw [h, Option.bind_some, retK47_eq]

/-! 61 erasure/digest.Keyed -/
abbrev i61 : Type := Int × List Int × Rows
def enc61 : i61 → CSt := fun a => ([Go.Ev.SV.one (Go.Ev.SL.d (Go.Ev.DL.int Go.IntKind.u64 a.1)), Go.Ev.SV.agg (Go.Ev.pkS Go.IntKind.u8 a.2.1 (32 : Nat)), Go.Ev.SV.one (Go.Ev.SL.d (Go.Ev.DL.lst (5 : Nat) a.2.2))], [])
def dec61 : (c : CSt) → Option { a : i61 // c = enc61 a }
  | ([Go.Ev.SV.one (Go.Ev.SL.d (Go.Ev.DL.int Go.IntKind.u64 x1)), Go.Ev.SV.agg [Go.Ev.SL.d (Go.Ev.DL.int Go.IntKind.u8 x2_0), Go.Ev.SL.d (Go.Ev.DL.int Go.IntKind.u8 x2_1), Go.Ev.SL.d (Go.Ev.DL.int Go.IntKind.u8 x2_2), Go.Ev.SL.d (Go.Ev.DL.int Go.IntKind.u8 x2_3), Go.Ev.SL.d (Go.Ev.DL.int Go.IntKind.u8 x2_4), Go.Ev.SL.d (Go.Ev.DL.int Go.IntKind.u8 x2_5), Go.Ev.SL.d (Go.Ev.DL.int Go.IntKind.u8 x2_6), Go.Ev.SL.d (Go.Ev.DL.int Go.IntKind.u8 x2_7), Go.Ev.SL.d (Go.Ev.DL.int Go.IntKind.u8 x2_8), Go.Ev.SL.d (Go.Ev.DL.int Go.IntKind.u8 x2_9), Go.Ev.SL.d (Go.Ev.DL.int Go.IntKind.u8 x2_10), Go.Ev.SL.d (Go.Ev.DL.int Go.IntKind.u8 x2_11), Go.Ev.SL.d (Go.Ev.DL.int Go.IntKind.u8 x2_12), Go.Ev.SL.d (Go.Ev.DL.int Go.IntKind.u8 x2_13), Go.Ev.SL.d (Go.Ev.DL.int Go.IntKind.u8 x2_14), Go.Ev.SL.d (Go.Ev.DL.int Go.IntKind.u8 x2_15), Go.Ev.SL.d (Go.Ev.DL.int Go.IntKind.u8 x2_16), Go.Ev.SL.d (Go.Ev.DL.int Go.IntKind.u8 x2_17), Go.Ev.SL.d (Go.Ev.DL.int Go.IntKind.u8 x2_18), Go.Ev.SL.d (Go.Ev.DL.int Go.IntKind.u8 x2_19), Go.Ev.SL.d (Go.Ev.DL.int Go.IntKind.u8 x2_20), Go.Ev.SL.d (Go.Ev.DL.int Go.IntKind.u8 x2_21), Go.Ev.SL.d (Go.Ev.DL.int Go.IntKind.u8 x2_22), Go.Ev.SL.d (Go.Ev.DL.int Go.IntKind.u8 x2_23), Go.Ev.SL.d (Go.Ev.DL.int Go.IntKind.u8 x2_24), Go.Ev.SL.d (Go.Ev.DL.int Go.IntKind.u8 x2_25), Go.Ev.SL.d (Go.Ev.DL.int Go.IntKind.u8 x2_26), Go.Ev.SL.d (Go.Ev.DL.int Go.IntKind.u8 x2_27), Go.Ev.SL.d (Go.Ev.DL.int Go.IntKind.u8 x2_28), Go.Ev.SL.d (Go.Ev.DL.int Go.IntKind.u8 x2_29), Go.Ev.SL.d (Go.Ev.DL.int Go.IntKind.u8 x2_30), Go.Ev.SL.d (Go.Ev.DL.int Go.IntKind.u8 x2_31)], Go.Ev.SV.one (Go.Ev.SL.d (Go.Ev.DL.lst (5 : Nat) x3))], []) => some ⟨(x1, [x2_0, x2_1, x2_2, x2_3, x2_4, x2_5, x2_6, x2_7, x2_8, x2_9, x2_10, x2_11, x2_12, x2_13, x2_14, x2_15, x2_16, x2_17, x2_18, x2_19, x2_20, x2_21, x2_22, x2_23, x2_24, x2_25, x2_26, x2_27, x2_28, x2_29, x2_30, x2_31], x3), rfl⟩
  | _ => none
abbrev o61 : Type := List Int
def ret61 : o61 → CSt := fun b => ([Go.Ev.SV.agg (Go.Ev.pkS Go.IntKind.u8 b (32 : Nat))], [])
def retK61 {R : Type} (K : CSt → Option R) : o61 → Option R := fun b => K (([Go.Ev.SV.agg (Go.Ev.pkS Go.IntKind.u8 b (32 : Nat))], []))
theorem retK61_eq {R : Type} (K : CSt → Option R) (b : o61) : retK61 K b = K (ret61 b) := rfl
abbrev Sd61 (f : i61 → Option o61) : Prop := ∀ a b, f a = some b → CallOk Try.prog 61 (enc61 a) (ret61 b)
def ent61 (f : i61 → Option o61) : Ent := mkEnt 61 dec61 ret61 retK61 retK61_eq f
def ann61 : Nat → List Nat × List Nat := fun id => ([], [])
def br61 : FuncId → Bool := fun (g : Nat) => ([67, 72] : List Nat).any (Nat.beq g)
def ar61 : TypeId → Bool := fun (t : Nat) => ([24, 25, 79, 82] : List Nat).any (Nat.beq t)
noncomputable def t61 {R : Type} (sh : Sh) (f47 : i47 → Option o47) (x1 : Int) (x2 : List Int) (x3 : Rows) (k : o61 → Option R) : Option R :=
  sh (Go.Ev.colD (Go.Ev.mapD Go.IntKind.u8 (Go.Ev.pkL x2 (32 : Nat))) : Rows) fun y1 =>
  sh (List.replicate (32 : Nat) [Go.Ev.DL.int Go.IntKind.u8 (0 : Int)] : Rows) fun y2 =>
  sh ((↑(List.length x3) : Int)) fun y3 =>
  bif Decidable.decide ((0 : Int) ≤ (0 : Int) ∧ (0 : Int) ≤ Go.IntKind.wrap Go.IntKind.i64 ((32 : Int) + y3)) && Go.Ev.roomE Go.Proofs.Try.prog (5 : Nat) (Int.toNat (Go.IntKind.wrap Go.IntKind.i64 ((32 : Int) + y3))) then
    sh ([] : Rows) fun y4 =>
    bif Decidable.decide (List.length y1 = (32 : Nat)) then
      bif Go.Ev.roomE Go.Proofs.Try.prog (5 : Nat) (List.length y4 + List.length y1) then
        sh (y4 ++ y1 : Rows) fun y5 =>
        bif Go.Ev.roomE Go.Proofs.Try.prog (5 : Nat) (List.length y5 + List.length x3) then
          sh (y5 ++ x3 : Rows) fun y6 =>
          (f47 (x1, y6)).bind fun (r7 : List Int) =>
          bif Decidable.decide (List.length y2 = (32 : Nat)) then
            sh (Go.Ev.colD (Go.Ev.mapD Go.IntKind.u8 (Go.Ev.pkL r7 (32 : Nat))) : Rows) fun y8 =>
            bif Decidable.decide (List.length y8 = (32 : Nat)) then
              k (Go.Ev.colI y8 (32 : Nat))
            else none
          else none
        else none
      else none
    else none
  else none
theorem t61_eq {R : Type} (sh : Sh) (hsh : ∀ {α R : Type} (x : α) (K : α → Option R), sh x K = K x) (f47 : i47 → Option o47) (x1 : Int) (x2 : List Int) (x3 : Rows) (K : CSt → Option R) : bodyK Try.prog (tabO sh hsh br61 ar61 [ent47 f47]) (tabL []) ann61 false Try.f61 (enc61 (x1, x2, x3)) K = t61 sh f47 x1 x2 x3 (retK61 K) := by kernel_rfl
theorem t61_law {R : Type} (f47 : i47 → Option o47) (x1 : Int) (x2 : List Int) (x3 : Rows) (K : o61 → Option R) : t61 sh0 f47 x1 x2 x3 K = (t61 sh0 f47 x1 x2 x3 some).bind K := by
  simp only [t61, sh0, cond_bind', two_bind, none_bind', Option.bind_assoc, Option.bind_some]
theorem ok61 (f47 : i47 → Option o47) (hf47 : Sd47 f47) : Sd61 (fun a => t61 sh0 f47 a.1 a.2.1 a.2.2 some) := by
  intro a b h
  refine call_ok (sh := sh0) (hsh := fun _ _ => rfl) (br := br61) (ar := ar61) (own := false) Try.mixed Try.func61 (by kernel_rfl) (.cons (mkEnt_ok hf47) .nil) (fun nt => .nil) ((t61_eq sh0 (fun _ _ => rfl) f47 a.1 a.2.1 a.2.2 _).trans ?_)
  rw [t61_law]
  simp only at h
  rw [h, Option.bind_some, retK61_eq]

/-! 65 erasure/digest.Pair -/
abbrev i65 : Type := Int × List Int × List Int
def enc65 : i65 → CSt := fun a => ([Go.Ev.SV.one (Go.Ev.SL.d (Go.Ev.DL.int Go.IntKind.u64 a.1)), Go.Ev.SV.agg (Go.Ev.pkS Go.IntKind.u8 a.2.1 (32 : Nat)), Go.Ev.SV.agg (Go.Ev.pkS Go.IntKind.u8 a.2.2 (32 : Nat))], [])
def dec65 : (c : CSt) → Option { a : i65 // c = enc65 a }
  | ([Go.Ev.SV.one (Go.Ev.SL.d (Go.Ev.DL.int Go.IntKind.u64 x1)), Go.Ev.SV.agg [Go.Ev.SL.d (Go.Ev.DL.int Go.IntKind.u8 x2_0), Go.Ev.SL.d (Go.Ev.DL.int Go.IntKind.u8 x2_1), Go.Ev.SL.d (Go.Ev.DL.int Go.IntKind.u8 x2_2), Go.Ev.SL.d (Go.Ev.DL.int Go.IntKind.u8 x2_3), Go.Ev.SL.d (Go.Ev.DL.int Go.IntKind.u8 x2_4), Go.Ev.SL.d (Go.Ev.DL.int Go.IntKind.u8 x2_5), Go.Ev.SL.d (Go.Ev.DL.int Go.IntKind.u8 x2_6), Go.Ev.SL.d (Go.Ev.DL.int Go.IntKind.u8 x2_7), Go.Ev.SL.d (Go.Ev.DL.int Go.IntKind.u8 x2_8), Go.Ev.SL.d (Go.Ev.DL.int Go.IntKind.u8 x2_9), Go.Ev.SL.d (Go.Ev.DL.int Go.IntKind.u8 x2_10), Go.Ev.SL.d (Go.Ev.DL.int Go.IntKind.u8 x2_11), Go.Ev.SL.d (Go.Ev.DL.int Go.IntKind.u8 x2_12), Go.Ev.SL.d (Go.Ev.DL.int Go.IntKind.u8 x2_13), Go.Ev.SL.d (Go.Ev.DL.int Go.IntKind.u8 x2_14), Go.Ev.SL.d (Go.Ev.DL.int Go.IntKind.u8 x2_15), Go.Ev.SL.d (Go.Ev.DL.int Go.IntKind.u8 x2_16), Go.Ev.SL.d (Go.Ev.DL.int Go.IntKind.u8 x2_17), Go.Ev.SL.d (Go.Ev.DL.int Go.IntKind.u8 x2_18), Go.Ev.SL.d (Go.Ev.DL.int Go.IntKind.u8 x2_19), Go.Ev.SL.d (Go.Ev.DL.int Go.IntKind.u8 x2_20), Go.Ev.SL.d (Go.Ev.DL.int Go.IntKind.u8 x2_21), Go.Ev.SL.d (Go.Ev.DL.int Go.IntKind.u8 x2_22), Go.Ev.SL.d (Go.Ev.DL.int Go.IntKind.u8 x2_23), Go.Ev.SL.d (Go.Ev.DL.int Go.IntKind.u8 x2_24), Go.Ev.SL.d (Go.Ev.DL.int Go.IntKind.u8 x2_25), Go.Ev.SL.d (Go.Ev.DL.int Go.IntKind.u8 x2_26), Go.Ev.SL.d (Go.Ev.DL.int Go.IntKind.u8 x2_27), Go.Ev.SL.d (Go.Ev.DL.int Go.IntKind.u8 x2_28), Go.Ev.SL.d (Go.Ev.DL.int Go.IntKind.u8 x2_29), Go.Ev.SL.d (Go.Ev.DL.int Go.IntKind.u8 x2_30), Go.Ev.SL.d (Go.Ev.DL.int Go.IntKind.u8 x2_31)], Go.Ev.SV.agg [Go.Ev.SL.d (Go.Ev.DL.int Go.IntKind.u8 x3_0), Go.Ev.SL.d (Go.Ev.DL.int Go.IntKind.u8 x3_1), Go.Ev.SL.d (Go.Ev.DL.int Go.IntKind.u8 x3_2), Go.Ev.SL.d (Go.Ev.DL.int Go.IntKind.u8 x3_3), Go.Ev.SL.d (Go.Ev.DL.int Go.IntKind.u8 x3_4), Go.Ev.SL.d (Go.Ev.DL.int Go.IntKind.u8 x3_5), Go.Ev.SL.d (Go.Ev.DL.int Go.IntKind.u8 x3_6), Go.Ev.SL.d (Go.Ev.DL.int Go.IntKind.u8 x3_7), Go.Ev.SL.d (Go.Ev.DL.int Go.IntKind.u8 x3_8), Go.Ev.SL.d (Go.Ev.DL.int Go.IntKind.u8 x3_9), Go.Ev.SL.d (Go.Ev.DL.int Go.IntKind.u8 x3_10), Go.Ev.SL.d (Go.Ev.DL.int Go.IntKind.u8 x3_11), Go.Ev.SL.d (Go.Ev.DL.int Go.IntKind.u8 x3_12), Go.Ev.SL.d (Go.Ev.DL.int Go.IntKind.u8 x3_13), Go.Ev.SL.d (Go.Ev.DL.int Go.IntKind.u8 x3_14), Go.Ev.SL.d (Go.Ev.DL.int Go.IntKind.u8 x3_15), Go.Ev.SL.d (Go.Ev.DL.int Go.IntKind.u8 x3_16), Go.Ev.SL.d (Go.Ev.DL.int Go.IntKind.u8 x3_17), Go.Ev.SL.d (Go.Ev.DL.int Go.IntKind.u8 x3_18), Go.Ev.SL.d (Go.Ev.DL.int Go.IntKind.u8 x3_19), Go.Ev.SL.d (Go.Ev.DL.int Go.IntKind.u8 x3_20), Go.Ev.SL.d (Go.Ev.DL.int Go.IntKind.u8 x3_21), Go.Ev.SL.d (Go.Ev.DL.int Go.IntKind.u8 x3_22), Go.Ev.SL.d (Go.Ev.DL.int Go.IntKind.u8 x3_23), Go.Ev.SL.d (Go.Ev.DL.int Go.IntKind.u8 x3_24), Go.Ev.SL.d (Go.Ev.DL.int Go.IntKind.u8 x3_25), Go.Ev.SL.d (Go.Ev.DL.int Go.IntKind.u8 x3_26), Go.Ev.SL.d (Go.Ev.DL.int Go.IntKind.u8 x3_27), Go.Ev.SL.d (Go.Ev.DL.int Go.IntKind.u8 x3_28), Go.Ev.SL.d (Go.Ev.DL.int Go.IntKind.u8 x3_29), Go.Ev.SL.d (Go.Ev.DL.int Go.IntKind.u8 x3_30), Go.Ev.SL.d (Go.Ev.DL.int Go.IntKind.u8 x3_31)]], []) => some ⟨(x1, [x2_0, x2_1, x2_2, x2_3, x2_4, x2_5, x2_6, x2_7, x2_8, x2_9, x2_10, x2_11, x2_12, x2_13, x2_14, x2_15, x2_16, x2_17, x2_18, x2_19, x2_20, x2_21, x2_22, x2_23, x2_24, x2_25, x2_26, x2_27, x2_28, x2_29, x2_30, x2_31], [x3_0, x3_1, x3_2, x3_3, x3_4, x3_5, x3_6, x3_7, x3_8, x3_9, x3_10, x3_11, x3_12, x3_13, x3_14, x3_15, x3_16, x3_17, x3_18, x3_19, x3_20, x3_21, x3_22, x3_23, x3_24, x3_25, x3_26, x3_27, x3_28, x3_29, x3_30, x3_31]), rfl⟩
  | _ => none
abbrev o65 : Type := List Int
def ret65 : o65 → CSt := fun b => ([Go.Ev.SV.agg (Go.Ev.pkS Go.IntKind.u8 b (32 : Nat))], [])
def retK65 {R : Type} (K : CSt → Option R) : o65 → Option R := fun b => K (([Go.Ev.SV.agg (Go.Ev.pkS Go.IntKind.u8 b (32 : Nat))], []))
theorem retK65_eq {R : Type} (K : CSt → Option R) (b : o65) : retK65 K b = K (ret65 b) := rfl
abbrev Sd65 (f : i65 → Option o65) : Prop := ∀ a b, f a = some b → CallOk Try.prog 65 (enc65 a) (ret65 b)
def ent65 (f : i65 → Option o65) : Ent := mkEnt 65 dec65 ret65 retK65 retK65_eq f
def ann65 : Nat → List Nat × List Nat := fun id => ([], [])
def br65 : FuncId → Bool := fun (g : Nat) => ([67, 72] : List Nat).any (Nat.beq g)
def ar65 : TypeId → Bool := fun (t : Nat) => ([24, 25, 79, 82] : List Nat).any (Nat.beq t)
noncomputable def t65 {R : Type} (sh : Sh) (f47 : i47 → Option o47) (x1 : Int) (x2 : List Int) (x3 : List Int) (k : o65 → Option R) : Option R :=
  sh (Go.Ev.colD (Go.Ev.mapD Go.IntKind.u8 (Go.Ev.pkL x2 (32 : Nat))) : Rows) fun y1 =>
  sh (Go.Ev.colD (Go.Ev.mapD Go.IntKind.u8 (Go.Ev.pkL x3 (32 : Nat))) : Rows) fun y2 =>
  sh (List.replicate (32 : Nat) [Go.Ev.DL.int Go.IntKind.u8 (0 : Int)] : Rows) fun y3 =>
  sh (List.replicate (64 : Nat) [Go.Ev.DL.int Go.IntKind.u8 (0 : Int)] : Rows) fun y4 =>
  bif Bool.true && Decidable.decide (List.length y4 = (64 : Nat)) then
    bif Decidable.decide (List.length y1 = (32 : Nat)) then
      bif Decidable.decide ((32 : Nat) ≤ List.length y4) then
        sh ((↑(Min.min (List.length y1) (32 : Nat)) : Int)) fun y5 =>
        sh ([] ++ List.take (Min.min (List.length y1) (32 : Nat)) y1 ++ List.drop ((0 : Nat) + Min.min (List.length y1) (32 : Nat)) y4 : Rows) fun y6 =>
        bif Bool.true && Decidable.decide (List.length y6 = (64 : Nat)) then
          bif Decidable.decide (List.length y2 = (32 : Nat)) then
            bif Decidable.decide ((64 : Nat) ≤ List.length y6) then
              sh ((↑(Min.min (List.length y2) (32 : Nat)) : Int)) fun y7 =>
              sh (List.take (32 : Nat) y6 ++ List.take (Min.min (List.length y2) (32 : Nat)) y2 ++ List.drop ((32 : Nat) + Min.min (List.length y2) (32 : Nat)) y6 : Rows) fun y8 =>
              bif Decidable.decide (List.length y8 = (64 : Nat)) then
                (f47 (x1, y8)).bind fun (r9 : List Int) =>
                bif Decidable.decide (List.length y3 = (32 : Nat)) then
                  sh (Go.Ev.colD (Go.Ev.mapD Go.IntKind.u8 (Go.Ev.pkL r9 (32 : Nat))) : Rows) fun y10 =>
                  bif Decidable.decide (List.length y10 = (32 : Nat)) then
                    k (Go.Ev.colI y10 (32 : Nat))
                  else none
                else none
              else none
            else none
          else none
        else none
      else none
    else none
  else none
theorem t65_eq {R : Type} (sh : Sh) (hsh : ∀ {α R : Type} (x : α) (K : α → Option R), sh x K = K x) (f47 : i47 → Option o47) (x1 : Int) (x2 : List Int) (x3 : List Int) (K : CSt → Option R) : bodyK Try.prog (tabO sh hsh br65 ar65 [ent47 f47]) (tabL []) ann65 false Try.f65 (enc65 (x1, x2, x3)) K = t65 sh f47 x1 x2 x3 (retK65 K) := by kernel_rfl
theorem t65_law {R : Type} (f47 : i47 → Option o47) (x1 : Int) (x2 : List Int) (x3 : List Int) (K : o65 → Option R) : t65 sh0 f47 x1 x2 x3 K = (t65 sh0 f47 x1 x2 x3 some).bind K := by
  simp only [t65, sh0, cond_bind', two_bind, none_bind', Option.bind_assoc, Option.bind_some]
theorem ok65 (f47 : i47 → Option o47) (hf47 : Sd47 f47) : Sd65 (fun a => t65 sh0 f47 a.1 a.2.1 a.2.2 some) := by
  intro a b h
  refine call_ok (sh := sh0) (hsh := fun _ _ => rfl) (br := br65) (ar := ar65) (own := false) Try.mixed Try.func65 (by kernel_rfl) (.cons (mkEnt_ok hf47) .nil) (fun nt => .nil) ((t65_eq sh0 (fun _ _ => rfl) f47 a.1 a.2.1 a.2.2 _).trans ?_)
  rw [t65_law]
  simp only at h
  rw [h, Option.bind_some, retK65_eq]

/-! 73 erasure/codec.cloned -/
abbrev i73 : Type := Rows
def enc73 : i73 → CSt := fun a => ([Go.Ev.SV.one (Go.Ev.SL.d (Go.Ev.DL.lst (5 : Nat) a))], [])
def dec73 : (c : CSt) → Option { a : i73 // c = enc73 a }
  | ([Go.Ev.SV.one (Go.Ev.SL.d (Go.Ev.DL.lst (5 : Nat) x1))], []) => some ⟨x1, rfl⟩
  | _ => none
abbrev o73 : Type := Rows
def ret73 : o73 → CSt := fun b => ([Go.Ev.SV.one (Go.Ev.SL.vr (0 : Nat))], [Go.Ev.Obj.vec (5 : Nat) Bool.false b])
def retK73 {R : Type} (K : CSt → Option R) : o73 → Option R := fun b => K (([Go.Ev.SV.one (Go.Ev.SL.vr (0 : Nat))], [Go.Ev.Obj.vec (5 : Nat) Bool.false b]))
theorem retK73_eq {R : Type} (K : CSt → Option R) (b : o73) : retK73 K b = K (ret73 b) := rfl
abbrev Sd73 (f : i73 → Option o73) : Prop := ∀ a b, f a = some b → CallOk Try.prog 73 (enc73 a) (ret73 b)
def ent73 (f : i73 → Option o73) : Ent := mkEnt 73 dec73 ret73 retK73 retK73_eq f
def ann73 : Nat → List Nat × List Nat := fun id => ([], [])
def br73 : FuncId → Bool := fun (g : Nat) => ([67, 72] : List Nat).any (Nat.beq g)
def ar73 : TypeId → Bool := fun (t : Nat) => ([24, 25, 79, 82] : List Nat).any (Nat.beq t)
noncomputable def t73 {R : Type} (sh : Sh) (x1 : Rows) (k : o73 → Option R) : Option R :=
  sh ([] : Rows) fun y1 =>
  sh ((↑(List.length x1) : Int)) fun y2 =>
  bif Decidable.decide ((0 : Int) ≤ (0 : Int) ∧ (0 : Int) ≤ Go.IntKind.wrap Go.IntKind.i64 (y2 + (32 : Int))) && Go.Ev.roomE Go.Proofs.Try.prog (5 : Nat) (Int.toNat (Go.IntKind.wrap Go.IntKind.i64 (y2 + (32 : Int)))) then
    sh ([] : Rows) fun y3 =>
    bif Go.Ev.roomE Go.Proofs.Try.prog (5 : Nat) (List.length y3 + List.length x1) then
      sh (y3 ++ x1 : Rows) fun y4 =>
      k (y4)
    else none
  else none
theorem t73_eq {R : Type} (sh : Sh) (hsh : ∀ {α R : Type} (x : α) (K : α → Option R), sh x K = K x) (x1 : Rows) (K : CSt → Option R) : bodyK Try.prog (tabO sh hsh br73 ar73 []) (tabL []) ann73 true Try.f73 (enc73 x1) K = t73 sh x1 (retK73 K) := by kernel_rfl
theorem t73_law {R : Type} (x1 : Rows) (K : o73 → Option R) : t73 sh0 x1 K = (t73 sh0 x1 some).bind K := by
  simp only [t73, sh0, cond_bind', two_bind, none_bind', Option.bind_assoc, Option.bind_some]
theorem ok73 : Sd73 (fun a => t73 sh0 a some) := by
  intro a b h
  refine call_ok (sh := sh0) (hsh := fun _ _ => rfl) (br := br73) (ar := ar73) (own := true) Try.mixed Try.func73 (by kernel_rfl) .nil (fun nt => .nil) ((t73_eq sh0 (fun _ _ => rfl) a _).trans ?_)
  rw [t73_law]
  simp only at h
  rw [h, Option.bind_some, retK73_eq]

/-! 72 erasure/codec.putInt -/
abbrev i72 : Type := Int × Rows
def enc72 : i72 → CSt := fun a => ([Go.Ev.SV.one (Go.Ev.SL.vr (0 : Nat)), Go.Ev.SV.one (Go.Ev.SL.d (Go.Ev.DL.int Go.IntKind.i64 a.1))], [Go.Ev.Obj.vec (5 : Nat) Bool.false a.2])
def dec72 : (c : CSt) → Option { a : i72 // c = enc72 a }
  | ([Go.Ev.SV.one (Go.Ev.SL.vr (0 : Nat)), Go.Ev.SV.one (Go.Ev.SL.d (Go.Ev.DL.int Go.IntKind.i64 x1))], [Go.Ev.Obj.vec (5 : Nat) Bool.false x2]) => some ⟨(x1, x2), rfl⟩
  | _ => none
abbrev o72 : Type := Rows
def ret72 : o72 → CSt := fun b => ([Go.Ev.SV.one (Go.Ev.SL.vr (1 : Nat))], [Go.Ev.Obj.no, Go.Ev.Obj.vec (5 : Nat) Bool.false b])
def retK72 {R : Type} (K : CSt → Option R) : o72 → Option R := fun b => K (([Go.Ev.SV.one (Go.Ev.SL.vr (1 : Nat))], [Go.Ev.Obj.no, Go.Ev.Obj.vec (5 : Nat) Bool.false b]))
theorem retK72_eq {R : Type} (K : CSt → Option R) (b : o72) : retK72 K b = K (ret72 b) := rfl
abbrev Sd72 (f : i72 → Option o72) : Prop := ∀ a b, f a = some b → CallOk Try.prog 72 (enc72 a) (ret72 b)
def ent72 (f : i72 → Option o72) : Ent := mkEnt 72 dec72 ret72 retK72 retK72_eq f
def ann72 : Nat → List Nat × List Nat := fun id => bif Nat.beq id 4 then ([0, 5], [0, 5]) else ([], [])
def br72 : FuncId → Bool := fun (g : Nat) => ([67, 72] : List Nat).any (Nat.beq g)
def ar72 : TypeId → Bool := fun (t : Nat) => ([24, 25, 79, 82] : List Nat).any (Nat.beq t)
abbrev iL72_4 : Type := Int × Rows
def encL72_4 : iL72_4 → CSt := fun a => ([Go.Ev.SV.one (Go.Ev.SL.vr (0 : Nat)), Go.Ev.SV.one (Go.Ev.SL.d (Go.Ev.DL.int Go.IntKind.u64 a.1))], [Go.Ev.Obj.vec (5 : Nat) Bool.false a.2])
def decL72_4 : (c : CSt) → Option { a : iL72_4 // c = encL72_4 a }
  | ([Go.Ev.SV.one (Go.Ev.SL.vr (0 : Nat)), Go.Ev.SV.one (Go.Ev.SL.d (Go.Ev.DL.int Go.IntKind.u64 x1))], [Go.Ev.Obj.vec (5 : Nat) Bool.false x2]) => some ⟨(x1, x2), rfl⟩
  | _ => none
abbrev oL72_4 : Type := (Int × Rows) ⊕ (Int × Rows)
def retL72_4 : oL72_4 → Ex × CSt := two (fun b => (Go.Ev.Ex.exit (0 : Nat), ([Go.Ev.SV.one (Go.Ev.SL.vr (1 : Nat)), Go.Ev.SV.one (Go.Ev.SL.d (Go.Ev.DL.int Go.IntKind.u64 b.1))], [Go.Ev.Obj.no, Go.Ev.Obj.vec (5 : Nat) Bool.false b.2]))) (fun b => (Go.Ev.Ex.exit (0 : Nat), ([Go.Ev.SV.one (Go.Ev.SL.vr (0 : Nat)), Go.Ev.SV.one (Go.Ev.SL.d (Go.Ev.DL.int Go.IntKind.u64 b.1))], [Go.Ev.Obj.vec (5 : Nat) Bool.false b.2])))
def retKL72_4 {R : Type} (K : Ex → CSt → Option R) : oL72_4 → Option R := two (fun b => K (Go.Ev.Ex.exit (0 : Nat)) (([Go.Ev.SV.one (Go.Ev.SL.vr (1 : Nat)), Go.Ev.SV.one (Go.Ev.SL.d (Go.Ev.DL.int Go.IntKind.u64 b.1))], [Go.Ev.Obj.no, Go.Ev.Obj.vec (5 : Nat) Bool.false b.2]))) (fun b => K (Go.Ev.Ex.exit (0 : Nat)) (([Go.Ev.SV.one (Go.Ev.SL.vr (0 : Nat)), Go.Ev.SV.one (Go.Ev.SL.d (Go.Ev.DL.int Go.IntKind.u64 b.1))], [Go.Ev.Obj.vec (5 : Nat) Bool.false b.2])))
theorem retKL72_4_eq {R : Type} (K : Ex → CSt → Option R) (b : oL72_4) : retKL72_4 K b = K (retL72_4 b).1 (retL72_4 b).2 := by
  unfold retKL72_4 retL72_4
  repeat' (first | rfl | cases b with | inl b => rfl | inr b => ?_)
def entL72_4 (l : iL72_4 → Option oL72_4) : LEnt := mkLEnt 4 decL72_4 retL72_4 retKL72_4 retKL72_4_eq l
abbrev SdL72_4 (l : iL72_4 → Option oL72_4) : Prop := ∀ nt a b, l a = some b → LoopAt Try.prog nt 1 ann72 Try.f72 4 (encL72_4 a) (retL72_4 b)
abbrev iL72_4v1 : Type := Int × Rows
def encL72_4v1 : iL72_4v1 → CSt := fun a => ([Go.Ev.SV.one (Go.Ev.SL.vr (1 : Nat)), Go.Ev.SV.one (Go.Ev.SL.d (Go.Ev.DL.int Go.IntKind.u64 a.1))], [Go.Ev.Obj.no, Go.Ev.Obj.vec (5 : Nat) Bool.false a.2])
def decL72_4v1 : (c : CSt) → Option { a : iL72_4v1 // c = encL72_4v1 a }
  | ([Go.Ev.SV.one (Go.Ev.SL.vr (1 : Nat)), Go.Ev.SV.one (Go.Ev.SL.d (Go.Ev.DL.int Go.IntKind.u64 x1))], [Go.Ev.Obj.no, Go.Ev.Obj.vec (5 : Nat) Bool.false x2]) => some ⟨(x1, x2), rfl⟩
  | _ => none
abbrev oL72_4v1 : Type := Int × Rows
def retL72_4v1 : oL72_4v1 → Ex × CSt := fun b => (Go.Ev.Ex.exit (0 : Nat), ([Go.Ev.SV.one (Go.Ev.SL.vr (1 : Nat)), Go.Ev.SV.one (Go.Ev.SL.d (Go.Ev.DL.int Go.IntKind.u64 b.1))], [Go.Ev.Obj.no, Go.Ev.Obj.vec (5 : Nat) Bool.false b.2]))
def retKL72_4v1 {R : Type} (K : Ex → CSt → Option R) : oL72_4v1 → Option R := fun b => K (Go.Ev.Ex.exit (0 : Nat)) (([Go.Ev.SV.one (Go.Ev.SL.vr (1 : Nat)), Go.Ev.SV.one (Go.Ev.SL.d (Go.Ev.DL.int Go.IntKind.u64 b.1))], [Go.Ev.Obj.no, Go.Ev.Obj.vec (5 : Nat) Bool.false b.2]))
theorem retKL72_4v1_eq {R : Type} (K : Ex → CSt → Option R) (b : oL72_4v1) : retKL72_4v1 K b = K (retL72_4v1 b).1 (retL72_4v1 b).2 := rfl
def entL72_4v1 (l : iL72_4v1 → Option oL72_4v1) : LEnt := mkLEnt 4 decL72_4v1 retL72_4v1 retKL72_4v1 retKL72_4v1_eq l
abbrev SdL72_4v1 (l : iL72_4v1 → Option oL72_4v1) : Prop := ∀ nt a b, l a = some b → LoopAt Try.prog nt 1 ann72 Try.f72 4 (encL72_4v1 a) (retL72_4v1 b)
noncomputable def u72_4 {R : Type} (sh : Sh) (l72_4v1 : iL72_4v1 → Option oL72_4v1) (x1 : Int) (x2 : Rows) (k : oL72_4 → Option R) : Option R :=
  bif Decidable.decide (x1 ≥ (128 : Int)) then
    sh (Go.IntKind.wrap Go.IntKind.u8 (↑(BitVec.toNat (BitVec.ofInt (8 : Nat) (Go.IntKind.wrap Go.IntKind.u8 x1) ||| BitVec.ofInt (8 : Nat) (128 : Int))) : Int)) fun y3 =>
    sh ([[Go.Ev.DL.int Go.IntKind.u8 y3]] : Rows) fun y4 =>
    bif Go.Ev.roomE Go.Proofs.Try.prog (5 : Nat) (List.length x2 + List.length y4) then
      sh (x2 ++ y4 : Rows) fun y5 =>
      (l72_4v1 (Int.fdiv x1 (128 : Int), y5)).bind fun (r9 : Int × Rows) =>
      k ((.inl (Prod.fst r9, Prod.snd r9)))
    else none
  else
    k ((.inr (x1, x2)))
theorem u72_4_eq {R : Type} (sh : Sh) (hsh : ∀ {α R : Type} (x : α) (K : α → Option R), sh x K = K x) (l72_4v1 : iL72_4v1 → Option oL72_4v1) (x1 : Int) (x2 : Rows) (K : Ex → CSt → Option R) : roundK Try.prog (tabO sh hsh br72 ar72 []) (tabL [entL72_4v1 l72_4v1]) ann72 1 Try.f72 4 (encL72_4 (x1, x2)) K = u72_4 sh l72_4v1 x1 x2 (retKL72_4 K) := by kernel_rfl
theorem u72_4_law {R : Type} (l72_4v1 : iL72_4v1 → Option oL72_4v1) (x1 : Int) (x2 : Rows) (K : oL72_4 → Option R) : u72_4 sh0 l72_4v1 x1 x2 K = (u72_4 sh0 l72_4v1 x1 x2 some).bind K := by
  simp only [u72_4, sh0, cond_bind', two_bind, none_bind', Option.bind_assoc, Option.bind_some]
theorem okL72_4 (l72_4v1 : iL72_4v1 → Option oL72_4v1) (hl72_4v1 : SdL72_4v1 l72_4v1) : SdL72_4 (fun a => u72_4 sh0 l72_4v1 a.1 a.2 some) := by
  intro nt a b h
  refine round_ok (sh := sh0) (hsh := fun _ _ => rfl) (br := br72) (ar := ar72) Try.mixed (by kernel_rfl) .nil (.cons (mkLEnt_ok (hl72_4v1 nt)) .nil) ((u72_4_eq sh0 (fun _ _ => rfl) l72_4v1  a.1 a.2 _).trans ?_)
  rw [u72_4_law]
  simp only at h
  rw [h, Option.bind_some, retKL72_4_eq]
noncomputable def u72_4v1 {R : Type} (sh : Sh) (l72_4v1 : iL72_4v1 → Option oL72_4v1) (x1 : Int) (x2 : Rows) (k : oL72_4v1 → Option R) : Option R :=
  bif Decidable.decide (x1 ≥ (128 : Int)) then
    sh (Go.IntKind.wrap Go.IntKind.u8 (↑(BitVec.toNat (BitVec.ofInt (8 : Nat) (Go.IntKind.wrap Go.IntKind.u8 x1) ||| BitVec.ofInt (8 : Nat) (128 : Int))) : Int)) fun y6 =>
    sh ([[Go.Ev.DL.int Go.IntKind.u8 y6]] : Rows) fun y7 =>
    bif Go.Ev.roomE Go.Proofs.Try.prog (5 : Nat) (List.length x2 + List.length y7) then
      sh (x2 ++ y7 : Rows) fun y8 =>
      (l72_4v1 (Int.fdiv x1 (128 : Int), y8)).bind k
    else none
  else
    k ((x1, x2))
theorem u72_4v1_eq {R : Type} (sh : Sh) (hsh : ∀ {α R : Type} (x : α) (K : α → Option R), sh x K = K x) (l72_4v1 : iL72_4v1 → Option oL72_4v1) (x1 : Int) (x2 : Rows) (K : Ex → CSt → Option R) : roundK Try.prog (tabO sh hsh br72 ar72 []) (tabL [entL72_4v1 l72_4v1]) ann72 1 Try.f72 4 (encL72_4v1 (x1, x2)) K = u72_4v1 sh l72_4v1 x1 x2 (retKL72_4v1 K) := by kernel_rfl
theorem u72_4v1_law {R : Type} (l72_4v1 : iL72_4v1 → Option oL72_4v1) (x1 : Int) (x2 : Rows) (K : oL72_4v1 → Option R) : u72_4v1 sh0 l72_4v1 x1 x2 K = (u72_4v1 sh0 l72_4v1 x1 x2 some).bind K := by
  simp only [u72_4v1, sh0, cond_bind', two_bind, none_bind', Option.bind_assoc, Option.bind_some]
theorem okL72_4v1 (l72_4v1 : iL72_4v1 → Option oL72_4v1) (hl72_4v1 : SdL72_4v1 l72_4v1) : SdL72_4v1 (fun a => u72_4v1 sh0 l72_4v1 a.1 a.2 some) := by
  intro nt a b h
  refine round_ok (sh := sh0) (hsh := fun _ _ => rfl) (br := br72) (ar := ar72) Try.mixed (by kernel_rfl) .nil (.cons (mkLEnt_ok (hl72_4v1 nt)) .nil) ((u72_4v1_eq sh0 (fun _ _ => rfl) l72_4v1  a.1 a.2 _).trans ?_)
  rw [u72_4v1_law]
  simp only at h
  rw [h, Option.bind_some, retKL72_4v1_eq]
noncomputable def t72 {R : Type} (sh : Sh) (l72_4 : iL72_4 → Option oL72_4) (x1 : Int) (x2 : Rows) (k : o72 → Option R) : Option R :=
  sh ([] : Rows) fun y1 =>
  bif Decidable.decide (x1 < (0 : Int)) then
    sh (Go.IntKind.wrap Go.IntKind.u64 (↑(BitVec.toNat (BitVec.ofInt (64 : Nat) (18446744073709551615 : Int) ^^^ BitVec.ofInt (64 : Nat) (Go.IntKind.wrap Go.IntKind.u64 (Go.IntKind.wrap Go.IntKind.u64 x1 * (2 : Int))))) : Int)) fun y2 =>
    (l72_4 (y2, x2)).bind (two (fun (r10 : Int × Rows) =>
      sh ([[Go.Ev.DL.int Go.IntKind.u8 (Go.IntKind.wrap Go.IntKind.u8 (Prod.fst r10))]] : Rows) fun y11 =>
      bif Go.Ev.roomE Go.Proofs.Try.prog (5 : Nat) (List.length (Prod.snd r10) + List.length y11) then
        sh (Prod.snd r10 ++ y11 : Rows) fun y12 =>
        k (y12)
      else none
    ) (fun (r13 : Int × Rows) =>
      sh ([[Go.Ev.DL.int Go.IntKind.u8 (Go.IntKind.wrap Go.IntKind.u8 (Prod.fst r13))]] : Rows) fun y14 =>
      bif Go.Ev.roomE Go.Proofs.Try.prog (5 : Nat) (List.length (Prod.snd r13) + List.length y14) then
        sh (Prod.snd r13 ++ y14 : Rows) fun y15 =>
        k (y15)
      else none
    ))
  else
    (l72_4 (Go.IntKind.wrap Go.IntKind.u64 (Go.IntKind.wrap Go.IntKind.u64 x1 * (2 : Int)), x2)).bind (two (fun (r17 : Int × Rows) =>
      sh ([[Go.Ev.DL.int Go.IntKind.u8 (Go.IntKind.wrap Go.IntKind.u8 (Prod.fst r17))]] : Rows) fun y18 =>
      bif Go.Ev.roomE Go.Proofs.Try.prog (5 : Nat) (List.length (Prod.snd r17) + List.length y18) then
        sh (Prod.snd r17 ++ y18 : Rows) fun y19 =>
        k (y19)
      else none
    ) (fun (r20 : Int × Rows) =>
      sh ([[Go.Ev.DL.int Go.IntKind.u8 (Go.IntKind.wrap Go.IntKind.u8 (Prod.fst r20))]] : Rows) fun y21 =>
      bif Go.Ev.roomE Go.Proofs.Try.prog (5 : Nat) (List.length (Prod.snd r20) + List.length y21) then
        sh (Prod.snd r20 ++ y21 : Rows) fun y22 =>
        k (y22)
      else none
    ))
theorem t72_eq {R : Type} (sh : Sh) (hsh : ∀ {α R : Type} (x : α) (K : α → Option R), sh x K = K x) (l72_4 : iL72_4 → Option oL72_4) (x1 : Int) (x2 : Rows) (K : CSt → Option R) : bodyK Try.prog (tabO sh hsh br72 ar72 []) (tabL [entL72_4 l72_4]) ann72 true Try.f72 (enc72 (x1, x2)) K = t72 sh l72_4 x1 x2 (retK72 K) := by kernel_rfl
theorem t72_law {R : Type} (l72_4 : iL72_4 → Option oL72_4) (x1 : Int) (x2 : Rows) (K : o72 → Option R) : t72 sh0 l72_4 x1 x2 K = (t72 sh0 l72_4 x1 x2 some).bind K := by
  simp only [t72, sh0, cond_bind', two_bind, none_bind', Option.bind_assoc, Option.bind_some]
theorem ok72 (l72_4 : iL72_4 → Option oL72_4) (hl72_4 : SdL72_4 l72_4) : Sd72 (fun a => t72 sh0 l72_4 a.1 a.2 some) := by
  intro a b h
  refine call_ok (sh := sh0) (hsh := fun _ _ => rfl) (br := br72) (ar := ar72) (own := true) Try.mixed Try.func72 (by kernel_rfl) .nil (fun nt => (.cons (mkLEnt_ok (hl72_4 nt)) .nil)) ((t72_eq sh0 (fun _ _ => rfl) l72_4 a.1 a.2 _).trans ?_)
  rw [t72_law]
  simp only at h
  rw [h, Option.bind_some, retK72_eq]

/-! 62 erasure/codec.AppendInt -/
abbrev i62 : Type := Rows × Int
def enc62 : i62 → CSt := fun a => ([Go.Ev.SV.one (Go.Ev.SL.d (Go.Ev.DL.lst (5 : Nat) a.1)), Go.Ev.SV.one (Go.Ev.SL.d (Go.Ev.DL.int Go.IntKind.i64 a.2))], [])
def dec62 : (c : CSt) → Option { a : i62 // c = enc62 a }
  | ([Go.Ev.SV.one (Go.Ev.SL.d (Go.Ev.DL.lst (5 : Nat) x1)), Go.Ev.SV.one (Go.Ev.SL.d (Go.Ev.DL.int Go.IntKind.i64 x2))], []) => some ⟨(x1, x2), rfl⟩
  | _ => none
abbrev o62 : Type := Rows
def ret62 : o62 → CSt := fun b => ([Go.Ev.SV.one (Go.Ev.SL.vr (0 : Nat))], [Go.Ev.Obj.vec (5 : Nat) Bool.false b])
def retK62 {R : Type} (K : CSt → Option R) : o62 → Option R := fun b => K (([Go.Ev.SV.one (Go.Ev.SL.vr (0 : Nat))], [Go.Ev.Obj.vec (5 : Nat) Bool.false b]))
theorem retK62_eq {R : Type} (K : CSt → Option R) (b : o62) : retK62 K b = K (ret62 b) := rfl
abbrev Sd62 (f : i62 → Option o62) : Prop := ∀ a b, f a = some b → CallOk Try.prog 62 (enc62 a) (ret62 b)
def ent62 (f : i62 → Option o62) : Ent := mkEnt 62 dec62 ret62 retK62 retK62_eq f
def ann62 : Nat → List Nat × List Nat := fun id => ([], [])
def br62 : FuncId → Bool := fun (g : Nat) => ([67, 72] : List Nat).any (Nat.beq g)
def ar62 : TypeId → Bool := fun (t : Nat) => ([24, 25, 79, 82] : List Nat).any (Nat.beq t)
noncomputable def t62 {R : Type} (sh : Sh) (f73 : i73 → Option o73) (f72 : i72 → Option o72) (x1 : Rows) (x2 : Int) (k : o62 → Option R) : Option R :=
  sh ([] : Rows) fun y1 =>
  (f73 (x1)).bind fun (r2 : Rows) =>
  (f72 (x2, r2)).bind fun (r3 : Rows) =>
  k (r3)
theorem t62_eq {R : Type} (sh : Sh) (hsh : ∀ {α R : Type} (x : α) (K : α → Option R), sh x K = K x) (f73 : i73 → Option o73) (f72 : i72 → Option o72) (x1 : Rows) (x2 : Int) (K : CSt → Option R) : bodyK Try.prog (tabO sh hsh br62 ar62 [ent73 f73, ent72 f72]) (tabL []) ann62 true Try.f62 (enc62 (x1, x2)) K = t62 sh f73 f72 x1 x2 (retK62 K) := by kernel_rfl
theorem t62_law {R : Type} (f73 : i73 → Option o73) (f72 : i72 → Option o72) (x1 : Rows) (x2 : Int) (K : o62 → Option R) : t62 sh0 f73 f72 x1 x2 K = (t62 sh0 f73 f72 x1 x2 some).bind K := by
  simp only [t62, sh0, cond_bind', two_bind, none_bind', Option.bind_assoc, Option.bind_some]
theorem ok62 (f73 : i73 → Option o73) (f72 : i72 → Option o72) (hf73 : Sd73 f73) (hf72 : Sd72 f72) : Sd62 (fun a => t62 sh0 f73 f72 a.1 a.2 some) := by
  intro a b h
  refine call_ok (sh := sh0) (hsh := fun _ _ => rfl) (br := br62) (ar := ar62) (own := true) Try.mixed Try.func62 (by kernel_rfl) (.cons (mkEnt_ok hf73) (.cons (mkEnt_ok hf72) .nil)) (fun nt => .nil) ((t62_eq sh0 (fun _ _ => rfl) f73 f72 a.1 a.2 _).trans ?_)
  rw [t62_law]
  simp only at h
  rw [h, Option.bind_some, retK62_eq]

/-! 71 erasure/erasureref25.Bytes -/
abbrev i71 : Type := List Int
def enc71 : i71 → CSt := fun a => ([Go.Ev.SV.agg (Go.Ev.pkS Go.IntKind.u8 a (32 : Nat))], [])
def dec71 : (c : CSt) → Option { a : i71 // c = enc71 a }
  | ([Go.Ev.SV.agg [Go.Ev.SL.d (Go.Ev.DL.int Go.IntKind.u8 x1_0), Go.Ev.SL.d (Go.Ev.DL.int Go.IntKind.u8 x1_1), Go.Ev.SL.d (Go.Ev.DL.int Go.IntKind.u8 x1_2), Go.Ev.SL.d (Go.Ev.DL.int Go.IntKind.u8 x1_3), Go.Ev.SL.d (Go.Ev.DL.int Go.IntKind.u8 x1_4), Go.Ev.SL.d (Go.Ev.DL.int Go.IntKind.u8 x1_5), Go.Ev.SL.d (Go.Ev.DL.int Go.IntKind.u8 x1_6), Go.Ev.SL.d (Go.Ev.DL.int Go.IntKind.u8 x1_7), Go.Ev.SL.d (Go.Ev.DL.int Go.IntKind.u8 x1_8), Go.Ev.SL.d (Go.Ev.DL.int Go.IntKind.u8 x1_9), Go.Ev.SL.d (Go.Ev.DL.int Go.IntKind.u8 x1_10), Go.Ev.SL.d (Go.Ev.DL.int Go.IntKind.u8 x1_11), Go.Ev.SL.d (Go.Ev.DL.int Go.IntKind.u8 x1_12), Go.Ev.SL.d (Go.Ev.DL.int Go.IntKind.u8 x1_13), Go.Ev.SL.d (Go.Ev.DL.int Go.IntKind.u8 x1_14), Go.Ev.SL.d (Go.Ev.DL.int Go.IntKind.u8 x1_15), Go.Ev.SL.d (Go.Ev.DL.int Go.IntKind.u8 x1_16), Go.Ev.SL.d (Go.Ev.DL.int Go.IntKind.u8 x1_17), Go.Ev.SL.d (Go.Ev.DL.int Go.IntKind.u8 x1_18), Go.Ev.SL.d (Go.Ev.DL.int Go.IntKind.u8 x1_19), Go.Ev.SL.d (Go.Ev.DL.int Go.IntKind.u8 x1_20), Go.Ev.SL.d (Go.Ev.DL.int Go.IntKind.u8 x1_21), Go.Ev.SL.d (Go.Ev.DL.int Go.IntKind.u8 x1_22), Go.Ev.SL.d (Go.Ev.DL.int Go.IntKind.u8 x1_23), Go.Ev.SL.d (Go.Ev.DL.int Go.IntKind.u8 x1_24), Go.Ev.SL.d (Go.Ev.DL.int Go.IntKind.u8 x1_25), Go.Ev.SL.d (Go.Ev.DL.int Go.IntKind.u8 x1_26), Go.Ev.SL.d (Go.Ev.DL.int Go.IntKind.u8 x1_27), Go.Ev.SL.d (Go.Ev.DL.int Go.IntKind.u8 x1_28), Go.Ev.SL.d (Go.Ev.DL.int Go.IntKind.u8 x1_29), Go.Ev.SL.d (Go.Ev.DL.int Go.IntKind.u8 x1_30), Go.Ev.SL.d (Go.Ev.DL.int Go.IntKind.u8 x1_31)]], []) => some ⟨[x1_0, x1_1, x1_2, x1_3, x1_4, x1_5, x1_6, x1_7, x1_8, x1_9, x1_10, x1_11, x1_12, x1_13, x1_14, x1_15, x1_16, x1_17, x1_18, x1_19, x1_20, x1_21, x1_22, x1_23, x1_24, x1_25, x1_26, x1_27, x1_28, x1_29, x1_30, x1_31], rfl⟩
  | _ => none
abbrev o71 : Type := Rows
def ret71 : o71 → CSt := fun b => ([Go.Ev.SV.one (Go.Ev.SL.vr (0 : Nat))], [Go.Ev.Obj.vec (5 : Nat) Bool.false b])
def retK71 {R : Type} (K : CSt → Option R) : o71 → Option R := fun b => K (([Go.Ev.SV.one (Go.Ev.SL.vr (0 : Nat))], [Go.Ev.Obj.vec (5 : Nat) Bool.false b]))
theorem retK71_eq {R : Type} (K : CSt → Option R) (b : o71) : retK71 K b = K (ret71 b) := rfl
abbrev Sd71 (f : i71 → Option o71) : Prop := ∀ a b, f a = some b → CallOk Try.prog 71 (enc71 a) (ret71 b)
def ent71 (f : i71 → Option o71) : Ent := mkEnt 71 dec71 ret71 retK71 retK71_eq f
def ann71 : Nat → List Nat × List Nat := fun id => bif Nat.beq id 3 then ([1, 3, 4], [3]) else ([], [])
def br71 : FuncId → Bool := fun (g : Nat) => ([67, 72] : List Nat).any (Nat.beq g)
def ar71 : TypeId → Bool := fun (t : Nat) => ([24, 25, 79, 82] : List Nat).any (Nat.beq t)
abbrev iL71_3 : Type := Int × Rows × Rows
def encL71_3 : iL71_3 → CSt := fun a => ([Go.Ev.SV.one (Go.Ev.SL.ept (0 : Nat) (0 : Nat) (0 : Nat)), Go.Ev.SV.one (Go.Ev.SL.vr (1 : Nat)), Go.Ev.SV.one (Go.Ev.SL.d (Go.Ev.DL.int Go.IntKind.i64 a.1))], [Go.Ev.Obj.vec (5 : Nat) Bool.false a.2.1, Go.Ev.Obj.vec (5 : Nat) Bool.false a.2.2])
def decL71_3 : (c : CSt) → Option { a : iL71_3 // c = encL71_3 a }
  | ([Go.Ev.SV.one (Go.Ev.SL.ept (0 : Nat) (0 : Nat) (0 : Nat)), Go.Ev.SV.one (Go.Ev.SL.vr (1 : Nat)), Go.Ev.SV.one (Go.Ev.SL.d (Go.Ev.DL.int Go.IntKind.i64 x1))], [Go.Ev.Obj.vec (5 : Nat) Bool.false x2, Go.Ev.Obj.vec (5 : Nat) Bool.false x3]) => some ⟨(x1, x2, x3), rfl⟩
  | _ => none
abbrev oL71_3 : Type := Rows
def retL71_3 : oL71_3 → Ex × CSt := fun b => (Go.Ev.Ex.exit (0 : Nat), ([Go.Ev.SV.one (Go.Ev.SL.vr (0 : Nat))], [Go.Ev.Obj.vec (5 : Nat) Bool.false b]))
def retKL71_3 {R : Type} (K : Ex → CSt → Option R) : oL71_3 → Option R := fun b => K (Go.Ev.Ex.exit (0 : Nat)) (([Go.Ev.SV.one (Go.Ev.SL.vr (0 : Nat))], [Go.Ev.Obj.vec (5 : Nat) Bool.false b]))
theorem retKL71_3_eq {R : Type} (K : Ex → CSt → Option R) (b : oL71_3) : retKL71_3 K b = K (retL71_3 b).1 (retL71_3 b).2 := rfl
def entL71_3 (l : iL71_3 → Option oL71_3) : LEnt := mkLEnt 3 decL71_3 retL71_3 retKL71_3 retKL71_3_eq l
abbrev SdL71_3 (l : iL71_3 → Option oL71_3) : Prop := ∀ nt a b, l a = some b → LoopAt Try.prog nt 0 ann71 Try.f71 3 (encL71_3 a) (retL71_3 b)
noncomputable def u71_3 {R : Type} (sh : Sh) (l71_3 : iL71_3 → Option oL71_3) (x1 : Int) (x2 : Rows) (x3 : Rows) (k : oL71_3 → Option R) : Option R :=
  bif Decidable.decide (x1 < (32 : Int)) then
    bif Decidable.decide ((0 : Int) ≤ x1 ∧ x1 < (32 : Int)) then
      bif Decidable.decide (Int.toNat x1 < List.length x2) then
        sh (Go.Ev.DL.getI (Go.Ev.cellAt x2 (Int.toNat x1) (0 : Nat))) fun y4 =>
        sh ([[Go.Ev.DL.int Go.IntKind.u8 y4]] : Rows) fun y5 =>
        bif Go.Ev.roomE Go.Proofs.Try.prog (5 : Nat) (List.length x3 + List.length y5) then
          sh (x3 ++ y5 : Rows) fun y6 =>
          (l71_3 (Go.IntKind.wrap Go.IntKind.i64 (x1 + (1 : Int)), x2, y6)).bind k
        else none
      else none
    else none
  else
    k (x3)
theorem u71_3_eq {R : Type} (sh : Sh) (hsh : ∀ {α R : Type} (x : α) (K : α → Option R), sh x K = K x) (l71_3 : iL71_3 → Option oL71_3) (x1 : Int) (x2 : Rows) (x3 : Rows) (K : Ex → CSt → Option R) : roundK Try.prog (tabO sh hsh br71 ar71 []) (tabL [entL71_3 l71_3]) ann71 0 Try.f71 3 (encL71_3 (x1, x2, x3)) K = u71_3 sh l71_3 x1 x2 x3 (retKL71_3 K) := by kernel_rfl
theorem u71_3_law {R : Type} (l71_3 : iL71_3 → Option oL71_3) (x1 : Int) (x2 : Rows) (x3 : Rows) (K : oL71_3 → Option R) : u71_3 sh0 l71_3 x1 x2 x3 K = (u71_3 sh0 l71_3 x1 x2 x3 some).bind K := by
  simp only [u71_3, sh0, cond_bind', two_bind, none_bind', Option.bind_assoc, Option.bind_some]
theorem okL71_3 (l71_3 : iL71_3 → Option oL71_3) (hl71_3 : SdL71_3 l71_3) : SdL71_3 (fun a => u71_3 sh0 l71_3 a.1 a.2.1 a.2.2 some) := by
  intro nt a b h
  refine round_ok (sh := sh0) (hsh := fun _ _ => rfl) (br := br71) (ar := ar71) Try.mixed (by kernel_rfl) .nil (.cons (mkLEnt_ok (hl71_3 nt)) .nil) ((u71_3_eq sh0 (fun _ _ => rfl) l71_3  a.1 a.2.1 a.2.2 _).trans ?_)
  rw [u71_3_law]
  simp only at h
  rw [h, Option.bind_some, retKL71_3_eq]
noncomputable def t71 {R : Type} (sh : Sh) (l71_3 : iL71_3 → Option oL71_3) (x1 : List Int) (k : o71 → Option R) : Option R :=
  sh (Go.Ev.colD (Go.Ev.mapD Go.IntKind.u8 (Go.Ev.pkL x1 (32 : Nat))) : Rows) fun y1 =>
  sh ([] : Rows) fun y2 =>
  sh ([] : Rows) fun y3 =>
  (l71_3 ((0 : Int), y1, y3)).bind fun (r7 : Rows) =>
  k (r7)
theorem t71_eq {R : Type} (sh : Sh) (hsh : ∀ {α R : Type} (x : α) (K : α → Option R), sh x K = K x) (l71_3 : iL71_3 → Option oL71_3) (x1 : List Int) (K : CSt → Option R) : bodyK Try.prog (tabO sh hsh br71 ar71 []) (tabL [entL71_3 l71_3]) ann71 true Try.f71 (enc71 x1) K = t71 sh l71_3 x1 (retK71 K) := by kernel_rfl
theorem t71_law {R : Type} (l71_3 : iL71_3 → Option oL71_3) (x1 : List Int) (K : o71 → Option R) : t71 sh0 l71_3 x1 K = (t71 sh0 l71_3 x1 some).bind K := by
  simp only [t71, sh0, cond_bind', two_bind, none_bind', Option.bind_assoc, Option.bind_some]
theorem ok71 (l71_3 : iL71_3 → Option oL71_3) (hl71_3 : SdL71_3 l71_3) : Sd71 (fun a => t71 sh0 l71_3 a some) := by
  intro a b h
  refine call_ok (sh := sh0) (hsh := fun _ _ => rfl) (br := br71) (ar := ar71) (own := true) Try.mixed Try.func71 (by kernel_rfl) .nil (fun nt => (.cons (mkLEnt_ok (hl71_3 nt)) .nil)) ((t71_eq sh0 (fun _ _ => rfl) l71_3 a _).trans ?_)
  rw [t71_law]
  simp only at h
  rw [h, Option.bind_some, retK71_eq]

/-! 79 erasure/erasureref25.rotate -/
abbrev i79 : Type := Int × Int
def enc79 : i79 → CSt := fun a => ([Go.Ev.SV.one (Go.Ev.SL.d (Go.Ev.DL.int Go.IntKind.u64 a.1)), Go.Ev.SV.one (Go.Ev.SL.d (Go.Ev.DL.int Go.IntKind.i64 a.2))], [])
def dec79 : (c : CSt) → Option { a : i79 // c = enc79 a }
  | ([Go.Ev.SV.one (Go.Ev.SL.d (Go.Ev.DL.int Go.IntKind.u64 x1)), Go.Ev.SV.one (Go.Ev.SL.d (Go.Ev.DL.int Go.IntKind.i64 x2))], []) => some ⟨(x1, x2), rfl⟩
  | _ => none
abbrev o79 : Type := Int
def ret79 : o79 → CSt := fun b => ([Go.Ev.SV.one (Go.Ev.SL.d (Go.Ev.DL.int Go.IntKind.u64 b))], [])
def retK79 {R : Type} (K : CSt → Option R) : o79 → Option R := fun b => K (([Go.Ev.SV.one (Go.Ev.SL.d (Go.Ev.DL.int Go.IntKind.u64 b))], []))
theorem retK79_eq {R : Type} (K : CSt → Option R) (b : o79) : retK79 K b = K (ret79 b) := rfl
abbrev Sd79 (f : i79 → Option o79) : Prop := ∀ a b, f a = some b → CallOk Try.prog 79 (enc79 a) (ret79 b)
def ent79 (f : i79 → Option o79) : Ent := mkEnt 79 dec79 ret79 retK79 retK79_eq f
def ann79 : Nat → List Nat × List Nat := fun id => ([], [])
def br79 : FuncId → Bool := fun (g : Nat) => ([67, 72] : List Nat).any (Nat.beq g)
def ar79 : TypeId → Bool := fun (t : Nat) => ([24, 25, 79, 82] : List Nat).any (Nat.beq t)
noncomputable def t79 {R : Type} (sh : Sh) (x1 : Int) (x2 : Int) (k : o79 → Option R) : Option R :=
  bif Decidable.decide ((0 : Int) ≤ x2) then
    sh (Int.fdiv x1 ((2 : Int) ^ Min.min (Int.toNat x2) (64 : Nat))) fun y1 =>
    bif Decidable.decide ((0 : Int) ≤ Go.IntKind.wrap Go.IntKind.i64 ((64 : Int) - x2)) then
      sh (Go.IntKind.wrap Go.IntKind.u64 (x1 * (2 : Int) ^ Min.min (Int.toNat (Go.IntKind.wrap Go.IntKind.i64 ((64 : Int) - x2))) (64 : Nat))) fun y2 =>
      sh (Go.IntKind.wrap Go.IntKind.u64 (↑(BitVec.toNat (BitVec.ofInt (64 : Nat) y1 ||| BitVec.ofInt (64 : Nat) y2)) : Int)) fun y3 =>
      k (y3)
    else none
  else none
theorem t79_eq {R : Type} (sh : Sh) (hsh : ∀ {α R : Type} (x : α) (K : α → Option R), sh x K = K x) (x1 : Int) (x2 : Int) (K : CSt → Option R) : bodyK Try.prog (tabO sh hsh br79 ar79 []) (tabL []) ann79 false Try.f79 (enc79 (x1, x2)) K = t79 sh x1 x2 (retK79 K) := by kernel_rfl
theorem t79_law {R : Type} (x1 : Int) (x2 : Int) (K : o79 → Option R) : t79 sh0 x1 x2 K = (t79 sh0 x1 x2 some).bind K := by
  simp only [t79, sh0, cond_bind', two_bind, none_bind', Option.bind_assoc, Option.bind_some]
theorem ok79 : Sd79 (fun a => t79 sh0 a.1 a.2 some) := by
  intro a b h
  refine call_ok (sh := sh0) (hsh := fun _ _ => rfl) (br := br79) (ar := ar79) (own := false) Try.mixed Try.func79 (by kernel_rfl) .nil (fun nt => .nil) ((t79_eq sh0 (fun _ _ => rfl) a.1 a.2 _).trans ?_)
  rw [t79_law]
  simp only at h
  rw [h, Option.bind_some, retK79_eq]

/-! 76 erasure/erasureref25.Permute -/
abbrev i76 : Type := Int × Int × Int × Int × Int
def enc76 : i76 → CSt := fun a => ([Go.Ev.SV.agg [Go.Ev.SL.d (Go.Ev.DL.int Go.IntKind.u64 a.1), Go.Ev.SL.d (Go.Ev.DL.int Go.IntKind.u64 a.2.1), Go.Ev.SL.d (Go.Ev.DL.int Go.IntKind.u64 a.2.2.1), Go.Ev.SL.d (Go.Ev.DL.int Go.IntKind.u64 a.2.2.2.1), Go.Ev.SL.d (Go.Ev.DL.int Go.IntKind.u64 a.2.2.2.2)]], [])
def dec76 : (c : CSt) → Option { a : i76 // c = enc76 a }
  | ([Go.Ev.SV.agg [Go.Ev.SL.d (Go.Ev.DL.int Go.IntKind.u64 x1), Go.Ev.SL.d (Go.Ev.DL.int Go.IntKind.u64 x2), Go.Ev.SL.d (Go.Ev.DL.int Go.IntKind.u64 x3), Go.Ev.SL.d (Go.Ev.DL.int Go.IntKind.u64 x4), Go.Ev.SL.d (Go.Ev.DL.int Go.IntKind.u64 x5)]], []) => some ⟨(x1, x2, x3, x4, x5), rfl⟩
  | _ => none
abbrev o76 : Type := Int × Int × Int × Int × Int
def ret76 : o76 → CSt := fun b => ([Go.Ev.SV.agg [Go.Ev.SL.d (Go.Ev.DL.int Go.IntKind.u64 b.1), Go.Ev.SL.d (Go.Ev.DL.int Go.IntKind.u64 b.2.1), Go.Ev.SL.d (Go.Ev.DL.int Go.IntKind.u64 b.2.2.1), Go.Ev.SL.d (Go.Ev.DL.int Go.IntKind.u64 b.2.2.2.1), Go.Ev.SL.d (Go.Ev.DL.int Go.IntKind.u64 b.2.2.2.2)]], [])
def retK76 {R : Type} (K : CSt → Option R) : o76 → Option R := fun b => K (([Go.Ev.SV.agg [Go.Ev.SL.d (Go.Ev.DL.int Go.IntKind.u64 b.1), Go.Ev.SL.d (Go.Ev.DL.int Go.IntKind.u64 b.2.1), Go.Ev.SL.d (Go.Ev.DL.int Go.IntKind.u64 b.2.2.1), Go.Ev.SL.d (Go.Ev.DL.int Go.IntKind.u64 b.2.2.2.1), Go.Ev.SL.d (Go.Ev.DL.int Go.IntKind.u64 b.2.2.2.2)]], []))
theorem retK76_eq {R : Type} (K : CSt → Option R) (b : o76) : retK76 K b = K (ret76 b) := rfl
abbrev Sd76 (f : i76 → Option o76) : Prop := ∀ a b, f a = some b → CallOk Try.prog 76 (enc76 a) (ret76 b)
def ent76 (f : i76 → Option o76) : Ent := mkEnt 76 dec76 ret76 retK76 retK76_eq f
def ann76 : Nat → List Nat × List Nat := fun id => bif Nat.beq id 2 then ([1, 2, 3], [1, 2]) else bif Nat.beq id 10 then ([1, 2, 3, 4, 5], [1, 2, 3, 4]) else bif Nat.beq id 14 then ([1, 2, 3, 4, 6], [1, 2, 3]) else bif Nat.beq id 24 then ([1, 2, 3, 7, 8, 9], [1, 2, 3]) else bif Nat.beq id 1000010 then ([0, 0, 0, 0, 0, 0], []) else bif Nat.beq id 1000014 then ([0, 0, 0, 0, 0, 0], []) else bif Nat.beq id 1000024 then ([0, 0, 0, 0, 0, 0], []) else ([], [])
def br76 : FuncId → Bool := fun (g : Nat) => ([67, 72] : List Nat).any (Nat.beq g)
def ar76 : TypeId → Bool := fun (t : Nat) => ([24, 25, 79, 82] : List Nat).any (Nat.beq t)
abbrev iL76_2 : Type := Int × Int × Int × Int × Int × Int × Int × Int × Int × Int × Int
def encL76_2 : iL76_2 → CSt := fun a => ([Go.Ev.SV.one (Go.Ev.SL.ptr (0 : Nat) (0 : Nat)), Go.Ev.SV.one (Go.Ev.SL.ptr (1 : Nat) (0 : Nat)), Go.Ev.SV.one (Go.Ev.SL.d (Go.Ev.DL.int Go.IntKind.i64 a.1))], [Go.Ev.Obj.box (74 : Nat) [Go.Ev.SL.d (Go.Ev.DL.int Go.IntKind.u64 a.2.1), Go.Ev.SL.d (Go.Ev.DL.int Go.IntKind.u64 a.2.2.1), Go.Ev.SL.d (Go.Ev.DL.int Go.IntKind.u64 a.2.2.2.1), Go.Ev.SL.d (Go.Ev.DL.int Go.IntKind.u64 a.2.2.2.2.1), Go.Ev.SL.d (Go.Ev.DL.int Go.IntKind.u64 a.2.2.2.2.2.1)], Go.Ev.Obj.box (74 : Nat) [Go.Ev.SL.d (Go.Ev.DL.int Go.IntKind.u64 a.2.2.2.2.2.2.1), Go.Ev.SL.d (Go.Ev.DL.int Go.IntKind.u64 a.2.2.2.2.2.2.2.1), Go.Ev.SL.d (Go.Ev.DL.int Go.IntKind.u64 a.2.2.2.2.2.2.2.2.1), Go.Ev.SL.d (Go.Ev.DL.int Go.IntKind.u64 a.2.2.2.2.2.2.2.2.2.1), Go.Ev.SL.d (Go.Ev.DL.int Go.IntKind.u64 a.2.2.2.2.2.2.2.2.2.2)]])
def decL76_2 : (c : CSt) → Option { a : iL76_2 // c = encL76_2 a }
  | ([Go.Ev.SV.one (Go.Ev.SL.ptr (0 : Nat) (0 : Nat)), Go.Ev.SV.one (Go.Ev.SL.ptr (1 : Nat) (0 : Nat)), Go.Ev.SV.one (Go.Ev.SL.d (Go.Ev.DL.int Go.IntKind.i64 x1))], [Go.Ev.Obj.box (74 : Nat) [Go.Ev.SL.d (Go.Ev.DL.int Go.IntKind.u64 x2), Go.Ev.SL.d (Go.Ev.DL.int Go.IntKind.u64 x3), Go.Ev.SL.d (Go.Ev.DL.int Go.IntKind.u64 x4), Go.Ev.SL.d (Go.Ev.DL.int Go.IntKind.u64 x5), Go.Ev.SL.d (Go.Ev.DL.int Go.IntKind.u64 x6)], Go.Ev.Obj.box (74 : Nat) [Go.Ev.SL.d (Go.Ev.DL.int Go.IntKind.u64 x7), Go.Ev.SL.d (Go.Ev.DL.int Go.IntKind.u64 x8), Go.Ev.SL.d (Go.Ev.DL.int Go.IntKind.u64 x9), Go.Ev.SL.d (Go.Ev.DL.int Go.IntKind.u64 x10), Go.Ev.SL.d (Go.Ev.DL.int Go.IntKind.u64 x11)]]) => some ⟨(x1, x2, x3, x4, x5, x6, x7, x8, x9, x10, x11), rfl⟩
  | _ => none
abbrev oL76_2 : Type := Int × Int × Int × Int × Int × Int × Int × Int × Int × Int
def retL76_2 : oL76_2 → Ex × CSt := fun b => (Go.Ev.Ex.exit (0 : Nat), ([Go.Ev.SV.one (Go.Ev.SL.ptr (0 : Nat) (0 : Nat)), Go.Ev.SV.one (Go.Ev.SL.ptr (1 : Nat) (0 : Nat))], [Go.Ev.Obj.box (74 : Nat) [Go.Ev.SL.d (Go.Ev.DL.int Go.IntKind.u64 b.1), Go.Ev.SL.d (Go.Ev.DL.int Go.IntKind.u64 b.2.1), Go.Ev.SL.d (Go.Ev.DL.int Go.IntKind.u64 b.2.2.1), Go.Ev.SL.d (Go.Ev.DL.int Go.IntKind.u64 b.2.2.2.1), Go.Ev.SL.d (Go.Ev.DL.int Go.IntKind.u64 b.2.2.2.2.1)], Go.Ev.Obj.box (74 : Nat) [Go.Ev.SL.d (Go.Ev.DL.int Go.IntKind.u64 b.2.2.2.2.2.1), Go.Ev.SL.d (Go.Ev.DL.int Go.IntKind.u64 b.2.2.2.2.2.2.1), Go.Ev.SL.d (Go.Ev.DL.int Go.IntKind.u64 b.2.2.2.2.2.2.2.1), Go.Ev.SL.d (Go.Ev.DL.int Go.IntKind.u64 b.2.2.2.2.2.2.2.2.1), Go.Ev.SL.d (Go.Ev.DL.int Go.IntKind.u64 b.2.2.2.2.2.2.2.2.2)]]))
def retKL76_2 {R : Type} (K : Ex → CSt → Option R) : oL76_2 → Option R := fun b => K (Go.Ev.Ex.exit (0 : Nat)) (([Go.Ev.SV.one (Go.Ev.SL.ptr (0 : Nat) (0 : Nat)), Go.Ev.SV.one (Go.Ev.SL.ptr (1 : Nat) (0 : Nat))], [Go.Ev.Obj.box (74 : Nat) [Go.Ev.SL.d (Go.Ev.DL.int Go.IntKind.u64 b.1), Go.Ev.SL.d (Go.Ev.DL.int Go.IntKind.u64 b.2.1), Go.Ev.SL.d (Go.Ev.DL.int Go.IntKind.u64 b.2.2.1), Go.Ev.SL.d (Go.Ev.DL.int Go.IntKind.u64 b.2.2.2.1), Go.Ev.SL.d (Go.Ev.DL.int Go.IntKind.u64 b.2.2.2.2.1)], Go.Ev.Obj.box (74 : Nat) [Go.Ev.SL.d (Go.Ev.DL.int Go.IntKind.u64 b.2.2.2.2.2.1), Go.Ev.SL.d (Go.Ev.DL.int Go.IntKind.u64 b.2.2.2.2.2.2.1), Go.Ev.SL.d (Go.Ev.DL.int Go.IntKind.u64 b.2.2.2.2.2.2.2.1), Go.Ev.SL.d (Go.Ev.DL.int Go.IntKind.u64 b.2.2.2.2.2.2.2.2.1), Go.Ev.SL.d (Go.Ev.DL.int Go.IntKind.u64 b.2.2.2.2.2.2.2.2.2)]]))
theorem retKL76_2_eq {R : Type} (K : Ex → CSt → Option R) (b : oL76_2) : retKL76_2 K b = K (retL76_2 b).1 (retL76_2 b).2 := rfl
def entL76_2 (l : iL76_2 → Option oL76_2) : LEnt := mkLEnt 2 decL76_2 retL76_2 retKL76_2 retKL76_2_eq l
abbrev SdL76_2 (l : iL76_2 → Option oL76_2) : Prop := ∀ nt a b, l a = some b → LoopAt Try.prog nt 0 ann76 Try.f76 2 (encL76_2 a) (retL76_2 b)
noncomputable def u76_2 {R : Type} (sh : Sh) (f79 : i79 → Option o79) (l76_2 : iL76_2 → Option oL76_2) (x1 : Int) (x2 : Int) (x3 : Int) (x4 : Int) (x5 : Int) (x6 : Int) (x7 : Int) (x8 : Int) (x9 : Int) (x10 : Int) (x11 : Int) (k : oL76_2 → Option R) : Option R :=
  bif Decidable.decide (x1 < (12 : Int)) then
    sh (Go.IntKind.wrap Go.IntKind.u64 (↑(BitVec.toNat (BitVec.ofInt (64 : Nat) x4 ^^^ BitVec.ofInt (64 : Nat) (Go.IntKind.wrap Go.IntKind.u64 (Go.IntKind.wrap Go.IntKind.i64 ((240 : Int) - Go.IntKind.wrap Go.IntKind.i64 ((15 : Int) * x1)))))) : Int)) fun y1 =>
    sh (Go.IntKind.wrap Go.IntKind.u64 (↑(BitVec.toNat (BitVec.ofInt (64 : Nat) x2 ^^^ BitVec.ofInt (64 : Nat) x6)) : Int)) fun y2 =>
    sh (Go.IntKind.wrap Go.IntKind.u64 (↑(BitVec.toNat (BitVec.ofInt (64 : Nat) x6 ^^^ BitVec.ofInt (64 : Nat) x5)) : Int)) fun y3 =>
    sh (Go.IntKind.wrap Go.IntKind.u64 (↑(BitVec.toNat (BitVec.ofInt (64 : Nat) y1 ^^^ BitVec.ofInt (64 : Nat) x3)) : Int)) fun y4 =>
    sh (Go.IntKind.wrap Go.IntKind.u64 (↑(BitVec.toNat (BitVec.ofInt (64 : Nat) (18446744073709551615 : Int) ^^^ BitVec.ofInt (64 : Nat) y2)) : Int)) fun y5 =>
    sh (Go.IntKind.wrap Go.IntKind.u64 (↑(BitVec.toNat (BitVec.ofInt (64 : Nat) y5 &&& BitVec.ofInt (64 : Nat) x3)) : Int)) fun y6 =>
    sh (Go.IntKind.wrap Go.IntKind.u64 (↑(BitVec.toNat (BitVec.ofInt (64 : Nat) (18446744073709551615 : Int) ^^^ BitVec.ofInt (64 : Nat) x3)) : Int)) fun y7 =>
    sh (Go.IntKind.wrap Go.IntKind.u64 (↑(BitVec.toNat (BitVec.ofInt (64 : Nat) y7 &&& BitVec.ofInt (64 : Nat) y4)) : Int)) fun y8 =>
    sh (Go.IntKind.wrap Go.IntKind.u64 (↑(BitVec.toNat (BitVec.ofInt (64 : Nat) (18446744073709551615 : Int) ^^^ BitVec.ofInt (64 : Nat) y4)) : Int)) fun y9 =>
    sh (Go.IntKind.wrap Go.IntKind.u64 (↑(BitVec.toNat (BitVec.ofInt (64 : Nat) y9 &&& BitVec.ofInt (64 : Nat) x5)) : Int)) fun y10 =>
    sh (Go.IntKind.wrap Go.IntKind.u64 (↑(BitVec.toNat (BitVec.ofInt (64 : Nat) (18446744073709551615 : Int) ^^^ BitVec.ofInt (64 : Nat) x5)) : Int)) fun y11 =>
    sh (Go.IntKind.wrap Go.IntKind.u64 (↑(BitVec.toNat (BitVec.ofInt (64 : Nat) y11 &&& BitVec.ofInt (64 : Nat) y3)) : Int)) fun y12 =>
    sh (Go.IntKind.wrap Go.IntKind.u64 (↑(BitVec.toNat (BitVec.ofInt (64 : Nat) (18446744073709551615 : Int) ^^^ BitVec.ofInt (64 : Nat) y3)) : Int)) fun y13 =>
    sh (Go.IntKind.wrap Go.IntKind.u64 (↑(BitVec.toNat (BitVec.ofInt (64 : Nat) y13 &&& BitVec.ofInt (64 : Nat) y2)) : Int)) fun y14 =>
    sh (Go.IntKind.wrap Go.IntKind.u64 (↑(BitVec.toNat (BitVec.ofInt (64 : Nat) y2 ^^^ BitVec.ofInt (64 : Nat) y8)) : Int)) fun y15 =>
    sh (Go.IntKind.wrap Go.IntKind.u64 (↑(BitVec.toNat (BitVec.ofInt (64 : Nat) x3 ^^^ BitVec.ofInt (64 : Nat) y10)) : Int)) fun y16 =>
    sh (Go.IntKind.wrap Go.IntKind.u64 (↑(BitVec.toNat (BitVec.ofInt (64 : Nat) y4 ^^^ BitVec.ofInt (64 : Nat) y12)) : Int)) fun y17 =>
    sh (Go.IntKind.wrap Go.IntKind.u64 (↑(BitVec.toNat (BitVec.ofInt (64 : Nat) x5 ^^^ BitVec.ofInt (64 : Nat) y14)) : Int)) fun y18 =>
    sh (Go.IntKind.wrap Go.IntKind.u64 (↑(BitVec.toNat (BitVec.ofInt (64 : Nat) y3 ^^^ BitVec.ofInt (64 : Nat) y6)) : Int)) fun y19 =>
    sh (Go.IntKind.wrap Go.IntKind.u64 (↑(BitVec.toNat (BitVec.ofInt (64 : Nat) y16 ^^^ BitVec.ofInt (64 : Nat) y15)) : Int)) fun y20 =>
    sh (Go.IntKind.wrap Go.IntKind.u64 (↑(BitVec.toNat (BitVec.ofInt (64 : Nat) y15 ^^^ BitVec.ofInt (64 : Nat) y19)) : Int)) fun y21 =>
    sh (Go.IntKind.wrap Go.IntKind.u64 (↑(BitVec.toNat (BitVec.ofInt (64 : Nat) y18 ^^^ BitVec.ofInt (64 : Nat) y17)) : Int)) fun y22 =>
    sh (Go.IntKind.wrap Go.IntKind.u64 (↑(BitVec.toNat (BitVec.ofInt (64 : Nat) (18446744073709551615 : Int) ^^^ BitVec.ofInt (64 : Nat) y17)) : Int)) fun y23 =>
    (f79 (y21, (19 : Int))).bind fun (r24 : Int) =>
    sh (Go.IntKind.wrap Go.IntKind.u64 (↑(BitVec.toNat (BitVec.ofInt (64 : Nat) y21 ^^^ BitVec.ofInt (64 : Nat) r24)) : Int)) fun y25 =>
    (f79 (y21, (28 : Int))).bind fun (r26 : Int) =>
    sh (Go.IntKind.wrap Go.IntKind.u64 (↑(BitVec.toNat (BitVec.ofInt (64 : Nat) y25 ^^^ BitVec.ofInt (64 : Nat) r26)) : Int)) fun y27 =>
    (f79 (y20, (61 : Int))).bind fun (r28 : Int) =>
    sh (Go.IntKind.wrap Go.IntKind.u64 (↑(BitVec.toNat (BitVec.ofInt (64 : Nat) y20 ^^^ BitVec.ofInt (64 : Nat) r28)) : Int)) fun y29 =>
    (f79 (y20, (39 : Int))).bind fun (r30 : Int) =>
    sh (Go.IntKind.wrap Go.IntKind.u64 (↑(BitVec.toNat (BitVec.ofInt (64 : Nat) y29 ^^^ BitVec.ofInt (64 : Nat) r30)) : Int)) fun y31 =>
    (f79 (y23, (1 : Int))).bind fun (r32 : Int) =>
    sh (Go.IntKind.wrap Go.IntKind.u64 (↑(BitVec.toNat (BitVec.ofInt (64 : Nat) y23 ^^^ BitVec.ofInt (64 : Nat) r32)) : Int)) fun y33 =>
    (f79 (y23, (6 : Int))).bind fun (r34 : Int) =>
    sh (Go.IntKind.wrap Go.IntKind.u64 (↑(BitVec.toNat (BitVec.ofInt (64 : Nat) y33 ^^^ BitVec.ofInt (64 : Nat) r34)) : Int)) fun y35 =>
    (f79 (y22, (10 : Int))).bind fun (r36 : Int) =>
    sh (Go.IntKind.wrap Go.IntKind.u64 (↑(BitVec.toNat (BitVec.ofInt (64 : Nat) y22 ^^^ BitVec.ofInt (64 : Nat) r36)) : Int)) fun y37 =>
    (f79 (y22, (17 : Int))).bind fun (r38 : Int) =>
    sh (Go.IntKind.wrap Go.IntKind.u64 (↑(BitVec.toNat (BitVec.ofInt (64 : Nat) y37 ^^^ BitVec.ofInt (64 : Nat) r38)) : Int)) fun y39 =>
    (f79 (y19, (7 : Int))).bind fun (r40 : Int) =>
    sh (Go.IntKind.wrap Go.IntKind.u64 (↑(BitVec.toNat (BitVec.ofInt (64 : Nat) y19 ^^^ BitVec.ofInt (64 : Nat) r40)) : Int)) fun y41 =>
    (f79 (y19, (41 : Int))).bind fun (r42 : Int) =>
    sh (Go.IntKind.wrap Go.IntKind.u64 (↑(BitVec.toNat (BitVec.ofInt (64 : Nat) y41 ^^^ BitVec.ofInt (64 : Nat) r42)) : Int)) fun y43 =>
    (l76_2 (Go.IntKind.wrap Go.IntKind.i64 (x1 + (1 : Int)), y27, y31, y35, y39, y43, x7, x8, x9, x10, x11)).bind k
  else
    k ((x2, x3, x4, x5, x6, x7, x8, x9, x10, x11))
theorem u76_2_eq {R : Type} (sh : Sh) (hsh : ∀ {α R : Type} (x : α) (K : α → Option R), sh x K = K x) (f79 : i79 → Option o79) (l76_2 : iL76_2 → Option oL76_2) (x1 : Int) (x2 : Int) (x3 : Int) (x4 : Int) (x5 : Int) (x6 : Int) (x7 : Int) (x8 : Int) (x9 : Int) (x10 : Int) (x11 : Int) (K : Ex → CSt → Option R) : roundK Try.prog (tabO sh hsh br76 ar76 [ent79 f79]) (tabL [entL76_2 l76_2]) ann76 0 Try.f76 2 (encL76_2 (x1, x2, x3, x4, x5, x6, x7, x8, x9, x10, x11)) K = u76_2 sh f79 l76_2 x1 x2 x3 x4 x5 x6 x7 x8 x9 x10 x11 (retKL76_2 K) := by kernel_rfl
theorem u76_2_law {R : Type} (f79 : i79 → Option o79) (l76_2 : iL76_2 → Option oL76_2) (x1 : Int) (x2 : Int) (x3 : Int) (x4 : Int) (x5 : Int) (x6 : Int) (x7 : Int) (x8 : Int) (x9 : Int) (x10 : Int) (x11 : Int) (K : oL76_2 → Option R) : u76_2 sh0 f79 l76_2 x1 x2 x3 x4 x5 x6 x7 x8 x9 x10 x11 K = (u76_2 sh0 f79 l76_2 x1 x2 x3 x4 x5 x6 x7 x8 x9 x10 x11 some).bind K := by
  simp only [u76_2, sh0, cond_bind', two_bind, none_bind', Option.bind_assoc, Option.bind_some]
theorem okL76_2 (f79 : i79 → Option o79) (l76_2 : iL76_2 → Option oL76_2) (hf79 : Sd79 f79) (hl76_2 : SdL76_2 l76_2) : SdL76_2 (fun a => u76_2 sh0 f79 l76_2 a.1 a.2.1 a.2.2.1 a.2.2.2.1 a.2.2.2.2.1 a.2.2.2.2.2.1 a.2.2.2.2.2.2.1 a.2.2.2.2.2.2.2.1 a.2.2.2.2.2.2.2.2.1 a.2.2.2.2.2.2.2.2.2.1 a.2.2.2.2.2.2.2.2.2.2 some) := by
  intro nt a b h
  refine round_ok (sh := sh0) (hsh := fun _ _ => rfl) (br := br76) (ar := ar76) Try.mixed (by kernel_rfl) (.cons (mkEnt_ok hf79) .nil) (.cons (mkLEnt_ok (hl76_2 nt)) .nil) ((u76_2_eq sh0 (fun _ _ => rfl) f79 l76_2  a.1 a.2.1 a.2.2.1 a.2.2.2.1 a.2.2.2.2.1 a.2.2.2.2.2.1 a.2.2.2.2.2.2.1 a.2.2.2.2.2.2.2.1 a.2.2.2.2.2.2.2.2.1 a.2.2.2.2.2.2.2.2.2.1 a.2.2.2.2.2.2.2.2.2.2 _).trans ?_)
  rw [u76_2_law]
  simp only at h
  rw [h, Option.bind_some, retKL76_2_eq]
noncomputable def t76 {R : Type} (sh : Sh) (l76_2 : iL76_2 → Option oL76_2) (x1 : Int) (x2 : Int) (x3 : Int) (x4 : Int) (x5 : Int) (k : o76 → Option R) : Option R :=
  (l76_2 ((0 : Int), x1, x2, x3, x4, x5, (0 : Int), (0 : Int), (0 : Int), (0 : Int), (0 : Int))).bind fun (r44 : Int × Int × Int × Int × Int × Int × Int × Int × Int × Int) =>
  k ((Prod.fst r44, Prod.fst r44.2, Prod.fst (Prod.snd r44).2, Prod.fst (Prod.snd (Prod.snd r44)).2, Prod.fst (Prod.snd (Prod.snd (Prod.snd r44))).2))
theorem t76_eq {R : Type} (sh : Sh) (hsh : ∀ {α R : Type} (x : α) (K : α → Option R), sh x K = K x) (l76_2 : iL76_2 → Option oL76_2) (x1 : Int) (x2 : Int) (x3 : Int) (x4 : Int) (x5 : Int) (K : CSt → Option R) : bodyK Try.prog (tabO sh hsh br76 ar76 []) (tabL [entL76_2 l76_2]) ann76 false Try.f76 (enc76 (x1, x2, x3, x4, x5)) K = t76 sh l76_2 x1 x2 x3 x4 x5 (retK76 K) := by kernel_rfl
theorem t76_law {R : Type} (l76_2 : iL76_2 → Option oL76_2) (x1 : Int) (x2 : Int) (x3 : Int) (x4 : Int) (x5 : Int) (K : o76 → Option R) : t76 sh0 l76_2 x1 x2 x3 x4 x5 K = (t76 sh0 l76_2 x1 x2 x3 x4 x5 some).bind K := by
  simp only [t76, sh0, cond_bind', two_bind, none_bind', Option.bind_assoc, Option.bind_some]
theorem ok76 (l76_2 : iL76_2 → Option oL76_2) (hl76_2 : SdL76_2 l76_2) : Sd76 (fun a => t76 sh0 l76_2 a.1 a.2.1 a.2.2.1 a.2.2.2.1 a.2.2.2.2 some) := by
  intro a b h
  refine call_ok (sh := sh0) (hsh := fun _ _ => rfl) (br := br76) (ar := ar76) (own := false) Try.mixed Try.func76 (by kernel_rfl) .nil (fun nt => (.cons (mkLEnt_ok (hl76_2 nt)) .nil)) ((t76_eq sh0 (fun _ _ => rfl) l76_2 a.1 a.2.1 a.2.2.1 a.2.2.2.1 a.2.2.2.2 _).trans ?_)
  rw [t76_law]
  simp only at h
  rw [h, Option.bind_some, retK76_eq]

/-! 77 erasure/erasureref25.word -/
abbrev i77 : Type := Rows
def enc77 : i77 → CSt := fun a => ([Go.Ev.SV.one (Go.Ev.SL.d (Go.Ev.DL.lst (5 : Nat) a))], [])
def dec77 : (c : CSt) → Option { a : i77 // c = enc77 a }
  | ([Go.Ev.SV.one (Go.Ev.SL.d (Go.Ev.DL.lst (5 : Nat) x1))], []) => some ⟨x1, rfl⟩
  | _ => none
abbrev o77 : Type := Int
def ret77 : o77 → CSt := fun b => ([Go.Ev.SV.one (Go.Ev.SL.d (Go.Ev.DL.int Go.IntKind.u64 b))], [])
def retK77 {R : Type} (K : CSt → Option R) : o77 → Option R := fun b => K (([Go.Ev.SV.one (Go.Ev.SL.d (Go.Ev.DL.int Go.IntKind.u64 b))], []))
theorem retK77_eq {R : Type} (K : CSt → Option R) (b : o77) : retK77 K b = K (ret77 b) := rfl
abbrev Sd77 (f : i77 → Option o77) : Prop := ∀ a b, f a = some b → CallOk Try.prog 77 (enc77 a) (ret77 b)
def ent77 (f : i77 → Option o77) : Ent := mkEnt 77 dec77 ret77 retK77 retK77_eq f
def ann77 : Nat → List Nat × List Nat := fun id => bif Nat.beq id 3 then ([0, 3, 4], [3]) else ([], [])
def br77 : FuncId → Bool := fun (g : Nat) => ([67, 72] : List Nat).any (Nat.beq g)
def ar77 : TypeId → Bool := fun (t : Nat) => ([24, 25, 79, 82] : List Nat).any (Nat.beq t)
abbrev iL77_3 : Type := Rows × Int × Int
def encL77_3 : iL77_3 → CSt := fun a => ([Go.Ev.SV.one (Go.Ev.SL.d (Go.Ev.DL.lst (5 : Nat) a.1)), Go.Ev.SV.one (Go.Ev.SL.d (Go.Ev.DL.int Go.IntKind.u64 a.2.1)), Go.Ev.SV.one (Go.Ev.SL.d (Go.Ev.DL.int Go.IntKind.i64 a.2.2))], [])
def decL77_3 : (c : CSt) → Option { a : iL77_3 // c = encL77_3 a }
  | ([Go.Ev.SV.one (Go.Ev.SL.d (Go.Ev.DL.lst (5 : Nat) x1)), Go.Ev.SV.one (Go.Ev.SL.d (Go.Ev.DL.int Go.IntKind.u64 x2)), Go.Ev.SV.one (Go.Ev.SL.d (Go.Ev.DL.int Go.IntKind.i64 x3))], []) => some ⟨(x1, x2, x3), rfl⟩
  | _ => none
abbrev oL77_3 : Type := Int
def retL77_3 : oL77_3 → Ex × CSt := fun b => (Go.Ev.Ex.exit (0 : Nat), ([Go.Ev.SV.one (Go.Ev.SL.d (Go.Ev.DL.int Go.IntKind.u64 b))], []))
def retKL77_3 {R : Type} (K : Ex → CSt → Option R) : oL77_3 → Option R := fun b => K (Go.Ev.Ex.exit (0 : Nat)) (([Go.Ev.SV.one (Go.Ev.SL.d (Go.Ev.DL.int Go.IntKind.u64 b))], []))
theorem retKL77_3_eq {R : Type} (K : Ex → CSt → Option R) (b : oL77_3) : retKL77_3 K b = K (retL77_3 b).1 (retL77_3 b).2 := rfl
def entL77_3 (l : iL77_3 → Option oL77_3) : LEnt := mkLEnt 3 decL77_3 retL77_3 retKL77_3 retKL77_3_eq l
abbrev SdL77_3 (l : iL77_3 → Option oL77_3) : Prop := ∀ nt a b, l a = some b → LoopAt Try.prog nt 0 ann77 Try.f77 3 (encL77_3 a) (retL77_3 b)
noncomputable def u77_3 {R : Type} (sh : Sh) (l77_3 : iL77_3 → Option oL77_3) (x1 : Rows) (x2 : Int) (x3 : Int) (k : oL77_3 → Option R) : Option R :=
  bif Decidable.decide (x3 < (8 : Int)) then
    bif Decidable.decide ((0 : Int) ≤ x3 ∧ x3 < (↑(List.length x1) : Int)) then
      sh (Go.Ev.DL.getI (Go.Ev.cellAt x1 (Int.toNat x3) (0 : Nat))) fun y1 =>
      bif Decidable.decide ((0 : Int) ≤ Go.IntKind.wrap Go.IntKind.i64 ((8 : Int) * x3)) then
        sh (Go.IntKind.wrap Go.IntKind.u64 (Go.IntKind.wrap Go.IntKind.u64 y1 * (2 : Int) ^ Min.min (Int.toNat (Go.IntKind.wrap Go.IntKind.i64 ((8 : Int) * x3))) (64 : Nat))) fun y2 =>
        sh (Go.IntKind.wrap Go.IntKind.u64 (↑(BitVec.toNat (BitVec.ofInt (64 : Nat) x2 ||| BitVec.ofInt (64 : Nat) y2)) : Int)) fun y3 =>
        (l77_3 (x1, y3, Go.IntKind.wrap Go.IntKind.i64 (x3 + (1 : Int)))).bind k
      else none
    else none
  else
    k (x2)
theorem u77_3_eq {R : Type} (sh : Sh) (hsh : ∀ {α R : Type} (x : α) (K : α → Option R), sh x K = K x) (l77_3 : iL77_3 → Option oL77_3) (x1 : Rows) (x2 : Int) (x3 : Int) (K : Ex → CSt → Option R) : roundK Try.prog (tabO sh hsh br77 ar77 []) (tabL [entL77_3 l77_3]) ann77 0 Try.f77 3 (encL77_3 (x1, x2, x3)) K = u77_3 sh l77_3 x1 x2 x3 (retKL77_3 K) := by kernel_rfl
theorem u77_3_law {R : Type} (l77_3 : iL77_3 → Option oL77_3) (x1 : Rows) (x2 : Int) (x3 : Int) (K : oL77_3 → Option R) : u77_3 sh0 l77_3 x1 x2 x3 K = (u77_3 sh0 l77_3 x1 x2 x3 some).bind K := by
  simp only [u77_3, sh0, cond_bind', two_bind, none_bind', Option.bind_assoc, Option.bind_some]
theorem okL77_3 (l77_3 : iL77_3 → Option oL77_3) (hl77_3 : SdL77_3 l77_3) : SdL77_3 (fun a => u77_3 sh0 l77_3 a.1 a.2.1 a.2.2 some) := by
  intro nt a b h
  refine round_ok (sh := sh0) (hsh := fun _ _ => rfl) (br := br77) (ar := ar77) Try.mixed (by kernel_rfl) .nil (.cons (mkLEnt_ok (hl77_3 nt)) .nil) ((u77_3_eq sh0 (fun _ _ => rfl) l77_3  a.1 a.2.1 a.2.2 _).trans ?_)
  rw [u77_3_law]
  simp only at h
  rw [h, Option.bind_some, retKL77_3_eq]
noncomputable def t77 {R : Type} (sh : Sh) (l77_3 : iL77_3 → Option oL77_3) (x1 : Rows) (k : o77 → Option R) : Option R :=
  (l77_3 (x1, (0 : Int), (0 : Int))).bind fun (r4 : Int) =>
  k (r4)
theorem t77_eq {R : Type} (sh : Sh) (hsh : ∀ {α R : Type} (x : α) (K : α → Option R), sh x K = K x) (l77_3 : iL77_3 → Option oL77_3) (x1 : Rows) (K : CSt → Option R) : bodyK Try.prog (tabO sh hsh br77 ar77 []) (tabL [entL77_3 l77_3]) ann77 false Try.f77 (enc77 x1) K = t77 sh l77_3 x1 (retK77 K) := by kernel_rfl
theorem t77_law {R : Type} (l77_3 : iL77_3 → Option oL77_3) (x1 : Rows) (K : o77 → Option R) : t77 sh0 l77_3 x1 K = (t77 sh0 l77_3 x1 some).bind K := by
  simp only [t77, sh0, cond_bind', two_bind, none_bind', Option.bind_assoc, Option.bind_some]
theorem ok77 (l77_3 : iL77_3 → Option oL77_3) (hl77_3 : SdL77_3 l77_3) : Sd77 (fun a => t77 sh0 l77_3 a some) := by
  intro a b h
  refine call_ok (sh := sh0) (hsh := fun _ _ => rfl) (br := br77) (ar := ar77) (own := false) Try.mixed Try.func77 (by kernel_rfl) .nil (fun nt => (.cons (mkLEnt_ok (hl77_3 nt)) .nil)) ((t77_eq sh0 (fun _ _ => rfl) l77_3 a _).trans ?_)
  rw [t77_law]
  simp only at h
  rw [h, Option.bind_some, retK77_eq]

/-! 70 erasure/erasureref25.absorb -/
abbrev i70 : Type := Int × Rows
def enc70 : i70 → CSt := fun a => ([Go.Ev.SV.one (Go.Ev.SL.d (Go.Ev.DL.int Go.IntKind.u64 a.1)), Go.Ev.SV.one (Go.Ev.SL.d (Go.Ev.DL.lst (5 : Nat) a.2))], [])
def dec70 : (c : CSt) → Option { a : i70 // c = enc70 a }
  | ([Go.Ev.SV.one (Go.Ev.SL.d (Go.Ev.DL.int Go.IntKind.u64 x1)), Go.Ev.SV.one (Go.Ev.SL.d (Go.Ev.DL.lst (5 : Nat) x2))], []) => some ⟨(x1, x2), rfl⟩
  | _ => none
abbrev o70 : Type := Int × Int × Int × Int × Int
def ret70 : o70 → CSt := fun b => ([Go.Ev.SV.agg [Go.Ev.SL.d (Go.Ev.DL.int Go.IntKind.u64 b.1), Go.Ev.SL.d (Go.Ev.DL.int Go.IntKind.u64 b.2.1), Go.Ev.SL.d (Go.Ev.DL.int Go.IntKind.u64 b.2.2.1), Go.Ev.SL.d (Go.Ev.DL.int Go.IntKind.u64 b.2.2.2.1), Go.Ev.SL.d (Go.Ev.DL.int Go.IntKind.u64 b.2.2.2.2)]], [])
def retK70 {R : Type} (K : CSt → Option R) : o70 → Option R := fun b => K (([Go.Ev.SV.agg [Go.Ev.SL.d (Go.Ev.DL.int Go.IntKind.u64 b.1), Go.Ev.SL.d (Go.Ev.DL.int Go.IntKind.u64 b.2.1), Go.Ev.SL.d (Go.Ev.DL.int Go.IntKind.u64 b.2.2.1), Go.Ev.SL.d (Go.Ev.DL.int Go.IntKind.u64 b.2.2.2.1), Go.Ev.SL.d (Go.Ev.DL.int Go.IntKind.u64 b.2.2.2.2)]], []))
theorem retK70_eq {R : Type} (K : CSt → Option R) (b : o70) : retK70 K b = K (ret70 b) := rfl
abbrev Sd70 (f : i70 → Option o70) : Prop := ∀ a b, f a = some b → CallOk Try.prog 70 (enc70 a) (ret70 b)
def ent70 (f : i70 → Option o70) : Ent := mkEnt 70 dec70 ret70 retK70 retK70_eq f
def ann70 : Nat → List Nat × List Nat := fun id => bif Nat.beq id 2 then ([0, 4, 5], [0, 4, 5]) else bif Nat.beq id 6 then ([4, 5, 6, 7], [4, 6]) else ([], [])
def br70 : FuncId → Bool := fun (g : Nat) => ([67, 72] : List Nat).any (Nat.beq g)
def ar70 : TypeId → Bool := fun (t : Nat) => ([24, 25, 79, 82] : List Nat).any (Nat.beq t)
abbrev iL70_2 : Type := Int × Int × Int × Int × Int × Int × Rows
def encL70_2 : iL70_2 → CSt := fun a => ([Go.Ev.SV.one (Go.Ev.SL.d (Go.Ev.DL.int Go.IntKind.u64 a.1)), Go.Ev.SV.one (Go.Ev.SL.ptr (0 : Nat) (0 : Nat)), Go.Ev.SV.one (Go.Ev.SL.vr (1 : Nat))], [Go.Ev.Obj.box (74 : Nat) [Go.Ev.SL.d (Go.Ev.DL.int Go.IntKind.u64 a.2.1), Go.Ev.SL.d (Go.Ev.DL.int Go.IntKind.u64 a.2.2.1), Go.Ev.SL.d (Go.Ev.DL.int Go.IntKind.u64 a.2.2.2.1), Go.Ev.SL.d (Go.Ev.DL.int Go.IntKind.u64 a.2.2.2.2.1), Go.Ev.SL.d (Go.Ev.DL.int Go.IntKind.u64 a.2.2.2.2.2.1)], Go.Ev.Obj.vec (5 : Nat) Bool.false a.2.2.2.2.2.2])
def decL70_2 : (c : CSt) → Option { a : iL70_2 // c = encL70_2 a }
  | ([Go.Ev.SV.one (Go.Ev.SL.d (Go.Ev.DL.int Go.IntKind.u64 x1)), Go.Ev.SV.one (Go.Ev.SL.ptr (0 : Nat) (0 : Nat)), Go.Ev.SV.one (Go.Ev.SL.vr (1 : Nat))], [Go.Ev.Obj.box (74 : Nat) [Go.Ev.SL.d (Go.Ev.DL.int Go.IntKind.u64 x2), Go.Ev.SL.d (Go.Ev.DL.int Go.IntKind.u64 x3), Go.Ev.SL.d (Go.Ev.DL.int Go.IntKind.u64 x4), Go.Ev.SL.d (Go.Ev.DL.int Go.IntKind.u64 x5), Go.Ev.SL.d (Go.Ev.DL.int Go.IntKind.u64 x6)], Go.Ev.Obj.vec (5 : Nat) Bool.false x7]) => some ⟨(x1, x2, x3, x4, x5, x6, x7), rfl⟩
  | _ => none
abbrev oL70_2 : Type := Int × Int × Int × Int × Int × Int × Rows
def retL70_2 : oL70_2 → Ex × CSt := fun b => (Go.Ev.Ex.exit (0 : Nat), ([Go.Ev.SV.one (Go.Ev.SL.d (Go.Ev.DL.int Go.IntKind.u64 b.1)), Go.Ev.SV.one (Go.Ev.SL.ptr (0 : Nat) (0 : Nat)), Go.Ev.SV.one (Go.Ev.SL.vr (1 : Nat))], [Go.Ev.Obj.box (74 : Nat) [Go.Ev.SL.d (Go.Ev.DL.int Go.IntKind.u64 b.2.1), Go.Ev.SL.d (Go.Ev.DL.int Go.IntKind.u64 b.2.2.1), Go.Ev.SL.d (Go.Ev.DL.int Go.IntKind.u64 b.2.2.2.1), Go.Ev.SL.d (Go.Ev.DL.int Go.IntKind.u64 b.2.2.2.2.1), Go.Ev.SL.d (Go.Ev.DL.int Go.IntKind.u64 b.2.2.2.2.2.1)], Go.Ev.Obj.vec (5 : Nat) Bool.false b.2.2.2.2.2.2]))
def retKL70_2 {R : Type} (K : Ex → CSt → Option R) : oL70_2 → Option R := fun b => K (Go.Ev.Ex.exit (0 : Nat)) (([Go.Ev.SV.one (Go.Ev.SL.d (Go.Ev.DL.int Go.IntKind.u64 b.1)), Go.Ev.SV.one (Go.Ev.SL.ptr (0 : Nat) (0 : Nat)), Go.Ev.SV.one (Go.Ev.SL.vr (1 : Nat))], [Go.Ev.Obj.box (74 : Nat) [Go.Ev.SL.d (Go.Ev.DL.int Go.IntKind.u64 b.2.1), Go.Ev.SL.d (Go.Ev.DL.int Go.IntKind.u64 b.2.2.1), Go.Ev.SL.d (Go.Ev.DL.int Go.IntKind.u64 b.2.2.2.1), Go.Ev.SL.d (Go.Ev.DL.int Go.IntKind.u64 b.2.2.2.2.1), Go.Ev.SL.d (Go.Ev.DL.int Go.IntKind.u64 b.2.2.2.2.2.1)], Go.Ev.Obj.vec (5 : Nat) Bool.false b.2.2.2.2.2.2]))
theorem retKL70_2_eq {R : Type} (K : Ex → CSt → Option R) (b : oL70_2) : retKL70_2 K b = K (retL70_2 b).1 (retL70_2 b).2 := rfl
def entL70_2 (l : iL70_2 → Option oL70_2) : LEnt := mkLEnt 2 decL70_2 retL70_2 retKL70_2 retKL70_2_eq l
abbrev SdL70_2 (l : iL70_2 → Option oL70_2) : Prop := ∀ nt a b, l a = some b → LoopAt Try.prog nt 0 ann70 Try.f70 2 (encL70_2 a) (retL70_2 b)
abbrev iL70_6 : Type := Int × Int × Int × Int × Int × Int × Rows × Int × Int × Int × Int × Int
def encL70_6 : iL70_6 → CSt := fun a => ([Go.Ev.SV.one (Go.Ev.SL.ptr (0 : Nat) (0 : Nat)), Go.Ev.SV.one (Go.Ev.SL.vr (1 : Nat)), Go.Ev.SV.one (Go.Ev.SL.ptr (2 : Nat) (0 : Nat)), Go.Ev.SV.one (Go.Ev.SL.d (Go.Ev.DL.int Go.IntKind.i64 a.1))], [Go.Ev.Obj.box (74 : Nat) [Go.Ev.SL.d (Go.Ev.DL.int Go.IntKind.u64 a.2.1), Go.Ev.SL.d (Go.Ev.DL.int Go.IntKind.u64 a.2.2.1), Go.Ev.SL.d (Go.Ev.DL.int Go.IntKind.u64 a.2.2.2.1), Go.Ev.SL.d (Go.Ev.DL.int Go.IntKind.u64 a.2.2.2.2.1), Go.Ev.SL.d (Go.Ev.DL.int Go.IntKind.u64 a.2.2.2.2.2.1)], Go.Ev.Obj.vec (5 : Nat) Bool.false a.2.2.2.2.2.2.1, Go.Ev.Obj.box (74 : Nat) [Go.Ev.SL.d (Go.Ev.DL.int Go.IntKind.u64 a.2.2.2.2.2.2.2.1), Go.Ev.SL.d (Go.Ev.DL.int Go.IntKind.u64 a.2.2.2.2.2.2.2.2.1), Go.Ev.SL.d (Go.Ev.DL.int Go.IntKind.u64 a.2.2.2.2.2.2.2.2.2.1), Go.Ev.SL.d (Go.Ev.DL.int Go.IntKind.u64 a.2.2.2.2.2.2.2.2.2.2.1), Go.Ev.SL.d (Go.Ev.DL.int Go.IntKind.u64 a.2.2.2.2.2.2.2.2.2.2.2)]])
def decL70_6 : (c : CSt) → Option { a : iL70_6 // c = encL70_6 a }
  | ([Go.Ev.SV.one (Go.Ev.SL.ptr (0 : Nat) (0 : Nat)), Go.Ev.SV.one (Go.Ev.SL.vr (1 : Nat)), Go.Ev.SV.one (Go.Ev.SL.ptr (2 : Nat) (0 : Nat)), Go.Ev.SV.one (Go.Ev.SL.d (Go.Ev.DL.int Go.IntKind.i64 x1))], [Go.Ev.Obj.box (74 : Nat) [Go.Ev.SL.d (Go.Ev.DL.int Go.IntKind.u64 x2), Go.Ev.SL.d (Go.Ev.DL.int Go.IntKind.u64 x3), Go.Ev.SL.d (Go.Ev.DL.int Go.IntKind.u64 x4), Go.Ev.SL.d (Go.Ev.DL.int Go.IntKind.u64 x5), Go.Ev.SL.d (Go.Ev.DL.int Go.IntKind.u64 x6)], Go.Ev.Obj.vec (5 : Nat) Bool.false x7, Go.Ev.Obj.box (74 : Nat) [Go.Ev.SL.d (Go.Ev.DL.int Go.IntKind.u64 x8), Go.Ev.SL.d (Go.Ev.DL.int Go.IntKind.u64 x9), Go.Ev.SL.d (Go.Ev.DL.int Go.IntKind.u64 x10), Go.Ev.SL.d (Go.Ev.DL.int Go.IntKind.u64 x11), Go.Ev.SL.d (Go.Ev.DL.int Go.IntKind.u64 x12)]]) => some ⟨(x1, x2, x3, x4, x5, x6, x7, x8, x9, x10, x11, x12), rfl⟩
  | _ => none
abbrev oL70_6 : Type := Int × Int × Int × Int × Int × Int × Int × Int × Int × Int
def retL70_6 : oL70_6 → Ex × CSt := fun b => (Go.Ev.Ex.exit (2 : Nat), ([Go.Ev.SV.one (Go.Ev.SL.ptr (0 : Nat) (0 : Nat)), Go.Ev.SV.one (Go.Ev.SL.ptr (1 : Nat) (0 : Nat))], [Go.Ev.Obj.box (74 : Nat) [Go.Ev.SL.d (Go.Ev.DL.int Go.IntKind.u64 b.1), Go.Ev.SL.d (Go.Ev.DL.int Go.IntKind.u64 b.2.1), Go.Ev.SL.d (Go.Ev.DL.int Go.IntKind.u64 b.2.2.1), Go.Ev.SL.d (Go.Ev.DL.int Go.IntKind.u64 b.2.2.2.1), Go.Ev.SL.d (Go.Ev.DL.int Go.IntKind.u64 b.2.2.2.2.1)], Go.Ev.Obj.box (74 : Nat) [Go.Ev.SL.d (Go.Ev.DL.int Go.IntKind.u64 b.2.2.2.2.2.1), Go.Ev.SL.d (Go.Ev.DL.int Go.IntKind.u64 b.2.2.2.2.2.2.1), Go.Ev.SL.d (Go.Ev.DL.int Go.IntKind.u64 b.2.2.2.2.2.2.2.1), Go.Ev.SL.d (Go.Ev.DL.int Go.IntKind.u64 b.2.2.2.2.2.2.2.2.1), Go.Ev.SL.d (Go.Ev.DL.int Go.IntKind.u64 b.2.2.2.2.2.2.2.2.2)]]))
def retKL70_6 {R : Type} (K : Ex → CSt → Option R) : oL70_6 → Option R := fun b => K (Go.Ev.Ex.exit (2 : Nat)) (([Go.Ev.SV.one (Go.Ev.SL.ptr (0 : Nat) (0 : Nat)), Go.Ev.SV.one (Go.Ev.SL.ptr (1 : Nat) (0 : Nat))], [Go.Ev.Obj.box (74 : Nat) [Go.Ev.SL.d (Go.Ev.DL.int Go.IntKind.u64 b.1), Go.Ev.SL.d (Go.Ev.DL.int Go.IntKind.u64 b.2.1), Go.Ev.SL.d (Go.Ev.DL.int Go.IntKind.u64 b.2.2.1), Go.Ev.SL.d (Go.Ev.DL.int Go.IntKind.u64 b.2.2.2.1), Go.Ev.SL.d (Go.Ev.DL.int Go.IntKind.u64 b.2.2.2.2.1)], Go.Ev.Obj.box (74 : Nat) [Go.Ev.SL.d (Go.Ev.DL.int Go.IntKind.u64 b.2.2.2.2.2.1), Go.Ev.SL.d (Go.Ev.DL.int Go.IntKind.u64 b.2.2.2.2.2.2.1), Go.Ev.SL.d (Go.Ev.DL.int Go.IntKind.u64 b.2.2.2.2.2.2.2.1), Go.Ev.SL.d (Go.Ev.DL.int Go.IntKind.u64 b.2.2.2.2.2.2.2.2.1), Go.Ev.SL.d (Go.Ev.DL.int Go.IntKind.u64 b.2.2.2.2.2.2.2.2.2)]]))
theorem retKL70_6_eq {R : Type} (K : Ex → CSt → Option R) (b : oL70_6) : retKL70_6 K b = K (retL70_6 b).1 (retL70_6 b).2 := rfl
def entL70_6 (l : iL70_6 → Option oL70_6) : LEnt := mkLEnt 6 decL70_6 retL70_6 retKL70_6 retKL70_6_eq l
abbrev SdL70_6 (l : iL70_6 → Option oL70_6) : Prop := ∀ nt a b, l a = some b → LoopAt Try.prog nt 0 ann70 Try.f70 6 (encL70_6 a) (retL70_6 b)
noncomputable def u70_2 {R : Type} (sh : Sh) (l70_2 : iL70_2 → Option oL70_2) (x1 : Int) (x2 : Int) (x3 : Int) (x4 : Int) (x5 : Int) (x6 : Int) (x7 : Rows) (k : oL70_2 → Option R) : Option R :=
  sh ((↑(List.length x7) : Int)) fun y5 =>
  bif Int.tmod y5 (8 : Int) != (0 : Int) then
    sh ([[Go.Ev.DL.int Go.IntKind.u8 (0 : Int)]] : Rows) fun y6 =>
    bif Go.Ev.roomE Go.Proofs.Try.prog (5 : Nat) (List.length x7 + List.length y6) then
      sh (x7 ++ y6 : Rows) fun y7 =>
      (l70_2 (x1, x2, x3, x4, x5, x6, y7)).bind k
    else none
  else
    k ((x1, x2, x3, x4, x5, x6, x7))
theorem u70_2_eq {R : Type} (sh : Sh) (hsh : ∀ {α R : Type} (x : α) (K : α → Option R), sh x K = K x) (l70_2 : iL70_2 → Option oL70_2) (x1 : Int) (x2 : Int) (x3 : Int) (x4 : Int) (x5 : Int) (x6 : Int) (x7 : Rows) (K : Ex → CSt → Option R) : roundK Try.prog (tabO sh hsh br70 ar70 []) (tabL [entL70_2 l70_2]) ann70 0 Try.f70 2 (encL70_2 (x1, x2, x3, x4, x5, x6, x7)) K = u70_2 sh l70_2 x1 x2 x3 x4 x5 x6 x7 (retKL70_2 K) := by kernel_rfl
theorem u70_2_law {R : Type} (l70_2 : iL70_2 → Option oL70_2) (x1 : Int) (x2 : Int) (x3 : Int) (x4 : Int) (x5 : Int) (x6 : Int) (x7 : Rows) (K : oL70_2 → Option R) : u70_2 sh0 l70_2 x1 x2 x3 x4 x5 x6 x7 K = (u70_2 sh0 l70_2 x1 x2 x3 x4 x5 x6 x7 some).bind K := by
  simp only [u70_2, sh0, cond_bind', two_bind, none_bind', Option.bind_assoc, Option.bind_some]
theorem okL70_2 (l70_2 : iL70_2 → Option oL70_2) (hl70_2 : SdL70_2 l70_2) : SdL70_2 (fun a => u70_2 sh0 l70_2 a.1 a.2.1 a.2.2.1 a.2.2.2.1 a.2.2.2.2.1 a.2.2.2.2.2.1 a.2.2.2.2.2.2 some) := by
  intro nt a b h
  refine round_ok (sh := sh0) (hsh := fun _ _ => rfl) (br := br70) (ar := ar70) Try.mixed (by kernel_rfl) .nil (.cons (mkLEnt_ok (hl70_2 nt)) .nil) ((u70_2_eq sh0 (fun _ _ => rfl) l70_2  a.1 a.2.1 a.2.2.1 a.2.2.2.1 a.2.2.2.2.1 a.2.2.2.2.2.1 a.2.2.2.2.2.2 _).trans ?_)
  rw [u70_2_law]
  simp only at h
  rw [h, Option.bind_some, retKL70_2_eq]
noncomputable def u70_6 {R : Type} (sh : Sh) (f77 : i77 → Option o77) (f76 : i76 → Option o76) (l70_6 : iL70_6 → Option oL70_6) (x1 : Int) (x2 : Int) (x3 : Int) (x4 : Int) (x5 : Int) (x6 : Int) (x7 : Rows) (x8 : Int) (x9 : Int) (x10 : Int) (x11 : Int) (x12 : Int) (k : oL70_6 → Option R) : Option R :=
  sh ((↑(List.length x7) : Int)) fun y10 =>
  bif Decidable.decide (x1 < y10) then
    bif Decidable.decide ((0 : Int) ≤ x1 ∧ x1 ≤ Go.IntKind.wrap Go.IntKind.i64 (x1 + (8 : Int)) ∧ Go.IntKind.wrap Go.IntKind.i64 (x1 + (8 : Int)) ≤ (↑(List.length x7) : Int)) then
      (f77 (List.take (Int.toNat (Go.IntKind.wrap Go.IntKind.i64 (x1 + (8 : Int))) - Int.toNat x1) (List.drop (Int.toNat x1) x7))).bind fun (r11 : Int) =>
      sh (Go.IntKind.wrap Go.IntKind.u64 (↑(BitVec.toNat (BitVec.ofInt (64 : Nat) x8 ^^^ BitVec.ofInt (64 : Nat) r11)) : Int)) fun y12 =>
      (f76 (y12, x9, x10, x11, x12)).bind fun (r13 : Int × Int × Int × Int × Int) =>
      (l70_6 (Go.IntKind.wrap Go.IntKind.i64 (x1 + (8 : Int)), x2, x3, x4, x5, x6, x7, Prod.fst r13, Prod.fst r13.2, Prod.fst (Prod.snd r13).2, Prod.fst (Prod.snd (Prod.snd r13)).2, Prod.snd (Prod.snd (Prod.snd r13)).2)).bind k
    else none
  else
    k ((x2, x3, x4, x5, x6, x8, x9, x10, x11, x12))
theorem u70_6_eq {R : Type} (sh : Sh) (hsh : ∀ {α R : Type} (x : α) (K : α → Option R), sh x K = K x) (f77 : i77 → Option o77) (f76 : i76 → Option o76) (l70_6 : iL70_6 → Option oL70_6) (x1 : Int) (x2 : Int) (x3 : Int) (x4 : Int) (x5 : Int) (x6 : Int) (x7 : Rows) (x8 : Int) (x9 : Int) (x10 : Int) (x11 : Int) (x12 : Int) (K : Ex → CSt → Option R) : roundK Try.prog (tabO sh hsh br70 ar70 [ent77 f77, ent76 f76]) (tabL [entL70_6 l70_6]) ann70 0 Try.f70 6 (encL70_6 (x1, x2, x3, x4, x5, x6, x7, x8, x9, x10, x11, x12)) K = u70_6 sh f77 f76 l70_6 x1 x2 x3 x4 x5 x6 x7 x8 x9 x10 x11 x12 (retKL70_6 K) := by kernel_rfl
theorem u70_6_law {R : Type} (f77 : i77 → Option o77) (f76 : i76 → Option o76) (l70_6 : iL70_6 → Option oL70_6) (x1 : Int) (x2 : Int) (x3 : Int) (x4 : Int) (x5 : Int) (x6 : Int) (x7 : Rows) (x8 : Int) (x9 : Int) (x10 : Int) (x11 : Int) (x12 : Int) (K : oL70_6 → Option R) : u70_6 sh0 f77 f76 l70_6 x1 x2 x3 x4 x5 x6 x7 x8 x9 x10 x11 x12 K = (u70_6 sh0 f77 f76 l70_6 x1 x2 x3 x4 x5 x6 x7 x8 x9 x10 x11 x12 some).bind K := by
  simp only [u70_6, sh0, cond_bind', two_bind, none_bind', Option.bind_assoc, Option.bind_some]
theorem okL70_6 (f77 : i77 → Option o77) (f76 : i76 → Option o76) (l70_6 : iL70_6 → Option oL70_6) (hf77 : Sd77 f77) (hf76 : Sd76 f76) (hl70_6 : SdL70_6 l70_6) : SdL70_6 (fun a => u70_6 sh0 f77 f76 l70_6 a.1 a.2.1 a.2.2.1 a.2.2.2.1 a.2.2.2.2.1 a.2.2.2.2.2.1 a.2.2.2.2.2.2.1 a.2.2.2.2.2.2.2.1 a.2.2.2.2.2.2.2.2.1 a.2.2.2.2.2.2.2.2.2.1 a.2.2.2.2.2.2.2.2.2.2.1 a.2.2.2.2.2.2.2.2.2.2.2 some) := by
  intro nt a b h
  refine round_ok (sh := sh0) (hsh := fun _ _ => rfl) (br := br70) (ar := ar70) Try.mixed (by kernel_rfl) (.cons (mkEnt_ok hf77) (.cons (mkEnt_ok hf76) .nil)) (.cons (mkLEnt_ok (hl70_6 nt)) .nil) ((u70_6_eq sh0 (fun _ _ => rfl) f77 f76 l70_6  a.1 a.2.1 a.2.2.1 a.2.2.2.1 a.2.2.2.2.1 a.2.2.2.2.2.1 a.2.2.2.2.2.2.1 a.2.2.2.2.2.2.2.1 a.2.2.2.2.2.2.2.2.1 a.2.2.2.2.2.2.2.2.2.1 a.2.2.2.2.2.2.2.2.2.2.1 a.2.2.2.2.2.2.2.2.2.2.2 _).trans ?_)
  rw [u70_6_law]
  simp only at h
  rw [h, Option.bind_some, retKL70_6_eq]
noncomputable def t70 {R : Type} (sh : Sh) (f76 : i76 → Option o76) (l70_2 : iL70_2 → Option oL70_2) (l70_6 : iL70_6 → Option oL70_6) (x1 : Int) (x2 : Rows) (k : o70 → Option R) : Option R :=
  sh ([] : Rows) fun y1 =>
  bif Go.Ev.roomE Go.Proofs.Try.prog (5 : Nat) (List.length y1 + List.length x2) then
    sh (y1 ++ x2 : Rows) fun y2 =>
    sh ([[Go.Ev.DL.int Go.IntKind.u8 (1 : Int)]] : Rows) fun y3 =>
    bif Go.Ev.roomE Go.Proofs.Try.prog (5 : Nat) (List.length y2 + List.length y3) then
      sh (y2 ++ y3 : Rows) fun y4 =>
      (l70_2 (x1, (0 : Int), (0 : Int), (0 : Int), (0 : Int), (0 : Int), y4)).bind fun (r8 : Int × Int × Int × Int × Int × Int × Rows) =>
      (f76 (Prod.fst r8, (1 : Int), (2 : Int), (3 : Int), (4 : Int))).bind fun (r9 : Int × Int × Int × Int × Int) =>
      (l70_6 ((0 : Int), Prod.fst r8.2, Prod.fst (Prod.snd r8).2, Prod.fst (Prod.snd (Prod.snd r8)).2, Prod.fst (Prod.snd (Prod.snd (Prod.snd r8))).2, Prod.fst (Prod.snd (Prod.snd (Prod.snd (Prod.snd r8)))).2, Prod.snd (Prod.snd (Prod.snd (Prod.snd (Prod.snd r8)))).2, Prod.fst r9, Prod.fst r9.2, Prod.fst (Prod.snd r9).2, Prod.fst (Prod.snd (Prod.snd r9)).2, Prod.snd (Prod.snd (Prod.snd r9)).2)).bind fun (r14 : Int × Int × Int × Int × Int × Int × Int × Int × Int × Int) =>
      k ((Prod.fst (Prod.snd (Prod.snd (Prod.snd (Prod.snd r14)))).2, Prod.fst (Prod.snd (Prod.snd (Prod.snd (Prod.snd (Prod.snd r14))))).2, Prod.fst (Prod.snd (Prod.snd (Prod.snd (Prod.snd (Prod.snd (Prod.snd r14)))))).2, Prod.fst (Prod.snd (Prod.snd (Prod.snd (Prod.snd (Prod.snd (Prod.snd (Prod.snd r14))))))).2, Prod.snd (Prod.snd (Prod.snd (Prod.snd (Prod.snd (Prod.snd (Prod.snd (Prod.snd r14))))))).2))
    else none
  else none
theorem t70_eq {R : Type} (sh : Sh) (hsh : ∀ {α R : Type} (x : α) (K : α → Option R), sh x K = K x) (f76 : i76 → Option o76) (l70_2 : iL70_2 → Option oL70_2) (l70_6 : iL70_6 → Option oL70_6) (x1 : Int) (x2 : Rows) (K : CSt → Option R) : bodyK Try.prog (tabO sh hsh br70 ar70 [ent76 f76]) (tabL [entL70_2 l70_2, entL70_6 l70_6]) ann70 false Try.f70 (enc70 (x1, x2)) K = t70 sh f76 l70_2 l70_6 x1 x2 (retK70 K) := by kernel_rfl
theorem t70_law {R : Type} (f76 : i76 → Option o76) (l70_2 : iL70_2 → Option oL70_2) (l70_6 : iL70_6 → Option oL70_6) (x1 : Int) (x2 : Rows) (K : o70 → Option R) : t70 sh0 f76 l70_2 l70_6 x1 x2 K = (t70 sh0 f76 l70_2 l70_6 x1 x2 some).bind K := by
  simp only [t70, sh0, cond_bind', two_bind, none_bind', Option.bind_assoc, Option.bind_some]
theorem ok70 (f76 : i76 → Option o76) (l70_2 : iL70_2 → Option oL70_2) (l70_6 : iL70_6 → Option oL70_6) (hf76 : Sd76 f76) (hl70_2 : SdL70_2 l70_2) (hl70_6 : SdL70_6 l70_6) : Sd70 (fun a => t70 sh0 f76 l70_2 l70_6 a.1 a.2 some) := by
  intro a b h
  refine call_ok (sh := sh0) (hsh := fun _ _ => rfl) (br := br70) (ar := ar70) (own := false) Try.mixed Try.func70 (by kernel_rfl) (.cons (mkEnt_ok hf76) .nil) (fun nt => (.cons (mkLEnt_ok (hl70_2 nt)) (.cons (mkLEnt_ok (hl70_6 nt)) .nil))) ((t70_eq sh0 (fun _ _ => rfl) f76 l70_2 l70_6 a.1 a.2 _).trans ?_)
  rw [t70_law]
  simp only at h
  rw [h, Option.bind_some, retK70_eq]

/-! 69 erasure/erasureref25.squeeze -/
abbrev i69 : Type := Int × Int × Int × Int × Int × Int
def enc69 : i69 → CSt := fun a => ([Go.Ev.SV.agg [Go.Ev.SL.d (Go.Ev.DL.int Go.IntKind.u64 a.1), Go.Ev.SL.d (Go.Ev.DL.int Go.IntKind.u64 a.2.1), Go.Ev.SL.d (Go.Ev.DL.int Go.IntKind.u64 a.2.2.1), Go.Ev.SL.d (Go.Ev.DL.int Go.IntKind.u64 a.2.2.2.1), Go.Ev.SL.d (Go.Ev.DL.int Go.IntKind.u64 a.2.2.2.2.1)], Go.Ev.SV.one (Go.Ev.SL.d (Go.Ev.DL.int Go.IntKind.i64 a.2.2.2.2.2))], [])
def dec69 : (c : CSt) → Option { a : i69 // c = enc69 a }
  | ([Go.Ev.SV.agg [Go.Ev.SL.d (Go.Ev.DL.int Go.IntKind.u64 x1), Go.Ev.SL.d (Go.Ev.DL.int Go.IntKind.u64 x2), Go.Ev.SL.d (Go.Ev.DL.int Go.IntKind.u64 x3), Go.Ev.SL.d (Go.Ev.DL.int Go.IntKind.u64 x4), Go.Ev.SL.d (Go.Ev.DL.int Go.IntKind.u64 x5)], Go.Ev.SV.one (Go.Ev.SL.d (Go.Ev.DL.int Go.IntKind.i64 x6))], []) => some ⟨(x1, x2, x3, x4, x5, x6), rfl⟩
  | _ => none
abbrev o69 : Type := Rows
def ret69 : o69 → CSt := fun b => ([Go.Ev.SV.one (Go.Ev.SL.d (Go.Ev.DL.lst (5 : Nat) b))], [])
def retK69 {R : Type} (K : CSt → Option R) : o69 → Option R := fun b => K (([Go.Ev.SV.one (Go.Ev.SL.d (Go.Ev.DL.lst (5 : Nat) b))], []))
theorem retK69_eq {R : Type} (K : CSt → Option R) (b : o69) : retK69 K b = K (ret69 b) := rfl
abbrev Sd69 (f : i69 → Option o69) : Prop := ∀ a b, f a = some b → CallOk Try.prog 69 (enc69 a) (ret69 b)
def ent69 (f : i69 → Option o69) : Ent := mkEnt 69 dec69 ret69 retK69 retK69_eq f
def ann69 : Nat → List Nat × List Nat := fun id => bif Nat.beq id 2 then ([1, 2, 5], [1, 5]) else bif Nat.beq id 4 then ([1, 2, 5, 6], [1, 2, 5]) else ([], [])
def br69 : FuncId → Bool := fun (g : Nat) => ([67, 72] : List Nat).any (Nat.beq g)
def ar69 : TypeId → Bool := fun (t : Nat) => ([24, 25, 79, 82] : List Nat).any (Nat.beq t)
abbrev iL69_2 : Type := Int × Int × Int × Int × Int × Int × Rows
def encL69_2 : iL69_2 → CSt := fun a => ([Go.Ev.SV.one (Go.Ev.SL.d (Go.Ev.DL.int Go.IntKind.i64 a.1)), Go.Ev.SV.one (Go.Ev.SL.ptr (0 : Nat) (0 : Nat)), Go.Ev.SV.one (Go.Ev.SL.vr (1 : Nat))], [Go.Ev.Obj.box (74 : Nat) [Go.Ev.SL.d (Go.Ev.DL.int Go.IntKind.u64 a.2.1), Go.Ev.SL.d (Go.Ev.DL.int Go.IntKind.u64 a.2.2.1), Go.Ev.SL.d (Go.Ev.DL.int Go.IntKind.u64 a.2.2.2.1), Go.Ev.SL.d (Go.Ev.DL.int Go.IntKind.u64 a.2.2.2.2.1), Go.Ev.SL.d (Go.Ev.DL.int Go.IntKind.u64 a.2.2.2.2.2.1)], Go.Ev.Obj.vec (5 : Nat) Bool.false a.2.2.2.2.2.2])
def decL69_2 : (c : CSt) → Option { a : iL69_2 // c = encL69_2 a }
  | ([Go.Ev.SV.one (Go.Ev.SL.d (Go.Ev.DL.int Go.IntKind.i64 x1)), Go.Ev.SV.one (Go.Ev.SL.ptr (0 : Nat) (0 : Nat)), Go.Ev.SV.one (Go.Ev.SL.vr (1 : Nat))], [Go.Ev.Obj.box (74 : Nat) [Go.Ev.SL.d (Go.Ev.DL.int Go.IntKind.u64 x2), Go.Ev.SL.d (Go.Ev.DL.int Go.IntKind.u64 x3), Go.Ev.SL.d (Go.Ev.DL.int Go.IntKind.u64 x4), Go.Ev.SL.d (Go.Ev.DL.int Go.IntKind.u64 x5), Go.Ev.SL.d (Go.Ev.DL.int Go.IntKind.u64 x6)], Go.Ev.Obj.vec (5 : Nat) Bool.false x7]) => some ⟨(x1, x2, x3, x4, x5, x6, x7), rfl⟩
  | _ => none
abbrev oL69_2 : Type := Int × Rows
def retL69_2 : oL69_2 → Ex × CSt := fun b => (Go.Ev.Ex.exit (0 : Nat), ([Go.Ev.SV.one (Go.Ev.SL.d (Go.Ev.DL.int Go.IntKind.i64 b.1)), Go.Ev.SV.one (Go.Ev.SL.vr (0 : Nat))], [Go.Ev.Obj.vec (5 : Nat) Bool.false b.2]))
def retKL69_2 {R : Type} (K : Ex → CSt → Option R) : oL69_2 → Option R := fun b => K (Go.Ev.Ex.exit (0 : Nat)) (([Go.Ev.SV.one (Go.Ev.SL.d (Go.Ev.DL.int Go.IntKind.i64 b.1)), Go.Ev.SV.one (Go.Ev.SL.vr (0 : Nat))], [Go.Ev.Obj.vec (5 : Nat) Bool.false b.2]))
theorem retKL69_2_eq {R : Type} (K : Ex → CSt → Option R) (b : oL69_2) : retKL69_2 K b = K (retL69_2 b).1 (retL69_2 b).2 := rfl
def entL69_2 (l : iL69_2 → Option oL69_2) : LEnt := mkLEnt 2 decL69_2 retL69_2 retKL69_2 retKL69_2_eq l
abbrev SdL69_2 (l : iL69_2 → Option oL69_2) : Prop := ∀ nt a b, l a = some b → LoopAt Try.prog nt 0 ann69 Try.f69 2 (encL69_2 a) (retL69_2 b)
abbrev iL69_4 : Type := Int × Int × Int × Int × Int × Int × Int × Rows
def encL69_4 : iL69_4 → CSt := fun a => ([Go.Ev.SV.one (Go.Ev.SL.d (Go.Ev.DL.int Go.IntKind.i64 a.1)), Go.Ev.SV.one (Go.Ev.SL.ptr (0 : Nat) (0 : Nat)), Go.Ev.SV.one (Go.Ev.SL.vr (1 : Nat)), Go.Ev.SV.one (Go.Ev.SL.d (Go.Ev.DL.int Go.IntKind.i64 a.2.1))], [Go.Ev.Obj.box (74 : Nat) [Go.Ev.SL.d (Go.Ev.DL.int Go.IntKind.u64 a.2.2.1), Go.Ev.SL.d (Go.Ev.DL.int Go.IntKind.u64 a.2.2.2.1), Go.Ev.SL.d (Go.Ev.DL.int Go.IntKind.u64 a.2.2.2.2.1), Go.Ev.SL.d (Go.Ev.DL.int Go.IntKind.u64 a.2.2.2.2.2.1), Go.Ev.SL.d (Go.Ev.DL.int Go.IntKind.u64 a.2.2.2.2.2.2.1)], Go.Ev.Obj.vec (5 : Nat) Bool.false a.2.2.2.2.2.2.2])
def decL69_4 : (c : CSt) → Option { a : iL69_4 // c = encL69_4 a }
  | ([Go.Ev.SV.one (Go.Ev.SL.d (Go.Ev.DL.int Go.IntKind.i64 x1)), Go.Ev.SV.one (Go.Ev.SL.ptr (0 : Nat) (0 : Nat)), Go.Ev.SV.one (Go.Ev.SL.vr (1 : Nat)), Go.Ev.SV.one (Go.Ev.SL.d (Go.Ev.DL.int Go.IntKind.i64 x2))], [Go.Ev.Obj.box (74 : Nat) [Go.Ev.SL.d (Go.Ev.DL.int Go.IntKind.u64 x3), Go.Ev.SL.d (Go.Ev.DL.int Go.IntKind.u64 x4), Go.Ev.SL.d (Go.Ev.DL.int Go.IntKind.u64 x5), Go.Ev.SL.d (Go.Ev.DL.int Go.IntKind.u64 x6), Go.Ev.SL.d (Go.Ev.DL.int Go.IntKind.u64 x7)], Go.Ev.Obj.vec (5 : Nat) Bool.false x8]) => some ⟨(x1, x2, x3, x4, x5, x6, x7, x8), rfl⟩
  | _ => none
abbrev oL69_4 : Type := Int × Int × Int × Int × Int × Int × Rows
def retL69_4 : oL69_4 → Ex × CSt := fun b => (Go.Ev.Ex.exit (2 : Nat), ([Go.Ev.SV.one (Go.Ev.SL.d (Go.Ev.DL.int Go.IntKind.i64 b.1)), Go.Ev.SV.one (Go.Ev.SL.ptr (0 : Nat) (0 : Nat)), Go.Ev.SV.one (Go.Ev.SL.vr (1 : Nat))], [Go.Ev.Obj.box (74 : Nat) [Go.Ev.SL.d (Go.Ev.DL.int Go.IntKind.u64 b.2.1), Go.Ev.SL.d (Go.Ev.DL.int Go.IntKind.u64 b.2.2.1), Go.Ev.SL.d (Go.Ev.DL.int Go.IntKind.u64 b.2.2.2.1), Go.Ev.SL.d (Go.Ev.DL.int Go.IntKind.u64 b.2.2.2.2.1), Go.Ev.SL.d (Go.Ev.DL.int Go.IntKind.u64 b.2.2.2.2.2.1)], Go.Ev.Obj.vec (5 : Nat) Bool.false b.2.2.2.2.2.2]))
def retKL69_4 {R : Type} (K : Ex → CSt → Option R) : oL69_4 → Option R := fun b => K (Go.Ev.Ex.exit (2 : Nat)) (([Go.Ev.SV.one (Go.Ev.SL.d (Go.Ev.DL.int Go.IntKind.i64 b.1)), Go.Ev.SV.one (Go.Ev.SL.ptr (0 : Nat) (0 : Nat)), Go.Ev.SV.one (Go.Ev.SL.vr (1 : Nat))], [Go.Ev.Obj.box (74 : Nat) [Go.Ev.SL.d (Go.Ev.DL.int Go.IntKind.u64 b.2.1), Go.Ev.SL.d (Go.Ev.DL.int Go.IntKind.u64 b.2.2.1), Go.Ev.SL.d (Go.Ev.DL.int Go.IntKind.u64 b.2.2.2.1), Go.Ev.SL.d (Go.Ev.DL.int Go.IntKind.u64 b.2.2.2.2.1), Go.Ev.SL.d (Go.Ev.DL.int Go.IntKind.u64 b.2.2.2.2.2.1)], Go.Ev.Obj.vec (5 : Nat) Bool.false b.2.2.2.2.2.2]))
theorem retKL69_4_eq {R : Type} (K : Ex → CSt → Option R) (b : oL69_4) : retKL69_4 K b = K (retL69_4 b).1 (retL69_4 b).2 := rfl
def entL69_4 (l : iL69_4 → Option oL69_4) : LEnt := mkLEnt 4 decL69_4 retL69_4 retKL69_4 retKL69_4_eq l
abbrev SdL69_4 (l : iL69_4 → Option oL69_4) : Prop := ∀ nt a b, l a = some b → LoopAt Try.prog nt 0 ann69 Try.f69 4 (encL69_4 a) (retL69_4 b)
noncomputable def u69_2 {R : Type} (sh : Sh) (f76 : i76 → Option o76) (l69_4 : iL69_4 → Option oL69_4) (l69_2 : iL69_2 → Option oL69_2) (x1 : Int) (x2 : Int) (x3 : Int) (x4 : Int) (x5 : Int) (x6 : Int) (x7 : Rows) (k : oL69_2 → Option R) : Option R :=
  sh ((↑(List.length x7) : Int)) fun y3 =>
  bif Decidable.decide (y3 < x1) then
    (l69_4 (x1, (0 : Int), x2, x3, x4, x5, x6, x7)).bind fun (r7 : Int × Int × Int × Int × Int × Int × Rows) =>
    (f76 (Prod.fst r7.2, Prod.fst (Prod.snd r7).2, Prod.fst (Prod.snd (Prod.snd r7)).2, Prod.fst (Prod.snd (Prod.snd (Prod.snd r7))).2, Prod.fst (Prod.snd (Prod.snd (Prod.snd (Prod.snd r7)))).2)).bind fun (r8 : Int × Int × Int × Int × Int) =>
    (l69_2 (Prod.fst r7, Prod.fst r8, Prod.fst r8.2, Prod.fst (Prod.snd r8).2, Prod.fst (Prod.snd (Prod.snd r8)).2, Prod.snd (Prod.snd (Prod.snd r8)).2, Prod.snd (Prod.snd (Prod.snd (Prod.snd (Prod.snd r7)))).2)).bind k
  else
    k ((x1, x7))
theorem u69_2_eq {R : Type} (sh : Sh) (hsh : ∀ {α R : Type} (x : α) (K : α → Option R), sh x K = K x) (f76 : i76 → Option o76) (l69_4 : iL69_4 → Option oL69_4) (l69_2 : iL69_2 → Option oL69_2) (x1 : Int) (x2 : Int) (x3 : Int) (x4 : Int) (x5 : Int) (x6 : Int) (x7 : Rows) (K : Ex → CSt → Option R) : roundK Try.prog (tabO sh hsh br69 ar69 [ent76 f76]) (tabL [entL69_4 l69_4, entL69_2 l69_2]) ann69 0 Try.f69 2 (encL69_2 (x1, x2, x3, x4, x5, x6, x7)) K = u69_2 sh f76 l69_4 l69_2 x1 x2 x3 x4 x5 x6 x7 (retKL69_2 K) := by kernel_rfl
theorem u69_2_law {R : Type} (f76 : i76 → Option o76) (l69_4 : iL69_4 → Option oL69_4) (l69_2 : iL69_2 → Option oL69_2) (x1 : Int) (x2 : Int) (x3 : Int) (x4 : Int) (x5 : Int) (x6 : Int) (x7 : Rows) (K : oL69_2 → Option R) : u69_2 sh0 f76 l69_4 l69_2 x1 x2 x3 x4 x5 x6 x7 K = (u69_2 sh0 f76 l69_4 l69_2 x1 x2 x3 x4 x5 x6 x7 some).bind K := by
  simp only [u69_2, sh0, cond_bind', two_bind, none_bind', Option.bind_assoc, Option.bind_some]
theorem okL69_2 (f76 : i76 → Option o76) (l69_4 : iL69_4 → Option oL69_4) (l69_2 : iL69_2 → Option oL69_2) (hf76 : Sd76 f76) (hl69_4 : SdL69_4 l69_4) (hl69_2 : SdL69_2 l69_2) : SdL69_2 (fun a => u69_2 sh0 f76 l69_4 l69_2 a.1 a.2.1 a.2.2.1 a.2.2.2.1 a.2.2.2.2.1 a.2.2.2.2.2.1 a.2.2.2.2.2.2 some) := by
  intro nt a b h
  refine round_ok (sh := sh0) (hsh := fun _ _ => rfl) (br := br69) (ar := ar69) Try.mixed (by kernel_rfl) (.cons (mkEnt_ok hf76) .nil) (.cons (mkLEnt_ok (hl69_4 nt)) (.cons (mkLEnt_ok (hl69_2 nt)) .nil)) ((u69_2_eq sh0 (fun _ _ => rfl) f76 l69_4 l69_2  a.1 a.2.1 a.2.2.1 a.2.2.2.1 a.2.2.2.2.1 a.2.2.2.2.2.1 a.2.2.2.2.2.2 _).trans ?_)
  rw [u69_2_law]
  simp only at h
  rw [h, Option.bind_some, retKL69_2_eq]
noncomputable def u69_4 {R : Type} (sh : Sh) (l69_4 : iL69_4 → Option oL69_4) (x1 : Int) (x2 : Int) (x3 : Int) (x4 : Int) (x5 : Int) (x6 : Int) (x7 : Int) (x8 : Rows) (k : oL69_4 → Option R) : Option R :=
  bif Decidable.decide (x2 < (8 : Int)) then
    bif Decidable.decide ((0 : Int) ≤ Go.IntKind.wrap Go.IntKind.i64 ((8 : Int) * x2)) then
      sh (Int.fdiv x3 ((2 : Int) ^ Min.min (Int.toNat (Go.IntKind.wrap Go.IntKind.i64 ((8 : Int) * x2))) (64 : Nat))) fun y4 =>
      sh ([[Go.Ev.DL.int Go.IntKind.u8 (Go.IntKind.wrap Go.IntKind.u8 y4)]] : Rows) fun y5 =>
      bif Go.Ev.roomE Go.Proofs.Try.prog (5 : Nat) (List.length x8 + List.length y5) then
        sh (x8 ++ y5 : Rows) fun y6 =>
        (l69_4 (x1, Go.IntKind.wrap Go.IntKind.i64 (x2 + (1 : Int)), x3, x4, x5, x6, x7, y6)).bind k
      else none
    else none
  else
    k ((x1, x3, x4, x5, x6, x7, x8))
theorem u69_4_eq {R : Type} (sh : Sh) (hsh : ∀ {α R : Type} (x : α) (K : α → Option R), sh x K = K x) (l69_4 : iL69_4 → Option oL69_4) (x1 : Int) (x2 : Int) (x3 : Int) (x4 : Int) (x5 : Int) (x6 : Int) (x7 : Int) (x8 : Rows) (K : Ex → CSt → Option R) : roundK Try.prog (tabO sh hsh br69 ar69 []) (tabL [entL69_4 l69_4]) ann69 0 Try.f69 4 (encL69_4 (x1, x2, x3, x4, x5, x6, x7, x8)) K = u69_4 sh l69_4 x1 x2 x3 x4 x5 x6 x7 x8 (retKL69_4 K) := by kernel_rfl
theorem u69_4_law {R : Type} (l69_4 : iL69_4 → Option oL69_4) (x1 : Int) (x2 : Int) (x3 : Int) (x4 : Int) (x5 : Int) (x6 : Int) (x7 : Int) (x8 : Rows) (K : oL69_4 → Option R) : u69_4 sh0 l69_4 x1 x2 x3 x4 x5 x6 x7 x8 K = (u69_4 sh0 l69_4 x1 x2 x3 x4 x5 x6 x7 x8 some).bind K := by
  simp only [u69_4, sh0, cond_bind', two_bind, none_bind', Option.bind_assoc, Option.bind_some]
theorem okL69_4 (l69_4 : iL69_4 → Option oL69_4) (hl69_4 : SdL69_4 l69_4) : SdL69_4 (fun a => u69_4 sh0 l69_4 a.1 a.2.1 a.2.2.1 a.2.2.2.1 a.2.2.2.2.1 a.2.2.2.2.2.1 a.2.2.2.2.2.2.1 a.2.2.2.2.2.2.2 some) := by
  intro nt a b h
  refine round_ok (sh := sh0) (hsh := fun _ _ => rfl) (br := br69) (ar := ar69) Try.mixed (by kernel_rfl) .nil (.cons (mkLEnt_ok (hl69_4 nt)) .nil) ((u69_4_eq sh0 (fun _ _ => rfl) l69_4  a.1 a.2.1 a.2.2.1 a.2.2.2.1 a.2.2.2.2.1 a.2.2.2.2.2.1 a.2.2.2.2.2.2.1 a.2.2.2.2.2.2.2 _).trans ?_)
  rw [u69_4_law]
  simp only at h
  rw [h, Option.bind_some, retKL69_4_eq]
noncomputable def t69 {R : Type} (sh : Sh) (l69_2 : iL69_2 → Option oL69_2) (x1 : Int) (x2 : Int) (x3 : Int) (x4 : Int) (x5 : Int) (x6 : Int) (k : o69 → Option R) : Option R :=
  sh ([] : Rows) fun y1 =>
  sh ([] : Rows) fun y2 =>
  (l69_2 (x6, x1, x2, x3, x4, x5, y2)).bind fun (r9 : Int × Rows) =>
  bif Decidable.decide ((0 : Int) ≤ Prod.fst r9 ∧ Prod.fst r9 ≤ (↑(List.length (Prod.snd r9)) : Int)) then
    k (List.take (Int.toNat (Prod.fst r9) - (0 : Nat)) (List.drop (0 : Nat) (Prod.snd r9)))
  else none
theorem t69_eq {R : Type} (sh : Sh) (hsh : ∀ {α R : Type} (x : α) (K : α → Option R), sh x K = K x) (l69_2 : iL69_2 → Option oL69_2) (x1 : Int) (x2 : Int) (x3 : Int) (x4 : Int) (x5 : Int) (x6 : Int) (K : CSt → Option R) : bodyK Try.prog (tabO sh hsh br69 ar69 []) (tabL [entL69_2 l69_2]) ann69 true Try.f69 (enc69 (x1, x2, x3, x4, x5, x6)) K = t69 sh l69_2 x1 x2 x3 x4 x5 x6 (retK69 K) := by kernel_rfl
theorem t69_law {R : Type} (l69_2 : iL69_2 → Option oL69_2) (x1 : Int) (x2 : Int) (x3 : Int) (x4 : Int) (x5 : Int) (x6 : Int) (K : o69 → Option R) : t69 sh0 l69_2 x1 x2 x3 x4 x5 x6 K = (t69 sh0 l69_2 x1 x2 x3 x4 x5 x6 some).bind K := by
  simp only [t69, sh0, cond_bind', two_bind, none_bind', Option.bind_assoc, Option.bind_some]
theorem ok69 (l69_2 : iL69_2 → Option oL69_2) (hl69_2 : SdL69_2 l69_2) : Sd69 (fun a => t69 sh0 l69_2 a.1 a.2.1 a.2.2.1 a.2.2.2.1 a.2.2.2.2.1 a.2.2.2.2.2 some) := by
  intro a b h
  refine call_ok (sh := sh0) (hsh := fun _ _ => rfl) (br := br69) (ar := ar69) (own := true) Try.mixed Try.func69 (by kernel_rfl) .nil (fun nt => (.cons (mkLEnt_ok (hl69_2 nt)) .nil)) ((t69_eq sh0 (fun _ _ => rfl) l69_2 a.1 a.2.1 a.2.2.1 a.2.2.2.1 a.2.2.2.2.1 a.2.2.2.2.2 _).trans ?_)
  rw [t69_law]
  simp only at h
  rw [h, Option.bind_some, retK69_eq]

/-! 50 erasure/erasureref25.Sum -/
abbrev i50 : Type := Int × Rows
def enc50 : i50 → CSt := fun a => ([Go.Ev.SV.one (Go.Ev.SL.d (Go.Ev.DL.int Go.IntKind.u64 a.1)), Go.Ev.SV.one (Go.Ev.SL.d (Go.Ev.DL.lst (5 : Nat) a.2))], [])
def dec50 : (c : CSt) → Option { a : i50 // c = enc50 a }
  | ([Go.Ev.SV.one (Go.Ev.SL.d (Go.Ev.DL.int Go.IntKind.u64 x1)), Go.Ev.SV.one (Go.Ev.SL.d (Go.Ev.DL.lst (5 : Nat) x2))], []) => some ⟨(x1, x2), rfl⟩
  | _ => none
abbrev o50 : Type := List Int
def ret50 : o50 → CSt := fun b => ([Go.Ev.SV.agg (Go.Ev.pkS Go.IntKind.u8 b (32 : Nat))], [])
def retK50 {R : Type} (K : CSt → Option R) : o50 → Option R := fun b => K (([Go.Ev.SV.agg (Go.Ev.pkS Go.IntKind.u8 b (32 : Nat))], []))
theorem retK50_eq {R : Type} (K : CSt → Option R) (b : o50) : retK50 K b = K (ret50 b) := rfl
abbrev Sd50 (f : i50 → Option o50) : Prop := ∀ a b, f a = some b → CallOk Try.prog 50 (enc50 a) (ret50 b)
def ent50 (f : i50 → Option o50) : Ent := mkEnt 50 dec50 ret50 retK50 retK50_eq f
def ann50 : Nat → List Nat × List Nat := fun id => bif Nat.beq id 4 then ([4, 5, 6, 7], [4, 5]) else ([], [])
def br50 : FuncId → Bool := fun (g : Nat) => ([67, 72] : List Nat).any (Nat.beq g)
def ar50 : TypeId → Bool := fun (t : Nat) => ([24, 25, 79, 82] : List Nat).any (Nat.beq t)
abbrev iL50_4 : Type := Rows × Int × Rows × Rows
def encL50_4 : iL50_4 → CSt := fun a => ([Go.Ev.SV.one (Go.Ev.SL.ept (0 : Nat) (0 : Nat) (0 : Nat)), Go.Ev.SV.one (Go.Ev.SL.ept (1 : Nat) (0 : Nat) (0 : Nat)), Go.Ev.SV.one (Go.Ev.SL.d (Go.Ev.DL.lst (5 : Nat) a.1)), Go.Ev.SV.one (Go.Ev.SL.d (Go.Ev.DL.int Go.IntKind.i64 a.2.1))], [Go.Ev.Obj.vec (5 : Nat) Bool.false a.2.2.1, Go.Ev.Obj.vec (5 : Nat) Bool.false a.2.2.2])
def decL50_4 : (c : CSt) → Option { a : iL50_4 // c = encL50_4 a }
  | ([Go.Ev.SV.one (Go.Ev.SL.ept (0 : Nat) (0 : Nat) (0 : Nat)), Go.Ev.SV.one (Go.Ev.SL.ept (1 : Nat) (0 : Nat) (0 : Nat)), Go.Ev.SV.one (Go.Ev.SL.d (Go.Ev.DL.lst (5 : Nat) x1)), Go.Ev.SV.one (Go.Ev.SL.d (Go.Ev.DL.int Go.IntKind.i64 x2))], [Go.Ev.Obj.vec (5 : Nat) Bool.false x3, Go.Ev.Obj.vec (5 : Nat) Bool.false x4]) => some ⟨(x1, x2, x3, x4), rfl⟩
  | _ => none
abbrev oL50_4 : Type := Rows × Rows
def retL50_4 : oL50_4 → Ex × CSt := fun b => (Go.Ev.Ex.exit (0 : Nat), ([Go.Ev.SV.one (Go.Ev.SL.ept (0 : Nat) (0 : Nat) (0 : Nat)), Go.Ev.SV.one (Go.Ev.SL.ept (1 : Nat) (0 : Nat) (0 : Nat))], [Go.Ev.Obj.vec (5 : Nat) Bool.false b.1, Go.Ev.Obj.vec (5 : Nat) Bool.false b.2]))
def retKL50_4 {R : Type} (K : Ex → CSt → Option R) : oL50_4 → Option R := fun b => K (Go.Ev.Ex.exit (0 : Nat)) (([Go.Ev.SV.one (Go.Ev.SL.ept (0 : Nat) (0 : Nat) (0 : Nat)), Go.Ev.SV.one (Go.Ev.SL.ept (1 : Nat) (0 : Nat) (0 : Nat))], [Go.Ev.Obj.vec (5 : Nat) Bool.false b.1, Go.Ev.Obj.vec (5 : Nat) Bool.false b.2]))
theorem retKL50_4_eq {R : Type} (K : Ex → CSt → Option R) (b : oL50_4) : retKL50_4 K b = K (retL50_4 b).1 (retL50_4 b).2 := rfl
def entL50_4 (l : iL50_4 → Option oL50_4) : LEnt := mkLEnt 4 decL50_4 retL50_4 retKL50_4 retKL50_4_eq l
abbrev SdL50_4 (l : iL50_4 → Option oL50_4) : Prop := ∀ nt a b, l a = some b → LoopAt Try.prog nt 0 ann50 Try.f50 4 (encL50_4 a) (retL50_4 b)
noncomputable def u50_4 {R : Type} (sh : Sh) (l50_4 : iL50_4 → Option oL50_4) (x1 : Rows) (x2 : Int) (x3 : Rows) (x4 : Rows) (k : oL50_4 → Option R) : Option R :=
  bif Decidable.decide (x2 < (32 : Int)) then
    bif Decidable.decide ((0 : Int) ≤ x2 ∧ x2 < (↑(List.length x1) : Int)) then
      sh (Go.Ev.DL.getI (Go.Ev.cellAt x1 (Int.toNat x2) (0 : Nat))) fun y5 =>
      bif Decidable.decide ((0 : Int) ≤ x2 ∧ x2 < (32 : Int)) then
        bif Decidable.decide (Int.toNat x2 < List.length x4) then
          sh (List.set x4 (Int.toNat x2) [Go.Ev.DL.int Go.IntKind.u8 y5] : Rows) fun y6 =>
          (l50_4 (x1, Go.IntKind.wrap Go.IntKind.i64 (x2 + (1 : Int)), x3, y6)).bind k
        else none
      else none
    else none
  else
    k ((x3, x4))
theorem u50_4_eq {R : Type} (sh : Sh) (hsh : ∀ {α R : Type} (x : α) (K : α → Option R), sh x K = K x) (l50_4 : iL50_4 → Option oL50_4) (x1 : Rows) (x2 : Int) (x3 : Rows) (x4 : Rows) (K : Ex → CSt → Option R) : roundK Try.prog (tabO sh hsh br50 ar50 []) (tabL [entL50_4 l50_4]) ann50 0 Try.f50 4 (encL50_4 (x1, x2, x3, x4)) K = u50_4 sh l50_4 x1 x2 x3 x4 (retKL50_4 K) := by kernel_rfl
theorem u50_4_law {R : Type} (l50_4 : iL50_4 → Option oL50_4) (x1 : Rows) (x2 : Int) (x3 : Rows) (x4 : Rows) (K : oL50_4 → Option R) : u50_4 sh0 l50_4 x1 x2 x3 x4 K = (u50_4 sh0 l50_4 x1 x2 x3 x4 some).bind K := by
  simp only [u50_4, sh0, cond_bind', two_bind, none_bind', Option.bind_assoc, Option.bind_some]
theorem okL50_4 (l50_4 : iL50_4 → Option oL50_4) (hl50_4 : SdL50_4 l50_4) : SdL50_4 (fun a => u50_4 sh0 l50_4 a.1 a.2.1 a.2.2.1 a.2.2.2 some) := by
  intro nt a b h
  refine round_ok (sh := sh0) (hsh := fun _ _ => rfl) (br := br50) (ar := ar50) Try.mixed (by kernel_rfl) .nil (.cons (mkLEnt_ok (hl50_4 nt)) .nil) ((u50_4_eq sh0 (fun _ _ => rfl) l50_4  a.1 a.2.1 a.2.2.1 a.2.2.2 _).trans ?_)
  rw [u50_4_law]
  simp only at h
  rw [h, Option.bind_some, retKL50_4_eq]
noncomputable def t50 {R : Type} (sh : Sh) (f70 : i70 → Option o70) (f69 : i69 → Option o69) (l50_4 : iL50_4 → Option oL50_4) (x1 : Int) (x2 : Rows) (k : o50 → Option R) : Option R :=
  sh (List.replicate (32 : Nat) [Go.Ev.DL.int Go.IntKind.u8 (0 : Int)] : Rows) fun y1 =>
  sh (List.replicate (32 : Nat) [Go.Ev.DL.int Go.IntKind.u8 (0 : Int)] : Rows) fun y2 =>
  (f70 (x1, x2)).bind fun (r3 : Int × Int × Int × Int × Int) =>
  (f69 (Prod.fst r3, Prod.fst r3.2, Prod.fst (Prod.snd r3).2, Prod.fst (Prod.snd (Prod.snd r3)).2, Prod.snd (Prod.snd (Prod.snd r3)).2, (32 : Int))).bind fun (r4 : Rows) =>
  (l50_4 (r4, (0 : Int), y1, y2)).bind fun (r7 : Rows × Rows) =>
  bif Decidable.decide (List.length (Prod.snd r7) = (32 : Nat)) then
    bif Decidable.decide (List.length (Prod.fst r7) = (32 : Nat)) then
      sh (Go.Ev.colD (Go.Ev.mapD Go.IntKind.u8 (Go.Ev.colI (Prod.snd r7) (32 : Nat))) : Rows) fun y8 =>
      bif Decidable.decide (List.length y8 = (32 : Nat)) then
        k (Go.Ev.colI y8 (32 : Nat))
      else none
    else none
  else none
theorem t50_eq {R : Type} (sh : Sh) (hsh : ∀ {α R : Type} (x : α) (K : α → Option R), sh x K = K x) (f70 : i70 → Option o70) (f69 : i69 → Option o69) (l50_4 : iL50_4 → Option oL50_4) (x1 : Int) (x2 : Rows) (K : CSt → Option R) : bodyK Try.prog (tabO sh hsh br50 ar50 [ent70 f70, ent69 f69]) (tabL [entL50_4 l50_4]) ann50 false Try.f50 (enc50 (x1, x2)) K = t50 sh f70 f69 l50_4 x1 x2 (retK50 K) := by kernel_rfl
theorem t50_law {R : Type} (f70 : i70 → Option o70) (f69 : i69 → Option o69) (l50_4 : iL50_4 → Option oL50_4) (x1 : Int) (x2 : Rows) (K : o50 → Option R) : t50 sh0 f70 f69 l50_4 x1 x2 K = (t50 sh0 f70 f69 l50_4 x1 x2 some).bind K := by
  simp only [t50, sh0, cond_bind', two_bind, none_bind', Option.bind_assoc, Option.bind_some]
theorem ok50 (f70 : i70 → Option o70) (f69 : i69 → Option o69) (l50_4 : iL50_4 → Option oL50_4) (hf70 : Sd70 f70) (hf69 : Sd69 f69) (hl50_4 : SdL50_4 l50_4) : Sd50 (fun a => t50 sh0 f70 f69 l50_4 a.1 a.2 some) := by
  intro a b h
  refine call_ok (sh := sh0) (hsh := fun _ _ => rfl) (br := br50) (ar := ar50) (own := false) Try.mixed Try.func50 (by kernel_rfl) (.cons (mkEnt_ok hf70) (.cons (mkEnt_ok hf69) .nil)) (fun nt => (.cons (mkLEnt_ok (hl50_4 nt)) .nil)) ((t50_eq sh0 (fun _ _ => rfl) f70 f69 l50_4 a.1 a.2 _).trans ?_)
  rw [t50_law]
  simp only at h
  rw [h, Option.bind_some, retK50_eq]

/-! 63 erasure/erasureref25.Keyed -/
abbrev i63 : Type := Int × List Int × Rows
def enc63 : i63 → CSt := fun a => ([Go.Ev.SV.one (Go.Ev.SL.d (Go.Ev.DL.int Go.IntKind.u64 a.1)), Go.Ev.SV.agg (Go.Ev.pkS Go.IntKind.u8 a.2.1 (32 : Nat)), Go.Ev.SV.one (Go.Ev.SL.d (Go.Ev.DL.lst (5 : Nat) a.2.2))], [])
def dec63 : (c : CSt) → Option { a : i63 // c = enc63 a }
  | ([Go.Ev.SV.one (Go.Ev.SL.d (Go.Ev.DL.int Go.IntKind.u64 x1)), Go.Ev.SV.agg [Go.Ev.SL.d (Go.Ev.DL.int Go.IntKind.u8 x2_0), Go.Ev.SL.d (Go.Ev.DL.int Go.IntKind.u8 x2_1), Go.Ev.SL.d (Go.Ev.DL.int Go.IntKind.u8 x2_2), Go.Ev.SL.d (Go.Ev.DL.int Go.IntKind.u8 x2_3), Go.Ev.SL.d (Go.Ev.DL.int Go.IntKind.u8 x2_4), Go.Ev.SL.d (Go.Ev.DL.int Go.IntKind.u8 x2_5), Go.Ev.SL.d (Go.Ev.DL.int Go.IntKind.u8 x2_6), Go.Ev.SL.d (Go.Ev.DL.int Go.IntKind.u8 x2_7), Go.Ev.SL.d (Go.Ev.DL.int Go.IntKind.u8 x2_8), Go.Ev.SL.d (Go.Ev.DL.int Go.IntKind.u8 x2_9), Go.Ev.SL.d (Go.Ev.DL.int Go.IntKind.u8 x2_10), Go.Ev.SL.d (Go.Ev.DL.int Go.IntKind.u8 x2_11), Go.Ev.SL.d (Go.Ev.DL.int Go.IntKind.u8 x2_12), Go.Ev.SL.d (Go.Ev.DL.int Go.IntKind.u8 x2_13), Go.Ev.SL.d (Go.Ev.DL.int Go.IntKind.u8 x2_14), Go.Ev.SL.d (Go.Ev.DL.int Go.IntKind.u8 x2_15), Go.Ev.SL.d (Go.Ev.DL.int Go.IntKind.u8 x2_16), Go.Ev.SL.d (Go.Ev.DL.int Go.IntKind.u8 x2_17), Go.Ev.SL.d (Go.Ev.DL.int Go.IntKind.u8 x2_18), Go.Ev.SL.d (Go.Ev.DL.int Go.IntKind.u8 x2_19), Go.Ev.SL.d (Go.Ev.DL.int Go.IntKind.u8 x2_20), Go.Ev.SL.d (Go.Ev.DL.int Go.IntKind.u8 x2_21), Go.Ev.SL.d (Go.Ev.DL.int Go.IntKind.u8 x2_22), Go.Ev.SL.d (Go.Ev.DL.int Go.IntKind.u8 x2_23), Go.Ev.SL.d (Go.Ev.DL.int Go.IntKind.u8 x2_24), Go.Ev.SL.d (Go.Ev.DL.int Go.IntKind.u8 x2_25), Go.Ev.SL.d (Go.Ev.DL.int Go.IntKind.u8 x2_26), Go.Ev.SL.d (Go.Ev.DL.int Go.IntKind.u8 x2_27), Go.Ev.SL.d (Go.Ev.DL.int Go.IntKind.u8 x2_28), Go.Ev.SL.d (Go.Ev.DL.int Go.IntKind.u8 x2_29), Go.Ev.SL.d (Go.Ev.DL.int Go.IntKind.u8 x2_30), Go.Ev.SL.d (Go.Ev.DL.int Go.IntKind.u8 x2_31)], Go.Ev.SV.one (Go.Ev.SL.d (Go.Ev.DL.lst (5 : Nat) x3))], []) => some ⟨(x1, [x2_0, x2_1, x2_2, x2_3, x2_4, x2_5, x2_6, x2_7, x2_8, x2_9, x2_10, x2_11, x2_12, x2_13, x2_14, x2_15, x2_16, x2_17, x2_18, x2_19, x2_20, x2_21, x2_22, x2_23, x2_24, x2_25, x2_26, x2_27, x2_28, x2_29, x2_30, x2_31], x3), rfl⟩
  | _ => none
abbrev o63 : Type := List Int
def ret63 : o63 → CSt := fun b => ([Go.Ev.SV.agg (Go.Ev.pkS Go.IntKind.u8 b (32 : Nat))], [])
def retK63 {R : Type} (K : CSt → Option R) : o63 → Option R := fun b => K (([Go.Ev.SV.agg (Go.Ev.pkS Go.IntKind.u8 b (32 : Nat))], []))
theorem retK63_eq {R : Type} (K : CSt → Option R) (b : o63) : retK63 K b = K (ret63 b) := rfl
abbrev Sd63 (f : i63 → Option o63) : Prop := ∀ a b, f a = some b → CallOk Try.prog 63 (enc63 a) (ret63 b)
def ent63 (f : i63 → Option o63) : Ent := mkEnt 63 dec63 ret63 retK63 retK63_eq f
def ann63 : Nat → List Nat × List Nat := fun id => ([], [])
def br63 : FuncId → Bool := fun (g : Nat) => ([67, 72] : List Nat).any (Nat.beq g)
def ar63 : TypeId → Bool := fun (t : Nat) => ([24, 25, 79, 82] : List Nat).any (Nat.beq t)
noncomputable def t63 {R : Type} (sh : Sh) (f71 : i71 → Option o71) (f50 : i50 → Option o50) (x1 : Int) (x2 : List Int) (x3 : Rows) (k : o63 → Option R) : Option R :=
  sh (Go.Ev.colD (Go.Ev.mapD Go.IntKind.u8 (Go.Ev.pkL x2 (32 : Nat))) : Rows) fun y1 =>
  sh (List.replicate (32 : Nat) [Go.Ev.DL.int Go.IntKind.u8 (0 : Int)] : Rows) fun y2 =>
  bif Decidable.decide (List.length y1 = (32 : Nat)) then
    (f71 (Go.Ev.colI y1 (32 : Nat))).bind fun (r3 : Rows) =>
    bif Go.Ev.roomE Go.Proofs.Try.prog (5 : Nat) (List.length r3 + List.length x3) then
      sh (r3 ++ x3 : Rows) fun y4 =>
      (f50 (x1, y4)).bind fun (r5 : List Int) =>
      bif Decidable.decide (List.length y2 = (32 : Nat)) then
        sh (Go.Ev.colD (Go.Ev.mapD Go.IntKind.u8 (Go.Ev.pkL r5 (32 : Nat))) : Rows) fun y6 =>
        bif Decidable.decide (List.length y6 = (32 : Nat)) then
          k (Go.Ev.colI y6 (32 : Nat))
        else none
      else none
    else none
  else none
theorem t63_eq {R : Type} (sh : Sh) (hsh : ∀ {α R : Type} (x : α) (K : α → Option R), sh x K = K x) (f71 : i71 → Option o71) (f50 : i50 → Option o50) (x1 : Int) (x2 : List Int) (x3 : Rows) (K : CSt → Option R) : bodyK Try.prog (tabO sh hsh br63 ar63 [ent71 f71, ent50 f50]) (tabL []) ann63 false Try.f63 (enc63 (x1, x2, x3)) K = t63 sh f71 f50 x1 x2 x3 (retK63 K) := by kernel_rfl
theorem t63_law {R : Type} (f71 : i71 → Option o71) (f50 : i50 → Option o50) (x1 : Int) (x2 : List Int) (x3 : Rows) (K : o63 → Option R) : t63 sh0 f71 f50 x1 x2 x3 K = (t63 sh0 f71 f50 x1 x2 x3 some).bind K := by
  simp only [t63, sh0, cond_bind', two_bind, none_bind', Option.bind_assoc, Option.bind_some]
theorem ok63 (f71 : i71 → Option o71) (f50 : i50 → Option o50) (hf71 : Sd71 f71) (hf50 : Sd50 f50) : Sd63 (fun a => t63 sh0 f71 f50 a.1 a.2.1 a.2.2 some) := by
  intro a b h
  refine call_ok (sh := sh0) (hsh := fun _ _ => rfl) (br := br63) (ar := ar63) (own := false) Try.mixed Try.func63 (by kernel_rfl) (.cons (mkEnt_ok hf71) (.cons (mkEnt_ok hf50) .nil)) (fun nt => .nil) ((t63_eq sh0 (fun _ _ => rfl) f71 f50 a.1 a.2.1 a.2.2 _).trans ?_)
  rw [t63_law]
  simp only at h
  rw [h, Option.bind_some, retK63_eq]

/-! 66 erasure/erasureref25.Pair -/
abbrev i66 : Type := Int × List Int × List Int
def enc66 : i66 → CSt := fun a => ([Go.Ev.SV.one (Go.Ev.SL.d (Go.Ev.DL.int Go.IntKind.u64 a.1)), Go.Ev.SV.agg (Go.Ev.pkS Go.IntKind.u8 a.2.1 (32 : Nat)), Go.Ev.SV.agg (Go.Ev.pkS Go.IntKind.u8 a.2.2 (32 : Nat))], [])
def dec66 : (c : CSt) → Option { a : i66 // c = enc66 a }
  | ([Go.Ev.SV.one (Go.Ev.SL.d (Go.Ev.DL.int Go.IntKind.u64 x1)), Go.Ev.SV.agg [Go.Ev.SL.d (Go.Ev.DL.int Go.IntKind.u8 x2_0), Go.Ev.SL.d (Go.Ev.DL.int Go.IntKind.u8 x2_1), Go.Ev.SL.d (Go.Ev.DL.int Go.IntKind.u8 x2_2), Go.Ev.SL.d (Go.Ev.DL.int Go.IntKind.u8 x2_3), Go.Ev.SL.d (Go.Ev.DL.int Go.IntKind.u8 x2_4), Go.Ev.SL.d (Go.Ev.DL.int Go.IntKind.u8 x2_5), Go.Ev.SL.d (Go.Ev.DL.int Go.IntKind.u8 x2_6), Go.Ev.SL.d (Go.Ev.DL.int Go.IntKind.u8 x2_7), Go.Ev.SL.d (Go.Ev.DL.int Go.IntKind.u8 x2_8), Go.Ev.SL.d (Go.Ev.DL.int Go.IntKind.u8 x2_9), Go.Ev.SL.d (Go.Ev.DL.int Go.IntKind.u8 x2_10), Go.Ev.SL.d (Go.Ev.DL.int Go.IntKind.u8 x2_11), Go.Ev.SL.d (Go.Ev.DL.int Go.IntKind.u8 x2_12), Go.Ev.SL.d (Go.Ev.DL.int Go.IntKind.u8 x2_13), Go.Ev.SL.d (Go.Ev.DL.int Go.IntKind.u8 x2_14), Go.Ev.SL.d (Go.Ev.DL.int Go.IntKind.u8 x2_15), Go.Ev.SL.d (Go.Ev.DL.int Go.IntKind.u8 x2_16), Go.Ev.SL.d (Go.Ev.DL.int Go.IntKind.u8 x2_17), Go.Ev.SL.d (Go.Ev.DL.int Go.IntKind.u8 x2_18), Go.Ev.SL.d (Go.Ev.DL.int Go.IntKind.u8 x2_19), Go.Ev.SL.d (Go.Ev.DL.int Go.IntKind.u8 x2_20), Go.Ev.SL.d (Go.Ev.DL.int Go.IntKind.u8 x2_21), Go.Ev.SL.d (Go.Ev.DL.int Go.IntKind.u8 x2_22), Go.Ev.SL.d (Go.Ev.DL.int Go.IntKind.u8 x2_23), Go.Ev.SL.d (Go.Ev.DL.int Go.IntKind.u8 x2_24), Go.Ev.SL.d (Go.Ev.DL.int Go.IntKind.u8 x2_25), Go.Ev.SL.d (Go.Ev.DL.int Go.IntKind.u8 x2_26), Go.Ev.SL.d (Go.Ev.DL.int Go.IntKind.u8 x2_27), Go.Ev.SL.d (Go.Ev.DL.int Go.IntKind.u8 x2_28), Go.Ev.SL.d (Go.Ev.DL.int Go.IntKind.u8 x2_29), Go.Ev.SL.d (Go.Ev.DL.int Go.IntKind.u8 x2_30), Go.Ev.SL.d (Go.Ev.DL.int Go.IntKind.u8 x2_31)], Go.Ev.SV.agg [Go.Ev.SL.d (Go.Ev.DL.int Go.IntKind.u8 x3_0), Go.Ev.SL.d (Go.Ev.DL.int Go.IntKind.u8 x3_1), Go.Ev.SL.d (Go.Ev.DL.int Go.IntKind.u8 x3_2), Go.Ev.SL.d (Go.Ev.DL.int Go.IntKind.u8 x3_3), Go.Ev.SL.d (Go.Ev.DL.int Go.IntKind.u8 x3_4), Go.Ev.SL.d (Go.Ev.DL.int Go.IntKind.u8 x3_5), Go.Ev.SL.d (Go.Ev.DL.int Go.IntKind.u8 x3_6), Go.Ev.SL.d (Go.Ev.DL.int Go.IntKind.u8 x3_7), Go.Ev.SL.d (Go.Ev.DL.int Go.IntKind.u8 x3_8), Go.Ev.SL.d (Go.Ev.DL.int Go.IntKind.u8 x3_9), Go.Ev.SL.d (Go.Ev.DL.int Go.IntKind.u8 x3_10), Go.Ev.SL.d (Go.Ev.DL.int Go.IntKind.u8 x3_11), Go.Ev.SL.d (Go.Ev.DL.int Go.IntKind.u8 x3_12), Go.Ev.SL.d (Go.Ev.DL.int Go.IntKind.u8 x3_13), Go.Ev.SL.d (Go.Ev.DL.int Go.IntKind.u8 x3_14), Go.Ev.SL.d (Go.Ev.DL.int Go.IntKind.u8 x3_15), Go.Ev.SL.d (Go.Ev.DL.int Go.IntKind.u8 x3_16), Go.Ev.SL.d (Go.Ev.DL.int Go.IntKind.u8 x3_17), Go.Ev.SL.d (Go.Ev.DL.int Go.IntKind.u8 x3_18), Go.Ev.SL.d (Go.Ev.DL.int Go.IntKind.u8 x3_19), Go.Ev.SL.d (Go.Ev.DL.int Go.IntKind.u8 x3_20), Go.Ev.SL.d (Go.Ev.DL.int Go.IntKind.u8 x3_21), Go.Ev.SL.d (Go.Ev.DL.int Go.IntKind.u8 x3_22), Go.Ev.SL.d (Go.Ev.DL.int Go.IntKind.u8 x3_23), Go.Ev.SL.d (Go.Ev.DL.int Go.IntKind.u8 x3_24), Go.Ev.SL.d (Go.Ev.DL.int Go.IntKind.u8 x3_25), Go.Ev.SL.d (Go.Ev.DL.int Go.IntKind.u8 x3_26), Go.Ev.SL.d (Go.Ev.DL.int Go.IntKind.u8 x3_27), Go.Ev.SL.d (Go.Ev.DL.int Go.IntKind.u8 x3_28), Go.Ev.SL.d (Go.Ev.DL.int Go.IntKind.u8 x3_29), Go.Ev.SL.d (Go.Ev.DL.int Go.IntKind.u8 x3_30), Go.Ev.SL.d (Go.Ev.DL.int Go.IntKind.u8 x3_31)]], []) => some ⟨(x1, [x2_0, x2_1, x2_2, x2_3, x2_4, x2_5, x2_6, x2_7, x2_8, x2_9, x2_10, x2_11, x2_12, x2_13, x2_14, x2_15, x2_16, x2_17, x2_18, x2_19, x2_20, x2_21, x2_22, x2_23, x2_24, x2_25, x2_26, x2_27, x2_28, x2_29, x2_30, x2_31], [x3_0, x3_1, x3_2, x3_3, x3_4, x3_5, x3_6, x3_7, x3_8, x3_9, x3_10, x3_11, x3_12, x3_13, x3_14, x3_15, x3_16, x3_17, x3_18, x3_19, x3_20, x3_21, x3_22, x3_23, x3_24, x3_25, x3_26, x3_27, x3_28, x3_29, x3_30, x3_31]), rfl⟩
  | _ => none
abbrev o66 : Type := List Int
def ret66 : o66 → CSt := fun b => ([Go.Ev.SV.agg (Go.Ev.pkS Go.IntKind.u8 b (32 : Nat))], [])
def retK66 {R : Type} (K : CSt → Option R) : o66 → Option R := fun b => K (([Go.Ev.SV.agg (Go.Ev.pkS Go.IntKind.u8 b (32 : Nat))], []))
theorem retK66_eq {R : Type} (K : CSt → Option R) (b : o66) : retK66 K b = K (ret66 b) := rfl
abbrev Sd66 (f : i66 → Option o66) : Prop := ∀ a b, f a = some b → CallOk Try.prog 66 (enc66 a) (ret66 b)
def ent66 (f : i66 → Option o66) : Ent := mkEnt 66 dec66 ret66 retK66 retK66_eq f
def ann66 : Nat → List Nat × List Nat := fun id => ([], [])
def br66 : FuncId → Bool := fun (g : Nat) => ([67, 72] : List Nat).any (Nat.beq g)
def ar66 : TypeId → Bool := fun (t : Nat) => ([24, 25, 79, 82] : List Nat).any (Nat.beq t)
noncomputable def t66 {R : Type} (sh : Sh) (f71 : i71 → Option o71) (f50 : i50 → Option o50) (x1 : Int) (x2 : List Int) (x3 : List Int) (k : o66 → Option R) : Option R :=
  sh (Go.Ev.colD (Go.Ev.mapD Go.IntKind.u8 (Go.Ev.pkL x2 (32 : Nat))) : Rows) fun y1 =>
  sh (Go.Ev.colD (Go.Ev.mapD Go.IntKind.u8 (Go.Ev.pkL x3 (32 : Nat))) : Rows) fun y2 =>
  sh (List.replicate (32 : Nat) [Go.Ev.DL.int Go.IntKind.u8 (0 : Int)] : Rows) fun y3 =>
  bif Decidable.decide (List.length y1 = (32 : Nat)) then
    (f71 (Go.Ev.colI y1 (32 : Nat))).bind fun (r4 : Rows) =>
    bif Decidable.decide (List.length y2 = (32 : Nat)) then
      (f71 (Go.Ev.colI y2 (32 : Nat))).bind fun (r5 : Rows) =>
      bif Go.Ev.roomE Go.Proofs.Try.prog (5 : Nat) (List.length r4 + List.length r5) then
        sh (r4 ++ r5 : Rows) fun y6 =>
        (f50 (x1, y6)).bind fun (r7 : List Int) =>
        bif Decidable.decide (List.length y3 = (32 : Nat)) then
          sh (Go.Ev.colD (Go.Ev.mapD Go.IntKind.u8 (Go.Ev.pkL r7 (32 : Nat))) : Rows) fun y8 =>
          bif Decidable.decide (List.length y8 = (32 : Nat)) then
            k (Go.Ev.colI y8 (32 : Nat))
          else none
        else none
      else none
    else none
  else none
theorem t66_eq {R : Type} (sh : Sh) (hsh : ∀ {α R : Type} (x : α) (K : α → Option R), sh x K = K x) (f71 : i71 → Option o71) (f50 : i50 → Option o50) (x1 : Int) (x2 : List Int) (x3 : List Int) (K : CSt → Option R) : bodyK Try.prog (tabO sh hsh br66 ar66 [ent71 f71, ent50 f50]) (tabL []) ann66 false Try.f66 (enc66 (x1, x2, x3)) K = t66 sh f71 f50 x1 x2 x3 (retK66 K) := by kernel_rfl
theorem t66_law {R : Type} (f71 : i71 → Option o71) (f50 : i50 → Option o50) (x1 : Int) (x2 : List Int) (x3 : List Int) (K : o66 → Option R) : t66 sh0 f71 f50 x1 x2 x3 K = (t66 sh0 f71 f50 x1 x2 x3 some).bind K := by
  simp only [t66, sh0, cond_bind', two_bind, none_bind', Option.bind_assoc, Option.bind_some]
theorem ok66 (f71 : i71 → Option o71) (f50 : i50 → Option o50) (hf71 : Sd71 f71) (hf50 : Sd50 f50) : Sd66 (fun a => t66 sh0 f71 f50 a.1 a.2.1 a.2.2 some) := by
  intro a b h
  refine call_ok (sh := sh0) (hsh := fun _ _ => rfl) (br := br66) (ar := ar66) (own := false) Try.mixed Try.func66 (by kernel_rfl) (.cons (mkEnt_ok hf71) (.cons (mkEnt_ok hf50) .nil)) (fun nt => .nil) ((t66_eq sh0 (fun _ _ => rfl) f71 f50 a.1 a.2.1 a.2.2 _).trans ?_)
  rw [t66_law]
  simp only at h
  rw [h, Option.bind_some, retK66_eq]

/-! 64 erasure/erasureref26.Int -/
abbrev i64 : Type := Int
def enc64 : i64 → CSt := fun a => ([Go.Ev.SV.one (Go.Ev.SL.d (Go.Ev.DL.int Go.IntKind.i64 a))], [])
def dec64 : (c : CSt) → Option { a : i64 // c = enc64 a }
  | ([Go.Ev.SV.one (Go.Ev.SL.d (Go.Ev.DL.int Go.IntKind.i64 x1))], []) => some ⟨x1, rfl⟩
  | _ => none
abbrev o64 : Type := Rows
def ret64 : o64 → CSt := fun b => ([Go.Ev.SV.one (Go.Ev.SL.vr (0 : Nat))], [Go.Ev.Obj.vec (5 : Nat) Bool.false b])
def retK64 {R : Type} (K : CSt → Option R) : o64 → Option R := fun b => K (([Go.Ev.SV.one (Go.Ev.SL.vr (0 : Nat))], [Go.Ev.Obj.vec (5 : Nat) Bool.false b]))
theorem retK64_eq {R : Type} (K : CSt → Option R) (b : o64) : retK64 K b = K (ret64 b) := rfl
abbrev Sd64 (f : i64 → Option o64) : Prop := ∀ a b, f a = some b → CallOk Try.prog 64 (enc64 a) (ret64 b)
def ent64 (f : i64 → Option o64) : Ent := mkEnt 64 dec64 ret64 retK64 retK64_eq f
def ann64 : Nat → List Nat × List Nat := fun id => bif Nat.beq id 5 then ([3, 4], [3, 4]) else ([], [])
def br64 : FuncId → Bool := fun (g : Nat) => ([67, 72] : List Nat).any (Nat.beq g)
def ar64 : TypeId → Bool := fun (t : Nat) => ([24, 25, 79, 82] : List Nat).any (Nat.beq t)
abbrev iL64_5 : Type := Int × Rows
def encL64_5 : iL64_5 → CSt := fun a => ([Go.Ev.SV.one (Go.Ev.SL.d (Go.Ev.DL.int Go.IntKind.u64 a.1)), Go.Ev.SV.one (Go.Ev.SL.vr (0 : Nat))], [Go.Ev.Obj.vec (5 : Nat) Bool.false a.2])
def decL64_5 : (c : CSt) → Option { a : iL64_5 // c = encL64_5 a }
  | ([Go.Ev.SV.one (Go.Ev.SL.d (Go.Ev.DL.int Go.IntKind.u64 x1)), Go.Ev.SV.one (Go.Ev.SL.vr (0 : Nat))], [Go.Ev.Obj.vec (5 : Nat) Bool.false x2]) => some ⟨(x1, x2), rfl⟩
  | _ => none
abbrev oL64_5 : Type := Int × Rows
def retL64_5 : oL64_5 → Ex × CSt := fun b => (Go.Ev.Ex.exit (0 : Nat), ([Go.Ev.SV.one (Go.Ev.SL.d (Go.Ev.DL.int Go.IntKind.u64 b.1)), Go.Ev.SV.one (Go.Ev.SL.vr (0 : Nat))], [Go.Ev.Obj.vec (5 : Nat) Bool.false b.2]))
def retKL64_5 {R : Type} (K : Ex → CSt → Option R) : oL64_5 → Option R := fun b => K (Go.Ev.Ex.exit (0 : Nat)) (([Go.Ev.SV.one (Go.Ev.SL.d (Go.Ev.DL.int Go.IntKind.u64 b.1)), Go.Ev.SV.one (Go.Ev.SL.vr (0 : Nat))], [Go.Ev.Obj.vec (5 : Nat) Bool.false b.2]))
theorem retKL64_5_eq {R : Type} (K : Ex → CSt → Option R) (b : oL64_5) : retKL64_5 K b = K (retL64_5 b).1 (retL64_5 b).2 := rfl
def entL64_5 (l : iL64_5 → Option oL64_5) : LEnt := mkLEnt 5 decL64_5 retL64_5 retKL64_5 retKL64_5_eq l
abbrev SdL64_5 (l : iL64_5 → Option oL64_5) : Prop := ∀ nt a b, l a = some b → LoopAt Try.prog nt 0 ann64 Try.f64 5 (encL64_5 a) (retL64_5 b)
noncomputable def u64_5 {R : Type} (sh : Sh) (l64_5 : iL64_5 → Option oL64_5) (x1 : Int) (x2 : Rows) (k : oL64_5 → Option R) : Option R :=
  bif Decidable.decide (x1 ≥ (128 : Int)) then
    sh ([[Go.Ev.DL.int Go.IntKind.u8 (Go.IntKind.wrap Go.IntKind.u8 (Go.IntKind.wrap Go.IntKind.u8 (Int.tmod x1 (128 : Int)) + (128 : Int)))]] : Rows) fun y4 =>
    bif Go.Ev.roomE Go.Proofs.Try.prog (5 : Nat) (List.length x2 + List.length y4) then
      sh (x2 ++ y4 : Rows) fun y5 =>
      (l64_5 (Go.IntKind.wrap Go.IntKind.u64 (Int.tdiv x1 (128 : Int)), y5)).bind k
    else none
  else
    k ((x1, x2))
theorem u64_5_eq {R : Type} (sh : Sh) (hsh : ∀ {α R : Type} (x : α) (K : α → Option R), sh x K = K x) (l64_5 : iL64_5 → Option oL64_5) (x1 : Int) (x2 : Rows) (K : Ex → CSt → Option R) : roundK Try.prog (tabO sh hsh br64 ar64 []) (tabL [entL64_5 l64_5]) ann64 0 Try.f64 5 (encL64_5 (x1, x2)) K = u64_5 sh l64_5 x1 x2 (retKL64_5 K) := by kernel_rfl
theorem u64_5_law {R : Type} (l64_5 : iL64_5 → Option oL64_5) (x1 : Int) (x2 : Rows) (K : oL64_5 → Option R) : u64_5 sh0 l64_5 x1 x2 K = (u64_5 sh0 l64_5 x1 x2 some).bind K := by
  simp only [u64_5, sh0, cond_bind', two_bind, none_bind', Option.bind_assoc, Option.bind_some]
theorem okL64_5 (l64_5 : iL64_5 → Option oL64_5) (hl64_5 : SdL64_5 l64_5) : SdL64_5 (fun a => u64_5 sh0 l64_5 a.1 a.2 some) := by
  intro nt a b h
  refine round_ok (sh := sh0) (hsh := fun _ _ => rfl) (br := br64) (ar := ar64) Try.mixed (by kernel_rfl) .nil (.cons (mkLEnt_ok (hl64_5 nt)) .nil) ((u64_5_eq sh0 (fun _ _ => rfl) l64_5  a.1 a.2 _).trans ?_)
  rw [u64_5_law]
  simp only at h
  rw [h, Option.bind_some, retKL64_5_eq]
noncomputable def t64 {R : Type} (sh : Sh) (l64_5 : iL64_5 → Option oL64_5) (x1 : Int) (k : o64 → Option R) : Option R :=
  sh ([] : Rows) fun y1 =>
  bif Decidable.decide (x1 < (0 : Int)) then
    sh (Go.IntKind.wrap Go.IntKind.u64 (↑(BitVec.toNat (BitVec.ofInt (64 : Nat) (18446744073709551615 : Int) ^^^ BitVec.ofInt (64 : Nat) (Go.IntKind.wrap Go.IntKind.u64 (Go.IntKind.wrap Go.IntKind.u64 x1 * (2 : Int))))) : Int)) fun y2 =>
    sh ([] : Rows) fun y3 =>
    (l64_5 (y2, y3)).bind fun (r6 : Int × Rows) =>
    sh ([[Go.Ev.DL.int Go.IntKind.u8 (Go.IntKind.wrap Go.IntKind.u8 (Prod.fst r6))]] : Rows) fun y7 =>
    bif Go.Ev.roomE Go.Proofs.Try.prog (5 : Nat) (List.length (Prod.snd r6) + List.length y7) then
      sh (Prod.snd r6 ++ y7 : Rows) fun y8 =>
      k (y8)
    else none
  else
    sh ([] : Rows) fun y9 =>
    (l64_5 (Go.IntKind.wrap Go.IntKind.u64 (Go.IntKind.wrap Go.IntKind.u64 x1 * (2 : Int)), y9)).bind fun (r10 : Int × Rows) =>
    sh ([[Go.Ev.DL.int Go.IntKind.u8 (Go.IntKind.wrap Go.IntKind.u8 (Prod.fst r10))]] : Rows) fun y11 =>
    bif Go.Ev.roomE Go.Proofs.Try.prog (5 : Nat) (List.length (Prod.snd r10) + List.length y11) then
      sh (Prod.snd r10 ++ y11 : Rows) fun y12 =>
      k (y12)
    else none
theorem t64_eq {R : Type} (sh : Sh) (hsh : ∀ {α R : Type} (x : α) (K : α → Option R), sh x K = K x) (l64_5 : iL64_5 → Option oL64_5) (x1 : Int) (K : CSt → Option R) : bodyK Try.prog (tabO sh hsh br64 ar64 []) (tabL [entL64_5 l64_5]) ann64 true Try.f64 (enc64 x1) K = t64 sh l64_5 x1 (retK64 K) := by kernel_rfl
theorem t64_law {R : Type} (l64_5 : iL64_5 → Option oL64_5) (x1 : Int) (K : o64 → Option R) : t64 sh0 l64_5 x1 K = (t64 sh0 l64_5 x1 some).bind K := by
  simp only [t64, sh0, cond_bind', two_bind, none_bind', Option.bind_assoc, Option.bind_some]
theorem ok64 (l64_5 : iL64_5 → Option oL64_5) (hl64_5 : SdL64_5 l64_5) : Sd64 (fun a => t64 sh0 l64_5 a some) := by
  intro a b h
  refine call_ok (sh := sh0) (hsh := fun _ _ => rfl) (br := br64) (ar := ar64) (own := true) Try.mixed Try.func64 (by kernel_rfl) .nil (fun nt => (.cons (mkLEnt_ok (hl64_5 nt)) .nil)) ((t64_eq sh0 (fun _ _ => rfl) l64_5 a _).trans ?_)
  rw [t64_law]
  simp only at h
  rw [h, Option.bind_some, retK64_eq]

end Go.Proofs.SmG
