/- A part of the proof: texts joined. -/
import Derived.Test.YthmlnkinoaabnaaE3
import Derived.Test.YthmlnkinoaabnaaChecked
import Derived.Eval
import Derived.KernelRfl
set_option linter.unusedVariables false
set_option linter.unusedSimpArgs false
namespace Go.Proofs.DgG
open Go Go.Ev
abbrev Rows := List (List DL)
theorem Try.mixed : Try.prog.follows .mixedOrders = true := Try.checked.mixed
/-! 28 erasure/digest.rotate -/
abbrev i28 : Type := Int × Int
def enc28 : i28 → CSt := fun a => ([Go.Ev.SV.one (Go.Ev.SL.d (Go.Ev.DL.int Go.IntKind.u64 a.1)), Go.Ev.SV.one (Go.Ev.SL.d (Go.Ev.DL.int Go.IntKind.u64 a.2))], [])
def dec28 : (c : CSt) → Option { a : i28 // c = enc28 a }
  | ([Go.Ev.SV.one (Go.Ev.SL.d (Go.Ev.DL.int Go.IntKind.u64 x1)), Go.Ev.SV.one (Go.Ev.SL.d (Go.Ev.DL.int Go.IntKind.u64 x2))], []) => some ⟨(x1, x2), rfl⟩
  | _ => none
abbrev o28 : Type := Int
def ret28 : o28 → CSt := fun b => ([Go.Ev.SV.one (Go.Ev.SL.d (Go.Ev.DL.int Go.IntKind.u64 b))], [])
def retK28 {R : Type} (K : CSt → Option R) : o28 → Option R := fun b => K (([Go.Ev.SV.one (Go.Ev.SL.d (Go.Ev.DL.int Go.IntKind.u64 b))], []))
theorem retK28_eq {R : Type} (K : CSt → Option R) (b : o28) : retK28 K b = K (ret28 b) := rfl
abbrev Sd28 (f : i28 → Option o28) : Prop := ∀ a b, f a = some b → CallOk Try.prog 28 (enc28 a) (ret28 b)
def ent28 (f : i28 → Option o28) : Ent := mkEnt 28 dec28 ret28 retK28 retK28_eq f
def ann28 : Nat → List Nat × List Nat := fun id => ([], [])
def br28 : FuncId → Bool := fun (g : Nat) => ([30] : List Nat).any (Nat.beq g)
def ar28 : TypeId → Bool := fun (t : Nat) => ([29, 30, 54, 57] : List Nat).any (Nat.beq t)
noncomputable def t28 {R : Type} (sh : Sh) (x1 : Int) (x2 : Int) (k : o28 → Option R) : Option R :=
  bif Decidable.decide ((0 : Int) ≤ x2) then
    sh (Int.fdiv x1 ((2 : Int) ^ Min.min (Int.toNat x2) (64 : Nat))) fun y1 =>
    bif Decidable.decide ((0 : Int) ≤ Go.IntKind.wrap Go.IntKind.u64 ((64 : Int) - x2)) then
      sh (Go.IntKind.wrap Go.IntKind.u64 (x1 * (2 : Int) ^ Min.min (Int.toNat (Go.IntKind.wrap Go.IntKind.u64 ((64 : Int) - x2))) (64 : Nat))) fun y2 =>
      sh (Go.IntKind.wrap Go.IntKind.u64 (↑(BitVec.toNat (BitVec.ofInt (64 : Nat) y1 ||| BitVec.ofInt (64 : Nat) y2)) : Int)) fun y3 =>
      k (y3)
    else none
  else none
theorem t28_eq {R : Type} (sh : Sh) (hsh : ∀ {α R : Type} (x : α) (K : α → Option R), sh x K = K x) (x1 : Int) (x2 : Int) (K : CSt → Option R) : bodyK Try.prog (tabO sh hsh br28 ar28 []) (tabL []) ann28 false Try.f28 (enc28 (x1, x2)) K = t28 sh x1 x2 (retK28 K) := by kernel_rfl
theorem t28_law {R : Type} (x1 : Int) (x2 : Int) (K : o28 → Option R) : t28 sh0 x1 x2 K = (t28 sh0 x1 x2 some).bind K := by
  simp only [t28, sh0, cond_bind', two_bind, none_bind', Option.bind_assoc, Option.bind_some]
theorem ok28 : Sd28 (fun a => t28 sh0 a.1 a.2 some) := by
  intro a b h
  refine call_ok (sh := sh0) (hsh := fun _ _ => rfl) (br := br28) (ar := ar28) (own := false) Try.mixed Try.func28 (by kernel_rfl) .nil (fun nt => .nil) ((t28_eq sh0 (fun _ _ => rfl) a.1 a.2 _).trans ?_)
  rw [t28_law]
  simp only at h
  rw [h, Option.bind_some, retK28_eq]

/-! 12 erasure/digest.Permute -/
abbrev i12 : Type := Int × Int × Int × Int × Int
def enc12 : i12 → CSt := fun a => ([Go.Ev.SV.agg [Go.Ev.SL.d (Go.Ev.DL.int Go.IntKind.u64 a.1), Go.Ev.SL.d (Go.Ev.DL.int Go.IntKind.u64 a.2.1), Go.Ev.SL.d (Go.Ev.DL.int Go.IntKind.u64 a.2.2.1), Go.Ev.SL.d (Go.Ev.DL.int Go.IntKind.u64 a.2.2.2.1), Go.Ev.SL.d (Go.Ev.DL.int Go.IntKind.u64 a.2.2.2.2)]], [])
def dec12 : (c : CSt) → Option { a : i12 // c = enc12 a }
  | ([Go.Ev.SV.agg [Go.Ev.SL.d (Go.Ev.DL.int Go.IntKind.u64 x1), Go.Ev.SL.d (Go.Ev.DL.int Go.IntKind.u64 x2), Go.Ev.SL.d (Go.Ev.DL.int Go.IntKind.u64 x3), Go.Ev.SL.d (Go.Ev.DL.int Go.IntKind.u64 x4), Go.Ev.SL.d (Go.Ev.DL.int Go.IntKind.u64 x5)]], []) => some ⟨(x1, x2, x3, x4, x5), rfl⟩
  | _ => none
abbrev o12 : Type := Int × Int × Int × Int × Int
def ret12 : o12 → CSt := fun b => ([Go.Ev.SV.agg [Go.Ev.SL.d (Go.Ev.DL.int Go.IntKind.u64 b.1), Go.Ev.SL.d (Go.Ev.DL.int Go.IntKind.u64 b.2.1), Go.Ev.SL.d (Go.Ev.DL.int Go.IntKind.u64 b.2.2.1), Go.Ev.SL.d (Go.Ev.DL.int Go.IntKind.u64 b.2.2.2.1), Go.Ev.SL.d (Go.Ev.DL.int Go.IntKind.u64 b.2.2.2.2)]], [])
def retK12 {R : Type} (K : CSt → Option R) : o12 → Option R := fun b => K (([Go.Ev.SV.agg [Go.Ev.SL.d (Go.Ev.DL.int Go.IntKind.u64 b.1), Go.Ev.SL.d (Go.Ev.DL.int Go.IntKind.u64 b.2.1), Go.Ev.SL.d (Go.Ev.DL.int Go.IntKind.u64 b.2.2.1), Go.Ev.SL.d (Go.Ev.DL.int Go.IntKind.u64 b.2.2.2.1), Go.Ev.SL.d (Go.Ev.DL.int Go.IntKind.u64 b.2.2.2.2)]], []))
theorem retK12_eq {R : Type} (K : CSt → Option R) (b : o12) : retK12 K b = K (ret12 b) := rfl
abbrev Sd12 (f : i12 → Option o12) : Prop := ∀ a b, f a = some b → CallOk Try.prog 12 (enc12 a) (ret12 b)
def ent12 (f : i12 → Option o12) : Ent := mkEnt 12 dec12 ret12 retK12 retK12_eq f
def ann12 : Nat → List Nat × List Nat := fun id => bif Nat.beq id 2 then ([1, 2, 3], [1, 2]) else bif Nat.beq id 10 then ([1, 2, 3, 4, 5], [1, 2, 3, 4]) else bif Nat.beq id 14 then ([1, 2, 3, 4, 6], [1, 2, 3]) else bif Nat.beq id 1000010 then ([0, 0, 0, 0, 0, 0], []) else bif Nat.beq id 1000014 then ([0, 0, 0, 0, 0, 0], []) else ([], [])
def br12 : FuncId → Bool := fun (g : Nat) => ([30] : List Nat).any (Nat.beq g)
def ar12 : TypeId → Bool := fun (t : Nat) => ([29, 30, 54, 57] : List Nat).any (Nat.beq t)
abbrev iL12_2 : Type := Int × Int × Int × Int × Int × Int × Int × Int × Int × Int × Int
def encL12_2 : iL12_2 → CSt := fun a => ([Go.Ev.SV.one (Go.Ev.SL.ptr (0 : Nat) (0 : Nat)), Go.Ev.SV.one (Go.Ev.SL.ptr (1 : Nat) (0 : Nat)), Go.Ev.SV.one (Go.Ev.SL.d (Go.Ev.DL.int Go.IntKind.u64 a.1))], [Go.Ev.Obj.box (23 : Nat) [Go.Ev.SL.d (Go.Ev.DL.int Go.IntKind.u64 a.2.1), Go.Ev.SL.d (Go.Ev.DL.int Go.IntKind.u64 a.2.2.1), Go.Ev.SL.d (Go.Ev.DL.int Go.IntKind.u64 a.2.2.2.1), Go.Ev.SL.d (Go.Ev.DL.int Go.IntKind.u64 a.2.2.2.2.1), Go.Ev.SL.d (Go.Ev.DL.int Go.IntKind.u64 a.2.2.2.2.2.1)], Go.Ev.Obj.box (23 : Nat) [Go.Ev.SL.d (Go.Ev.DL.int Go.IntKind.u64 a.2.2.2.2.2.2.1), Go.Ev.SL.d (Go.Ev.DL.int Go.IntKind.u64 a.2.2.2.2.2.2.2.1), Go.Ev.SL.d (Go.Ev.DL.int Go.IntKind.u64 a.2.2.2.2.2.2.2.2.1), Go.Ev.SL.d (Go.Ev.DL.int Go.IntKind.u64 a.2.2.2.2.2.2.2.2.2.1), Go.Ev.SL.d (Go.Ev.DL.int Go.IntKind.u64 a.2.2.2.2.2.2.2.2.2.2)]])
def decL12_2 : (c : CSt) → Option { a : iL12_2 // c = encL12_2 a }
  | ([Go.Ev.SV.one (Go.Ev.SL.ptr (0 : Nat) (0 : Nat)), Go.Ev.SV.one (Go.Ev.SL.ptr (1 : Nat) (0 : Nat)), Go.Ev.SV.one (Go.Ev.SL.d (Go.Ev.DL.int Go.IntKind.u64 x1))], [Go.Ev.Obj.box (23 : Nat) [Go.Ev.SL.d (Go.Ev.DL.int Go.IntKind.u64 x2), Go.Ev.SL.d (Go.Ev.DL.int Go.IntKind.u64 x3), Go.Ev.SL.d (Go.Ev.DL.int Go.IntKind.u64 x4), Go.Ev.SL.d (Go.Ev.DL.int Go.IntKind.u64 x5), Go.Ev.SL.d (Go.Ev.DL.int Go.IntKind.u64 x6)], Go.Ev.Obj.box (23 : Nat) [Go.Ev.SL.d (Go.Ev.DL.int Go.IntKind.u64 x7), Go.Ev.SL.d (Go.Ev.DL.int Go.IntKind.u64 x8), Go.Ev.SL.d (Go.Ev.DL.int Go.IntKind.u64 x9), Go.Ev.SL.d (Go.Ev.DL.int Go.IntKind.u64 x10), Go.Ev.SL.d (Go.Ev.DL.int Go.IntKind.u64 x11)]]) => some ⟨(x1, x2, x3, x4, x5, x6, x7, x8, x9, x10, x11), rfl⟩
  | _ => none
abbrev oL12_2 : Type := Int × Int × Int × Int × Int × Int × Int × Int × Int × Int
def retL12_2 : oL12_2 → Ex × CSt := fun b => (Go.Ev.Ex.exit (0 : Nat), ([Go.Ev.SV.one (Go.Ev.SL.ptr (0 : Nat) (0 : Nat)), Go.Ev.SV.one (Go.Ev.SL.ptr (1 : Nat) (0 : Nat))], [Go.Ev.Obj.box (23 : Nat) [Go.Ev.SL.d (Go.Ev.DL.int Go.IntKind.u64 b.1), Go.Ev.SL.d (Go.Ev.DL.int Go.IntKind.u64 b.2.1), Go.Ev.SL.d (Go.Ev.DL.int Go.IntKind.u64 b.2.2.1), Go.Ev.SL.d (Go.Ev.DL.int Go.IntKind.u64 b.2.2.2.1), Go.Ev.SL.d (Go.Ev.DL.int Go.IntKind.u64 b.2.2.2.2.1)], Go.Ev.Obj.box (23 : Nat) [Go.Ev.SL.d (Go.Ev.DL.int Go.IntKind.u64 b.2.2.2.2.2.1), Go.Ev.SL.d (Go.Ev.DL.int Go.IntKind.u64 b.2.2.2.2.2.2.1), Go.Ev.SL.d (Go.Ev.DL.int Go.IntKind.u64 b.2.2.2.2.2.2.2.1), Go.Ev.SL.d (Go.Ev.DL.int Go.IntKind.u64 b.2.2.2.2.2.2.2.2.1), Go.Ev.SL.d (Go.Ev.DL.int Go.IntKind.u64 b.2.2.2.2.2.2.2.2.2)]]))
def retKL12_2 {R : Type} (K : Ex → CSt → Option R) : oL12_2 → Option R := fun b => K (Go.Ev.Ex.exit (0 : Nat)) (([Go.Ev.SV.one (Go.Ev.SL.ptr (0 : Nat) (0 : Nat)), Go.Ev.SV.one (Go.Ev.SL.ptr (1 : Nat) (0 : Nat))], [Go.Ev.Obj.box (23 : Nat) [Go.Ev.SL.d (Go.Ev.DL.int Go.IntKind.u64 b.1), Go.Ev.SL.d (Go.Ev.DL.int Go.IntKind.u64 b.2.1), Go.Ev.SL.d (Go.Ev.DL.int Go.IntKind.u64 b.2.2.1), Go.Ev.SL.d (Go.Ev.DL.int Go.IntKind.u64 b.2.2.2.1), Go.Ev.SL.d (Go.Ev.DL.int Go.IntKind.u64 b.2.2.2.2.1)], Go.Ev.Obj.box (23 : Nat) [Go.Ev.SL.d (Go.Ev.DL.int Go.IntKind.u64 b.2.2.2.2.2.1), Go.Ev.SL.d (Go.Ev.DL.int Go.IntKind.u64 b.2.2.2.2.2.2.1), Go.Ev.SL.d (Go.Ev.DL.int Go.IntKind.u64 b.2.2.2.2.2.2.2.1), Go.Ev.SL.d (Go.Ev.DL.int Go.IntKind.u64 b.2.2.2.2.2.2.2.2.1), Go.Ev.SL.d (Go.Ev.DL.int Go.IntKind.u64 b.2.2.2.2.2.2.2.2.2)]]))
theorem retKL12_2_eq {R : Type} (K : Ex → CSt → Option R) (b : oL12_2) : retKL12_2 K b = K (retL12_2 b).1 (retL12_2 b).2 := rfl
def entL12_2 (l : iL12_2 → Option oL12_2) : LEnt := mkLEnt 2 decL12_2 retL12_2 retKL12_2 retKL12_2_eq l
abbrev SdL12_2 (l : iL12_2 → Option oL12_2) : Prop := ∀ nt a b, l a = some b → LoopAt Try.prog nt 0 ann12 Try.f12 2 (encL12_2 a) (retL12_2 b)
noncomputable def u12_2 {R : Type} (sh : Sh) (f28 : i28 → Option o28) (l12_2 : iL12_2 → Option oL12_2) (x1 : Int) (x2 : Int) (x3 : Int) (x4 : Int) (x5 : Int) (x6 : Int) (x7 : Int) (x8 : Int) (x9 : Int) (x10 : Int) (x11 : Int) (k : oL12_2 → Option R) : Option R :=
  bif Decidable.decide (x1 < (12 : Int)) then
    sh (Go.IntKind.wrap Go.IntKind.u64 (↑(BitVec.toNat (BitVec.ofInt (64 : Nat) x4 ^^^ BitVec.ofInt (64 : Nat) (Go.IntKind.wrap Go.IntKind.u64 ((240 : Int) - Go.IntKind.wrap Go.IntKind.u64 ((15 : Int) * x1))))) : Int)) fun y1 =>
    sh (Go.IntKind.wrap Go.IntKind.u64 (↑(BitVec.toNat (BitVec.ofInt (64 : Nat) x2 ^^^ BitVec.ofInt (64 : Nat) x6)) : Int)) fun y2 =>
    sh (Go.IntKind.wrap Go.IntKind.u64 (↑(BitVec.toNat (BitVec.ofInt (64 : Nat) x6 ^^^ BitVec.ofInt (64 : Nat) x5)) : Int)) fun y3 =>
    sh (Go.IntKind.wrap Go.IntKind.u64 (↑(BitVec.toNat (BitVec.ofInt (64 : Nat) y1 ^^^ BitVec.ofInt (64 : Nat) x3)) : Int)) fun y4 =>
    sh (Go.IntKind.wrap Go.IntKind.u64 (↑(BitVec.toNat (BitVec.ofInt (64 : Nat) (18446744073709551615 : Int) ^^^ BitVec.ofInt (64 : Nat) y2)) : Int)) fun y5 =>
    sh (Go.IntKind.wrap Go.IntKind.u64 (↑(BitVec.toNat (BitVec.ofInt (64 : Nat) y5 &&& BitVec.ofInt (64 : Nat) x3)) : Int)) fun y6 =>
    sh (Go.IntKind.wrap Go.IntKind.u64 (↑(BitVec.toNat (BitVec.ofInt (64 : Nat) (18446744073709551615 : Int) ^^^ BitVec.ofInt (64 : Nat) x3)) : Int)) fun y7 =>
    sh (Go.IntKind.wrap Go.IntKind.u64 (↑(BitVec.toNat (BitVec.ofInt (64 : Nat) y7 &&& BitVec.ofInt (64 : Nat) y4)) : Int)) fun y8 =>
    sh (Go.IntKind.wrap Go.IntKind.u64 (↑(BitVec.toNat (BitVec.ofInt (64 : Nat) (18446744073709551615 : Int) ^^^ BitVec.ofInt (64 : Nat) y4)) : Int)) fun y9 =>
    sh (Go.IntKind.wrap Go.IntKind.u64 (↑(BitVec.toNat (BitVec.ofInt (64 : Nat) y9 &&& BitVec.ofInt (64 : Nat) x5)) : Int)) fun y10 =>
    sh (Go.IntKind.wrap Go.IntKind.u64 (↑(BitVec.toNat (BitVec.ofInt (64 : Nat) (18446744073709551615 : Int) ^^^ BitVec.ofInt (64 : Nat) x5)) : Int)) fun y11 =>
    sh (Go.IntKind.wrap Go.IntKind.u64 (↑(BitVec.toNat (BitVec.ofInt (64 : Nat) y11 &&& BitVec.ofInt (64 : Nat) y3)) : Int)) fun y12 =>
    sh (Go.IntKind.wrap Go.IntKind.u64 (↑(BitVec.toNat (BitVec.ofInt (64 : Nat) (18446744073709551615 : Int) ^^^ BitVec.ofInt (64 : Nat) y3)) : Int)) fun y13 =>
    sh (Go.IntKind.wrap Go.IntKind.u64 (↑(BitVec.toNat (BitVec.ofInt (64 : Nat) y13 &&& BitVec.ofInt (64 : Nat) y2)) : Int)) fun y14 =>
    sh (Go.IntKind.wrap Go.IntKind.u64 (↑(BitVec.toNat (BitVec.ofInt (64 : Nat) y2 ^^^ BitVec.ofInt (64 : Nat) y8)) : Int)) fun y15 =>
    sh (Go.IntKind.wrap Go.IntKind.u64 (↑(BitVec.toNat (BitVec.ofInt (64 : Nat) x3 ^^^ BitVec.ofInt (64 : Nat) y10)) : Int)) fun y16 =>
    sh (Go.IntKind.wrap Go.IntKind.u64 (↑(BitVec.toNat (BitVec.ofInt (64 : Nat) y4 ^^^ BitVec.ofInt (64 : Nat) y12)) : Int)) fun y17 =>
    sh (Go.IntKind.wrap Go.IntKind.u64 (↑(BitVec.toNat (BitVec.ofInt (64 : Nat) x5 ^^^ BitVec.ofInt (64 : Nat) y14)) : Int)) fun y18 =>
    sh (Go.IntKind.wrap Go.IntKind.u64 (↑(BitVec.toNat (BitVec.ofInt (64 : Nat) y3 ^^^ BitVec.ofInt (64 : Nat) y6)) : Int)) fun y19 =>
    sh (Go.IntKind.wrap Go.IntKind.u64 (↑(BitVec.toNat (BitVec.ofInt (64 : Nat) y16 ^^^ BitVec.ofInt (64 : Nat) y15)) : Int)) fun y20 =>
    sh (Go.IntKind.wrap Go.IntKind.u64 (↑(BitVec.toNat (BitVec.ofInt (64 : Nat) y15 ^^^ BitVec.ofInt (64 : Nat) y19)) : Int)) fun y21 =>
    sh (Go.IntKind.wrap Go.IntKind.u64 (↑(BitVec.toNat (BitVec.ofInt (64 : Nat) y18 ^^^ BitVec.ofInt (64 : Nat) y17)) : Int)) fun y22 =>
    sh (Go.IntKind.wrap Go.IntKind.u64 (↑(BitVec.toNat (BitVec.ofInt (64 : Nat) (18446744073709551615 : Int) ^^^ BitVec.ofInt (64 : Nat) y17)) : Int)) fun y23 =>
    (f28 (y21, (19 : Int))).bind fun (r24 : Int) =>
    (f28 (y21, (28 : Int))).bind fun (r25 : Int) =>
    sh (Go.IntKind.wrap Go.IntKind.u64 (↑(BitVec.toNat (BitVec.ofInt (64 : Nat) r24 ^^^ BitVec.ofInt (64 : Nat) r25)) : Int)) fun y26 =>
    sh (Go.IntKind.wrap Go.IntKind.u64 (↑(BitVec.toNat (BitVec.ofInt (64 : Nat) y21 ^^^ BitVec.ofInt (64 : Nat) y26)) : Int)) fun y27 =>
    (f28 (y20, (61 : Int))).bind fun (r28 : Int) =>
    (f28 (y20, (39 : Int))).bind fun (r29 : Int) =>
    sh (Go.IntKind.wrap Go.IntKind.u64 (↑(BitVec.toNat (BitVec.ofInt (64 : Nat) r28 ^^^ BitVec.ofInt (64 : Nat) r29)) : Int)) fun y30 =>
    sh (Go.IntKind.wrap Go.IntKind.u64 (↑(BitVec.toNat (BitVec.ofInt (64 : Nat) y20 ^^^ BitVec.ofInt (64 : Nat) y30)) : Int)) fun y31 =>
    (f28 (y23, (1 : Int))).bind fun (r32 : Int) =>
    (f28 (y23, (6 : Int))).bind fun (r33 : Int) =>
    sh (Go.IntKind.wrap Go.IntKind.u64 (↑(BitVec.toNat (BitVec.ofInt (64 : Nat) r32 ^^^ BitVec.ofInt (64 : Nat) r33)) : Int)) fun y34 =>
    sh (Go.IntKind.wrap Go.IntKind.u64 (↑(BitVec.toNat (BitVec.ofInt (64 : Nat) y23 ^^^ BitVec.ofInt (64 : Nat) y34)) : Int)) fun y35 =>
    (f28 (y22, (10 : Int))).bind fun (r36 : Int) =>
    (f28 (y22, (17 : Int))).bind fun (r37 : Int) =>
    sh (Go.IntKind.wrap Go.IntKind.u64 (↑(BitVec.toNat (BitVec.ofInt (64 : Nat) r36 ^^^ BitVec.ofInt (64 : Nat) r37)) : Int)) fun y38 =>
    sh (Go.IntKind.wrap Go.IntKind.u64 (↑(BitVec.toNat (BitVec.ofInt (64 : Nat) y22 ^^^ BitVec.ofInt (64 : Nat) y38)) : Int)) fun y39 =>
    (f28 (y19, (7 : Int))).bind fun (r40 : Int) =>
    (f28 (y19, (41 : Int))).bind fun (r41 : Int) =>
    sh (Go.IntKind.wrap Go.IntKind.u64 (↑(BitVec.toNat (BitVec.ofInt (64 : Nat) r40 ^^^ BitVec.ofInt (64 : Nat) r41)) : Int)) fun y42 =>
    sh (Go.IntKind.wrap Go.IntKind.u64 (↑(BitVec.toNat (BitVec.ofInt (64 : Nat) y19 ^^^ BitVec.ofInt (64 : Nat) y42)) : Int)) fun y43 =>
    (l12_2 (Go.IntKind.wrap Go.IntKind.u64 (x1 + (1 : Int)), y27, y31, y35, y39, y43, x7, x8, x9, x10, x11)).bind k
  else
    k ((x2, x3, x4, x5, x6, x7, x8, x9, x10, x11))
theorem u12_2_eq {R : Type} (sh : Sh) (hsh : ∀ {α R : Type} (x : α) (K : α → Option R), sh x K = K x) (f28 : i28 → Option o28) (l12_2 : iL12_2 → Option oL12_2) (x1 : Int) (x2 : Int) (x3 : Int) (x4 : Int) (x5 : Int) (x6 : Int) (x7 : Int) (x8 : Int) (x9 : Int) (x10 : Int) (x11 : Int) (K : Ex → CSt → Option R) : roundK Try.prog (tabO sh hsh br12 ar12 [ent28 f28]) (tabL [entL12_2 l12_2]) ann12 0 Try.f12 2 (encL12_2 (x1, x2, x3, x4, x5, x6, x7, x8, x9, x10, x11)) K = u12_2 sh f28 l12_2 x1 x2 x3 x4 x5 x6 x7 x8 x9 x10 x11 (retKL12_2 K) := by kernel_rfl
theorem u12_2_law {R : Type} (f28 : i28 → Option o28) (l12_2 : iL12_2 → Option oL12_2) (x1 : Int) (x2 : Int) (x3 : Int) (x4 : Int) (x5 : Int) (x6 : Int) (x7 : Int) (x8 : Int) (x9 : Int) (x10 : Int) (x11 : Int) (K : oL12_2 → Option R) : u12_2 sh0 f28 l12_2 x1 x2 x3 x4 x5 x6 x7 x8 x9 x10 x11 K = (u12_2 sh0 f28 l12_2 x1 x2 x3 x4 x5 x6 x7 x8 x9 x10 x11 some).bind K := by
  simp only [u12_2, sh0, cond_bind', two_bind, none_bind', Option.bind_assoc, Option.bind_some]
theorem okL12_2 (f28 : i28 → Option o28) (l12_2 : iL12_2 → Option oL12_2) (hf28 : Sd28 f28) (hl12_2 : SdL12_2 l12_2) : SdL12_2 (fun a => u12_2 sh0 f28 l12_2 a.1 a.2.1 a.2.2.1 a.2.2.2.1 a.2.2.2.2.1 a.2.2.2.2.2.1 a.2.2.2.2.2.2.1 a.2.2.2.2.2.2.2.1 a.2.2.2.2.2.2.2.2.1 a.2.2.2.2.2.2.2.2.2.1 a.2.2.2.2.2.2.2.2.2.2 some) := by
  intro nt a b h
  refine round_ok (sh := sh0) (hsh := fun _ _ => rfl) (br := br12) (ar := ar12) Try.mixed (by kernel_rfl) (.cons (mkEnt_ok hf28) .nil) (.cons (mkLEnt_ok (hl12_2 nt)) .nil) ((u12_2_eq sh0 (fun _ _ => rfl) f28 l12_2  a.1 a.2.1 a.2.2.1 a.2.2.2.1 a.2.2.2.2.1 a.2.2.2.2.2.1 a.2.2.2.2.2.2.1 a.2.2.2.2.2.2.2.1 a.2.2.2.2.2.2.2.2.1 a.2.2.2.2.2.2.2.2.2.1 a.2.2.2.2.2.2.2.2.2.2 _).trans ?_)
  rw [u12_2_law]
  simp only at h
  rw [h, Option.bind_some, retKL12_2_eq]
noncomputable def t12 {R : Type} (sh : Sh) (l12_2 : iL12_2 → Option oL12_2) (x1 : Int) (x2 : Int) (x3 : Int) (x4 : Int) (x5 : Int) (k : o12 → Option R) : Option R :=
  (l12_2 ((0 : Int), x1, x2, x3, x4, x5, (0 : Int), (0 : Int), (0 : Int), (0 : Int), (0 : Int))).bind fun (r44 : Int × Int × Int × Int × Int × Int × Int × Int × Int × Int) =>
  k ((Prod.fst r44, Prod.fst r44.2, Prod.fst (Prod.snd r44).2, Prod.fst (Prod.snd (Prod.snd r44)).2, Prod.fst (Prod.snd (Prod.snd (Prod.snd r44))).2))
theorem t12_eq {R : Type} (sh : Sh) (hsh : ∀ {α R : Type} (x : α) (K : α → Option R), sh x K = K x) (l12_2 : iL12_2 → Option oL12_2) (x1 : Int) (x2 : Int) (x3 : Int) (x4 : Int) (x5 : Int) (K : CSt → Option R) : bodyK Try.prog (tabO sh hsh br12 ar12 []) (tabL [entL12_2 l12_2]) ann12 false Try.f12 (enc12 (x1, x2, x3, x4, x5)) K = t12 sh l12_2 x1 x2 x3 x4 x5 (retK12 K) := by kernel_rfl
theorem t12_law {R : Type} (l12_2 : iL12_2 → Option oL12_2) (x1 : Int) (x2 : Int) (x3 : Int) (x4 : Int) (x5 : Int) (K : o12 → Option R) : t12 sh0 l12_2 x1 x2 x3 x4 x5 K = (t12 sh0 l12_2 x1 x2 x3 x4 x5 some).bind K := by
  simp only [t12, sh0, cond_bind', two_bind, none_bind', Option.bind_assoc, Option.bind_some]
theorem ok12 (l12_2 : iL12_2 → Option oL12_2) (hl12_2 : SdL12_2 l12_2) : Sd12 (fun a => t12 sh0 l12_2 a.1 a.2.1 a.2.2.1 a.2.2.2.1 a.2.2.2.2 some) := by
  intro a b h
  refine call_ok (sh := sh0) (hsh := fun _ _ => rfl) (br := br12) (ar := ar12) (own := false) Try.mixed Try.func12 (by kernel_rfl) .nil (fun nt => (.cons (mkLEnt_ok (hl12_2 nt)) .nil)) ((t12_eq sh0 (fun _ _ => rfl) l12_2 a.1 a.2.1 a.2.2.1 a.2.2.2.1 a.2.2.2.2 _).trans ?_)
  rw [t12_law]
  simp only at h
  rw [h, Option.bind_some, retK12_eq]

/-! 29 erasure/erasureref25.rotate -/
abbrev i29 : Type := Int × Int
def enc29 : i29 → CSt := fun a => ([Go.Ev.SV.one (Go.Ev.SL.d (Go.Ev.DL.int Go.IntKind.u64 a.1)), Go.Ev.SV.one (Go.Ev.SL.d (Go.Ev.DL.int Go.IntKind.i64 a.2))], [])
def dec29 : (c : CSt) → Option { a : i29 // c = enc29 a }
  | ([Go.Ev.SV.one (Go.Ev.SL.d (Go.Ev.DL.int Go.IntKind.u64 x1)), Go.Ev.SV.one (Go.Ev.SL.d (Go.Ev.DL.int Go.IntKind.i64 x2))], []) => some ⟨(x1, x2), rfl⟩
  | _ => none
abbrev o29 : Type := Int
def ret29 : o29 → CSt := fun b => ([Go.Ev.SV.one (Go.Ev.SL.d (Go.Ev.DL.int Go.IntKind.u64 b))], [])
def retK29 {R : Type} (K : CSt → Option R) : o29 → Option R := fun b => K (([Go.Ev.SV.one (Go.Ev.SL.d (Go.Ev.DL.int Go.IntKind.u64 b))], []))
theorem retK29_eq {R : Type} (K : CSt → Option R) (b : o29) : retK29 K b = K (ret29 b) := rfl
abbrev Sd29 (f : i29 → Option o29) : Prop := ∀ a b, f a = some b → CallOk Try.prog 29 (enc29 a) (ret29 b)
def ent29 (f : i29 → Option o29) : Ent := mkEnt 29 dec29 ret29 retK29 retK29_eq f
def ann29 : Nat → List Nat × List Nat := fun id => ([], [])
def br29 : FuncId → Bool := fun (g : Nat) => ([30] : List Nat).any (Nat.beq g)
def ar29 : TypeId → Bool := fun (t : Nat) => ([29, 30, 54, 57] : List Nat).any (Nat.beq t)
noncomputable def t29 {R : Type} (sh : Sh) (x1 : Int) (x2 : Int) (k : o29 → Option R) : Option R :=
  bif Decidable.decide ((0 : Int) ≤ x2) then
    sh (Int.fdiv x1 ((2 : Int) ^ Min.min (Int.toNat x2) (64 : Nat))) fun y1 =>
    bif Decidable.decide ((0 : Int) ≤ Go.IntKind.wrap Go.IntKind.i64 ((64 : Int) - x2)) then
      sh (Go.IntKind.wrap Go.IntKind.u64 (x1 * (2 : Int) ^ Min.min (Int.toNat (Go.IntKind.wrap Go.IntKind.i64 ((64 : Int) - x2))) (64 : Nat))) fun y2 =>
      sh (Go.IntKind.wrap Go.IntKind.u64 (↑(BitVec.toNat (BitVec.ofInt (64 : Nat) y1 ||| BitVec.ofInt (64 : Nat) y2)) : Int)) fun y3 =>
      k (y3)
    else none
  else none
theorem t29_eq {R : Type} (sh : Sh) (hsh : ∀ {α R : Type} (x : α) (K : α → Option R), sh x K = K x) (x1 : Int) (x2 : Int) (K : CSt → Option R) : bodyK Try.prog (tabO sh hsh br29 ar29 []) (tabL []) ann29 false Try.f29 (enc29 (x1, x2)) K = t29 sh x1 x2 (retK29 K) := by kernel_rfl
theorem t29_law {R : Type} (x1 : Int) (x2 : Int) (K : o29 → Option R) : t29 sh0 x1 x2 K = (t29 sh0 x1 x2 some).bind K := by
  simp only [t29, sh0, cond_bind', two_bind, none_bind', Option.bind_assoc, Option.bind_some]
theorem ok29 : Sd29 (fun a => t29 sh0 a.1 a.2 some) := by
  intro a b h
  refine call_ok (sh := sh0) (hsh := fun _ _ => rfl) (br := br29) (ar := ar29) (own := false) Try.mixed Try.func29 (by kernel_rfl) .nil (fun nt => .nil) ((t29_eq sh0 (fun _ _ => rfl) a.1 a.2 _).trans ?_)
  rw [t29_law]
  simp only at h
  rw [h, Option.bind_some, retK29_eq]

/-! 13 erasure/erasureref25.Permute -/
abbrev i13 : Type := Int × Int × Int × Int × Int
def enc13 : i13 → CSt := fun a => ([Go.Ev.SV.agg [Go.Ev.SL.d (Go.Ev.DL.int Go.IntKind.u64 a.1), Go.Ev.SL.d (Go.Ev.DL.int Go.IntKind.u64 a.2.1), Go.Ev.SL.d (Go.Ev.DL.int Go.IntKind.u64 a.2.2.1), Go.Ev.SL.d (Go.Ev.DL.int Go.IntKind.u64 a.2.2.2.1), Go.Ev.SL.d (Go.Ev.DL.int Go.IntKind.u64 a.2.2.2.2)]], [])
def dec13 : (c : CSt) → Option { a : i13 // c = enc13 a }
  | ([Go.Ev.SV.agg [Go.Ev.SL.d (Go.Ev.DL.int Go.IntKind.u64 x1), Go.Ev.SL.d (Go.Ev.DL.int Go.IntKind.u64 x2), Go.Ev.SL.d (Go.Ev.DL.int Go.IntKind.u64 x3), Go.Ev.SL.d (Go.Ev.DL.int Go.IntKind.u64 x4), Go.Ev.SL.d (Go.Ev.DL.int Go.IntKind.u64 x5)]], []) => some ⟨(x1, x2, x3, x4, x5), rfl⟩
  | _ => none
abbrev o13 : Type := Int × Int × Int × Int × Int
def ret13 : o13 → CSt := fun b => ([Go.Ev.SV.agg [Go.Ev.SL.d (Go.Ev.DL.int Go.IntKind.u64 b.1), Go.Ev.SL.d (Go.Ev.DL.int Go.IntKind.u64 b.2.1), Go.Ev.SL.d (Go.Ev.DL.int Go.IntKind.u64 b.2.2.1), Go.Ev.SL.d (Go.Ev.DL.int Go.IntKind.u64 b.2.2.2.1), Go.Ev.SL.d (Go.Ev.DL.int Go.IntKind.u64 b.2.2.2.2)]], [])
def retK13 {R : Type} (K : CSt → Option R) : o13 → Option R := fun b => K (([Go.Ev.SV.agg [Go.Ev.SL.d (Go.Ev.DL.int Go.IntKind.u64 b.1), Go.Ev.SL.d (Go.Ev.DL.int Go.IntKind.u64 b.2.1), Go.Ev.SL.d (Go.Ev.DL.int Go.IntKind.u64 b.2.2.1), Go.Ev.SL.d (Go.Ev.DL.int Go.IntKind.u64 b.2.2.2.1), Go.Ev.SL.d (Go.Ev.DL.int Go.IntKind.u64 b.2.2.2.2)]], []))
theorem retK13_eq {R : Type} (K : CSt → Option R) (b : o13) : retK13 K b = K (ret13 b) := rfl
abbrev Sd13 (f : i13 → Option o13) : Prop := ∀ a b, f a = some b → CallOk Try.prog 13 (enc13 a) (ret13 b)
def ent13 (f : i13 → Option o13) : Ent := mkEnt 13 dec13 ret13 retK13 retK13_eq f
def ann13 : Nat → List Nat × List Nat := fun id => bif Nat.beq id 2 then ([1, 2, 3], [1, 2]) else bif Nat.beq id 10 then ([1, 2, 3, 4, 5], [1, 2, 3, 4]) else bif Nat.beq id 14 then ([1, 2, 3, 4, 6], [1, 2, 3]) else bif Nat.beq id 24 then ([1, 2, 3, 7, 8, 9], [1, 2, 3]) else bif Nat.beq id 1000010 then ([0, 0, 0, 0, 0, 0], []) else bif Nat.beq id 1000014 then ([0, 0, 0, 0, 0, 0], []) else bif Nat.beq id 1000024 then ([0, 0, 0, 0, 0, 0], []) else ([], [])
def br13 : FuncId → Bool := fun (g : Nat) => ([30] : List Nat).any (Nat.beq g)
def ar13 : TypeId → Bool := fun (t : Nat) => ([29, 30, 54, 57] : List Nat).any (Nat.beq t)
abbrev iL13_2 : Type := Int × Int × Int × Int × Int × Int × Int × Int × Int × Int × Int
def encL13_2 : iL13_2 → CSt := fun a => ([Go.Ev.SV.one (Go.Ev.SL.ptr (0 : Nat) (0 : Nat)), Go.Ev.SV.one (Go.Ev.SL.ptr (1 : Nat) (0 : Nat)), Go.Ev.SV.one (Go.Ev.SL.d (Go.Ev.DL.int Go.IntKind.i64 a.1))], [Go.Ev.Obj.box (23 : Nat) [Go.Ev.SL.d (Go.Ev.DL.int Go.IntKind.u64 a.2.1), Go.Ev.SL.d (Go.Ev.DL.int Go.IntKind.u64 a.2.2.1), Go.Ev.SL.d (Go.Ev.DL.int Go.IntKind.u64 a.2.2.2.1), Go.Ev.SL.d (Go.Ev.DL.int Go.IntKind.u64 a.2.2.2.2.1), Go.Ev.SL.d (Go.Ev.DL.int Go.IntKind.u64 a.2.2.2.2.2.1)], Go.Ev.Obj.box (23 : Nat) [Go.Ev.SL.d (Go.Ev.DL.int Go.IntKind.u64 a.2.2.2.2.2.2.1), Go.Ev.SL.d (Go.Ev.DL.int Go.IntKind.u64 a.2.2.2.2.2.2.2.1), Go.Ev.SL.d (Go.Ev.DL.int Go.IntKind.u64 a.2.2.2.2.2.2.2.2.1), Go.Ev.SL.d (Go.Ev.DL.int Go.IntKind.u64 a.2.2.2.2.2.2.2.2.2.1), Go.Ev.SL.d (Go.Ev.DL.int Go.IntKind.u64 a.2.2.2.2.2.2.2.2.2.2)]])
def decL13_2 : (c : CSt) → Option { a : iL13_2 // c = encL13_2 a }
  | ([Go.Ev.SV.one (Go.Ev.SL.ptr (0 : Nat) (0 : Nat)), Go.Ev.SV.one (Go.Ev.SL.ptr (1 : Nat) (0 : Nat)), Go.Ev.SV.one (Go.Ev.SL.d (Go.Ev.DL.int Go.IntKind.i64 x1))], [Go.Ev.Obj.box (23 : Nat) [Go.Ev.SL.d (Go.Ev.DL.int Go.IntKind.u64 x2), Go.Ev.SL.d (Go.Ev.DL.int Go.IntKind.u64 x3), Go.Ev.SL.d (Go.Ev.DL.int Go.IntKind.u64 x4), Go.Ev.SL.d (Go.Ev.DL.int Go.IntKind.u64 x5), Go.Ev.SL.d (Go.Ev.DL.int Go.IntKind.u64 x6)], Go.Ev.Obj.box (23 : Nat) [Go.Ev.SL.d (Go.Ev.DL.int Go.IntKind.u64 x7), Go.Ev.SL.d (Go.Ev.DL.int Go.IntKind.u64 x8), Go.Ev.SL.d (Go.Ev.DL.int Go.IntKind.u64 x9), Go.Ev.SL.d (Go.Ev.DL.int Go.IntKind.u64 x10), Go.Ev.SL.d (Go.Ev.DL.int Go.IntKind.u64 x11)]]) => some ⟨(x1, x2, x3, x4, x5, x6, x7, x8, x9, x10, x11), rfl⟩
  | _ => none
abbrev oL13_2 : Type := Int × Int × Int × Int × Int × Int × Int × Int × Int × Int
def retL13_2 : oL13_2 → Ex × CSt := fun b => (Go.Ev.Ex.exit (0 : Nat), ([Go.Ev.SV.one (Go.Ev.SL.ptr (0 : Nat) (0 : Nat)), Go.Ev.SV.one (Go.Ev.SL.ptr (1 : Nat) (0 : Nat))], [Go.Ev.Obj.box (23 : Nat) [Go.Ev.SL.d (Go.Ev.DL.int Go.IntKind.u64 b.1), Go.Ev.SL.d (Go.Ev.DL.int Go.IntKind.u64 b.2.1), Go.Ev.SL.d (Go.Ev.DL.int Go.IntKind.u64 b.2.2.1), Go.Ev.SL.d (Go.Ev.DL.int Go.IntKind.u64 b.2.2.2.1), Go.Ev.SL.d (Go.Ev.DL.int Go.IntKind.u64 b.2.2.2.2.1)], Go.Ev.Obj.box (23 : Nat) [Go.Ev.SL.d (Go.Ev.DL.int Go.IntKind.u64 b.2.2.2.2.2.1), Go.Ev.SL.d (Go.Ev.DL.int Go.IntKind.u64 b.2.2.2.2.2.2.1), Go.Ev.SL.d (Go.Ev.DL.int Go.IntKind.u64 b.2.2.2.2.2.2.2.1), Go.Ev.SL.d (Go.Ev.DL.int Go.IntKind.u64 b.2.2.2.2.2.2.2.2.1), Go.Ev.SL.d (Go.Ev.DL.int Go.IntKind.u64 b.2.2.2.2.2.2.2.2.2)]]))
def retKL13_2 {R : Type} (K : Ex → CSt → Option R) : oL13_2 → Option R := fun b => K (Go.Ev.Ex.exit (0 : Nat)) (([Go.Ev.SV.one (Go.Ev.SL.ptr (0 : Nat) (0 : Nat)), Go.Ev.SV.one (Go.Ev.SL.ptr (1 : Nat) (0 : Nat))], [Go.Ev.Obj.box (23 : Nat) [Go.Ev.SL.d (Go.Ev.DL.int Go.IntKind.u64 b.1), Go.Ev.SL.d (Go.Ev.DL.int Go.IntKind.u64 b.2.1), Go.Ev.SL.d (Go.Ev.DL.int Go.IntKind.u64 b.2.2.1), Go.Ev.SL.d (Go.Ev.DL.int Go.IntKind.u64 b.2.2.2.1), Go.Ev.SL.d (Go.Ev.DL.int Go.IntKind.u64 b.2.2.2.2.1)], Go.Ev.Obj.box (23 : Nat) [Go.Ev.SL.d (Go.Ev.DL.int Go.IntKind.u64 b.2.2.2.2.2.1), Go.Ev.SL.d (Go.Ev.DL.int Go.IntKind.u64 b.2.2.2.2.2.2.1), Go.Ev.SL.d (Go.Ev.DL.int Go.IntKind.u64 b.2.2.2.2.2.2.2.1), Go.Ev.SL.d (Go.Ev.DL.int Go.IntKind.u64 b.2.2.2.2.2.2.2.2.1), Go.Ev.SL.d (Go.Ev.DL.int Go.IntKind.u64 b.2.2.2.2.2.2.2.2.2)]]))
theorem retKL13_2_eq {R : Type} (K : Ex → CSt → Option R) (b : oL13_2) : retKL13_2 K b = K (retL13_2 b).1 (retL13_2 b).2 := rfl
def entL13_2 (l : iL13_2 → Option oL13_2) : LEnt := mkLEnt 2 decL13_2 retL13_2 retKL13_2 retKL13_2_eq l
abbrev SdL13_2 (l : iL13_2 → Option oL13_2) : Prop := ∀ nt a b, l a = some b → LoopAt Try.prog nt 0 ann13 Try.f13 2 (encL13_2 a) (retL13_2 b)
noncomputable def u13_2 {R : Type} (sh : Sh) (f29 : i29 → Option o29) (l13_2 : iL13_2 → Option oL13_2) (x1 : Int) (x2 : Int) (x3 : Int) (x4 : Int) (x5 : Int) (x6 : Int) (x7 : Int) (x8 : Int) (x9 : Int) (x10 : Int) (x11 : Int) (k : oL13_2 → Option R) : Option R :=
  bif Decidable.decide (x1 < (12 : Int)) then
    sh (Go.IntKind.wrap Go.IntKind.u64 (↑(BitVec.toNat (BitVec.ofInt (64 : Nat) x4 ^^^ BitVec.ofInt (64 : Nat) (Go.IntKind.wrap Go.IntKind.u64 (Go.IntKind.wrap Go.IntKind.i64 ((240 : Int) - Go.IntKind.wrap Go.IntKind.i64 ((15 : Int) * x1)))))) : Int)) fun y1 =>
    sh (Go.IntKind.wrap Go.IntKind.u64 (↑(BitVec.toNat (BitVec.ofInt (64 : Nat) x2 ^^^ BitVec.ofInt (64 : Nat) x6)) : Int)) fun y2 =>
    sh (Go.IntKind.wrap Go.IntKind.u64 (↑(BitVec.toNat (BitVec.ofInt (64 : Nat) x6 ^^^ BitVec.ofInt (64 : Nat) x5)) : Int)) fun y3 =>
    sh (Go.IntKind.wrap Go.IntKind.u64 (↑(BitVec.toNat (BitVec.ofInt (64 : Nat) y1 ^^^ BitVec.ofInt (64 : Nat) x3)) : Int)) fun y4 =>
    sh (Go.IntKind.wrap Go.IntKind.u64 (↑(BitVec.toNat (BitVec.ofInt (64 : Nat) (18446744073709551615 : Int) ^^^ BitVec.ofInt (64 : Nat) y2)) : Int)) fun y5 =>
    sh (Go.IntKind.wrap Go.IntKind.u64 (↑(BitVec.toNat (BitVec.ofInt (64 : Nat) y5 &&& BitVec.ofInt (64 : Nat) x3)) : Int)) fun y6 =>
    sh (Go.IntKind.wrap Go.IntKind.u64 (↑(BitVec.toNat (BitVec.ofInt (64 : Nat) (18446744073709551615 : Int) ^^^ BitVec.ofInt (64 : Nat) x3)) : Int)) fun y7 =>
    sh (Go.IntKind.wrap Go.IntKind.u64 (↑(BitVec.toNat (BitVec.ofInt (64 : Nat) y7 &&& BitVec.ofInt (64 : Nat) y4)) : Int)) fun y8 =>
    sh (Go.IntKind.wrap Go.IntKind.u64 (↑(BitVec.toNat (BitVec.ofInt (64 : Nat) (18446744073709551615 : Int) ^^^ BitVec.ofInt (64 : Nat) y4)) : Int)) fun y9 =>
    sh (Go.IntKind.wrap Go.IntKind.u64 (↑(BitVec.toNat (BitVec.ofInt (64 : Nat) y9 &&& BitVec.ofInt (64 : Nat) x5)) : Int)) fun y10 =>
    sh (Go.IntKind.wrap Go.IntKind.u64 (↑(BitVec.toNat (BitVec.ofInt (64 : Nat) (18446744073709551615 : Int) ^^^ BitVec.ofInt (64 : Nat) x5)) : Int)) fun y11 =>
    sh (Go.IntKind.wrap Go.IntKind.u64 (↑(BitVec.toNat (BitVec.ofInt (64 : Nat) y11 &&& BitVec.ofInt (64 : Nat) y3)) : Int)) fun y12 =>
    sh (Go.IntKind.wrap Go.IntKind.u64 (↑(BitVec.toNat (BitVec.ofInt (64 : Nat) (18446744073709551615 : Int) ^^^ BitVec.ofInt (64 : Nat) y3)) : Int)) fun y13 =>
    sh (Go.IntKind.wrap Go.IntKind.u64 (↑(BitVec.toNat (BitVec.ofInt (64 : Nat) y13 &&& BitVec.ofInt (64 : Nat) y2)) : Int)) fun y14 =>
    sh (Go.IntKind.wrap Go.IntKind.u64 (↑(BitVec.toNat (BitVec.ofInt (64 : Nat) y2 ^^^ BitVec.ofInt (64 : Nat) y8)) : Int)) fun y15 =>
    sh (Go.IntKind.wrap Go.IntKind.u64 (↑(BitVec.toNat (BitVec.ofInt (64 : Nat) x3 ^^^ BitVec.ofInt (64 : Nat) y10)) : Int)) fun y16 =>
    sh (Go.IntKind.wrap Go.IntKind.u64 (↑(BitVec.toNat (BitVec.ofInt (64 : Nat) y4 ^^^ BitVec.ofInt (64 : Nat) y12)) : Int)) fun y17 =>
    sh (Go.IntKind.wrap Go.IntKind.u64 (↑(BitVec.toNat (BitVec.ofInt (64 : Nat) x5 ^^^ BitVec.ofInt (64 : Nat) y14)) : Int)) fun y18 =>
    sh (Go.IntKind.wrap Go.IntKind.u64 (↑(BitVec.toNat (BitVec.ofInt (64 : Nat) y3 ^^^ BitVec.ofInt (64 : Nat) y6)) : Int)) fun y19 =>
    sh (Go.IntKind.wrap Go.IntKind.u64 (↑(BitVec.toNat (BitVec.ofInt (64 : Nat) y16 ^^^ BitVec.ofInt (64 : Nat) y15)) : Int)) fun y20 =>
    sh (Go.IntKind.wrap Go.IntKind.u64 (↑(BitVec.toNat (BitVec.ofInt (64 : Nat) y15 ^^^ BitVec.ofInt (64 : Nat) y19)) : Int)) fun y21 =>
    sh (Go.IntKind.wrap Go.IntKind.u64 (↑(BitVec.toNat (BitVec.ofInt (64 : Nat) y18 ^^^ BitVec.ofInt (64 : Nat) y17)) : Int)) fun y22 =>
    sh (Go.IntKind.wrap Go.IntKind.u64 (↑(BitVec.toNat (BitVec.ofInt (64 : Nat) (18446744073709551615 : Int) ^^^ BitVec.ofInt (64 : Nat) y17)) : Int)) fun y23 =>
    (f29 (y21, (19 : Int))).bind fun (r24 : Int) =>
    sh (Go.IntKind.wrap Go.IntKind.u64 (↑(BitVec.toNat (BitVec.ofInt (64 : Nat) y21 ^^^ BitVec.ofInt (64 : Nat) r24)) : Int)) fun y25 =>
    (f29 (y21, (28 : Int))).bind fun (r26 : Int) =>
    sh (Go.IntKind.wrap Go.IntKind.u64 (↑(BitVec.toNat (BitVec.ofInt (64 : Nat) y25 ^^^ BitVec.ofInt (64 : Nat) r26)) : Int)) fun y27 =>
    (f29 (y20, (61 : Int))).bind fun (r28 : Int) =>
    sh (Go.IntKind.wrap Go.IntKind.u64 (↑(BitVec.toNat (BitVec.ofInt (64 : Nat) y20 ^^^ BitVec.ofInt (64 : Nat) r28)) : Int)) fun y29 =>
    (f29 (y20, (39 : Int))).bind fun (r30 : Int) =>
    sh (Go.IntKind.wrap Go.IntKind.u64 (↑(BitVec.toNat (BitVec.ofInt (64 : Nat) y29 ^^^ BitVec.ofInt (64 : Nat) r30)) : Int)) fun y31 =>
    (f29 (y23, (1 : Int))).bind fun (r32 : Int) =>
    sh (Go.IntKind.wrap Go.IntKind.u64 (↑(BitVec.toNat (BitVec.ofInt (64 : Nat) y23 ^^^ BitVec.ofInt (64 : Nat) r32)) : Int)) fun y33 =>
    (f29 (y23, (6 : Int))).bind fun (r34 : Int) =>
    sh (Go.IntKind.wrap Go.IntKind.u64 (↑(BitVec.toNat (BitVec.ofInt (64 : Nat) y33 ^^^ BitVec.ofInt (64 : Nat) r34)) : Int)) fun y35 =>
    (f29 (y22, (10 : Int))).bind fun (r36 : Int) =>
    sh (Go.IntKind.wrap Go.IntKind.u64 (↑(BitVec.toNat (BitVec.ofInt (64 : Nat) y22 ^^^ BitVec.ofInt (64 : Nat) r36)) : Int)) fun y37 =>
    (f29 (y22, (17 : Int))).bind fun (r38 : Int) =>
    sh (Go.IntKind.wrap Go.IntKind.u64 (↑(BitVec.toNat (BitVec.ofInt (64 : Nat) y37 ^^^ BitVec.ofInt (64 : Nat) r38)) : Int)) fun y39 =>
    (f29 (y19, (7 : Int))).bind fun (r40 : Int) =>
    sh (Go.IntKind.wrap Go.IntKind.u64 (↑(BitVec.toNat (BitVec.ofInt (64 : Nat) y19 ^^^ BitVec.ofInt (64 : Nat) r40)) : Int)) fun y41 =>
    (f29 (y19, (41 : Int))).bind fun (r42 : Int) =>
    sh (Go.IntKind.wrap Go.IntKind.u64 (↑(BitVec.toNat (BitVec.ofInt (64 : Nat) y41 ^^^ BitVec.ofInt (64 : Nat) r42)) : Int)) fun y43 =>
    (l13_2 (Go.IntKind.wrap Go.IntKind.i64 (x1 + (1 : Int)), y27, y31, y35, y39, y43, x7, x8, x9, x10, x11)).bind k
  else
    k ((x2, x3, x4, x5, x6, x7, x8, x9, x10, x11))
theorem u13_2_eq {R : Type} (sh : Sh) (hsh : ∀ {α R : Type} (x : α) (K : α → Option R), sh x K = K x) (f29 : i29 → Option o29) (l13_2 : iL13_2 → Option oL13_2) (x1 : Int) (x2 : Int) (x3 : Int) (x4 : Int) (x5 : Int) (x6 : Int) (x7 : Int) (x8 : Int) (x9 : Int) (x10 : Int) (x11 : Int) (K : Ex → CSt → Option R) : roundK Try.prog (tabO sh hsh br13 ar13 [ent29 f29]) (tabL [entL13_2 l13_2]) ann13 0 Try.f13 2 (encL13_2 (x1, x2, x3, x4, x5, x6, x7, x8, x9, x10, x11)) K = u13_2 sh f29 l13_2 x1 x2 x3 x4 x5 x6 x7 x8 x9 x10 x11 (retKL13_2 K) := by kernel_rfl
theorem u13_2_law {R : Type} (f29 : i29 → Option o29) (l13_2 : iL13_2 → Option oL13_2) (x1 : Int) (x2 : Int) (x3 : Int) (x4 : Int) (x5 : Int) (x6 : Int) (x7 : Int) (x8 : Int) (x9 : Int) (x10 : Int) (x11 : Int) (K : oL13_2 → Option R) : u13_2 sh0 f29 l13_2 x1 x2 x3 x4 x5 x6 x7 x8 x9 x10 x11 K = (u13_2 sh0 f29 l13_2 x1 x2 x3 x4 x5 x6 x7 x8 x9 x10 x11 some).bind K := by
  simp only [u13_2, sh0, cond_bind', two_bind, none_bind', Option.bind_assoc, Option.bind_some]
theorem okL13_2 (f29 : i29 → Option o29) (l13_2 : iL13_2 → Option oL13_2) (hf29 : Sd29 f29) (hl13_2 : SdL13_2 l13_2) : SdL13_2 (fun a => u13_2 sh0 f29 l13_2 a.1 a.2.1 a.2.2.1 a.2.2.2.1 a.2.2.2.2.1 a.2.2.2.2.2.1 a.2.2.2.2.2.2.1 a.2.2.2.2.2.2.2.1 a.2.2.2.2.2.2.2.2.1 a.2.2.2.2.2.2.2.2.2.1 a.2.2.2.2.2.2.2.2.2.2 some) := by
  intro nt a b h
  refine round_ok (sh := sh0) (hsh := fun _ _ => rfl) (br := br13) (ar := ar13) Try.mixed (by kernel_rfl) (.cons (mkEnt_ok hf29) .nil) (.cons (mkLEnt_ok (hl13_2 nt)) .nil) ((u13_2_eq sh0 (fun _ _ => rfl) f29 l13_2  a.1 a.2.1 a.2.2.1 a.2.2.2.1 a.2.2.2.2.1 a.2.2.2.2.2.1 a.2.2.2.2.2.2.1 a.2.2.2.2.2.2.2.1 a.2.2.2.2.2.2.2.2.1 a.2.2.2.2.2.2.2.2.2.1 a.2.2.2.2.2.2.2.2.2.2 _).trans ?_)
  rw [u13_2_law]
  simp only at h
  rw [h, Option.bind_some, retKL13_2_eq]
noncomputable def t13 {R : Type} (sh : Sh) (l13_2 : iL13_2 → Option oL13_2) (x1 : Int) (x2 : Int) (x3 : Int) (x4 : Int) (x5 : Int) (k : o13 → Option R) : Option R :=
  (l13_2 ((0 : Int), x1, x2, x3, x4, x5, (0 : Int), (0 : Int), (0 : Int), (0 : Int), (0 : Int))).bind fun (r44 : Int × Int × Int × Int × Int × Int × Int × Int × Int × Int) =>
  k ((Prod.fst r44, Prod.fst r44.2, Prod.fst (Prod.snd r44).2, Prod.fst (Prod.snd (Prod.snd r44)).2, Prod.fst (Prod.snd (Prod.snd (Prod.snd r44))).2))
theorem t13_eq {R : Type} (sh : Sh) (hsh : ∀ {α R : Type} (x : α) (K : α → Option R), sh x K = K x) (l13_2 : iL13_2 → Option oL13_2) (x1 : Int) (x2 : Int) (x3 : Int) (x4 : Int) (x5 : Int) (K : CSt → Option R) : bodyK Try.prog (tabO sh hsh br13 ar13 []) (tabL [entL13_2 l13_2]) ann13 false Try.f13 (enc13 (x1, x2, x3, x4, x5)) K = t13 sh l13_2 x1 x2 x3 x4 x5 (retK13 K) := by kernel_rfl
theorem t13_law {R : Type} (l13_2 : iL13_2 → Option oL13_2) (x1 : Int) (x2 : Int) (x3 : Int) (x4 : Int) (x5 : Int) (K : o13 → Option R) : t13 sh0 l13_2 x1 x2 x3 x4 x5 K = (t13 sh0 l13_2 x1 x2 x3 x4 x5 some).bind K := by
  simp only [t13, sh0, cond_bind', two_bind, none_bind', Option.bind_assoc, Option.bind_some]
theorem ok13 (l13_2 : iL13_2 → Option oL13_2) (hl13_2 : SdL13_2 l13_2) : Sd13 (fun a => t13 sh0 l13_2 a.1 a.2.1 a.2.2.1 a.2.2.2.1 a.2.2.2.2 some) := by
  intro a b h
  refine call_ok (sh := sh0) (hsh := fun _ _ => rfl) (br := br13) (ar := ar13) (own := false) Try.mixed Try.func13 (by kernel_rfl) .nil (fun nt => (.cons (mkLEnt_ok (hl13_2 nt)) .nil)) ((t13_eq sh0 (fun _ _ => rfl) l13_2 a.1 a.2.1 a.2.2.1 a.2.2.2.1 a.2.2.2.2 _).trans ?_)
  rw [t13_law]
  simp only at h
  rw [h, Option.bind_some, retK13_eq]

/-! 36 erasure/digest.group -/
abbrev i36 : Type := Rows
def enc36 : i36 → CSt := fun a => ([Go.Ev.SV.one (Go.Ev.SL.d (Go.Ev.DL.lst (5 : Nat) a))], [])
def dec36 : (c : CSt) → Option { a : i36 // c = enc36 a }
  | ([Go.Ev.SV.one (Go.Ev.SL.d (Go.Ev.DL.lst (5 : Nat) x1))], []) => some ⟨x1, rfl⟩
  | _ => none
abbrev o36 : Type := Int
def ret36 : o36 → CSt := fun b => ([Go.Ev.SV.one (Go.Ev.SL.d (Go.Ev.DL.int Go.IntKind.u64 b))], [])
def retK36 {R : Type} (K : CSt → Option R) : o36 → Option R := fun b => K (([Go.Ev.SV.one (Go.Ev.SL.d (Go.Ev.DL.int Go.IntKind.u64 b))], []))
theorem retK36_eq {R : Type} (K : CSt → Option R) (b : o36) : retK36 K b = K (ret36 b) := rfl
abbrev Sd36 (f : i36 → Option o36) : Prop := ∀ a b, f a = some b → CallOk Try.prog 36 (enc36 a) (ret36 b)
def ent36 (f : i36 → Option o36) : Ent := mkEnt 36 dec36 ret36 retK36 retK36_eq f
def ann36 : Nat → List Nat × List Nat := fun id => bif Nat.beq id 3 then ([0, 3, 4], [3]) else ([], [])
def br36 : FuncId → Bool := fun (g : Nat) => ([30] : List Nat).any (Nat.beq g)
def ar36 : TypeId → Bool := fun (t : Nat) => ([29, 30, 54, 57] : List Nat).any (Nat.beq t)
abbrev iL36_3 : Type := Rows × Int × Int
def encL36_3 : iL36_3 → CSt := fun a => ([Go.Ev.SV.one (Go.Ev.SL.d (Go.Ev.DL.lst (5 : Nat) a.1)), Go.Ev.SV.one (Go.Ev.SL.d (Go.Ev.DL.int Go.IntKind.u64 a.2.1)), Go.Ev.SV.one (Go.Ev.SL.d (Go.Ev.DL.int Go.IntKind.i64 a.2.2))], [])
def decL36_3 : (c : CSt) → Option { a : iL36_3 // c = encL36_3 a }
  | ([Go.Ev.SV.one (Go.Ev.SL.d (Go.Ev.DL.lst (5 : Nat) x1)), Go.Ev.SV.one (Go.Ev.SL.d (Go.Ev.DL.int Go.IntKind.u64 x2)), Go.Ev.SV.one (Go.Ev.SL.d (Go.Ev.DL.int Go.IntKind.i64 x3))], []) => some ⟨(x1, x2, x3), rfl⟩
  | _ => none
abbrev oL36_3 : Type := Int
def retL36_3 : oL36_3 → Ex × CSt := fun b => (Go.Ev.Ex.exit (0 : Nat), ([Go.Ev.SV.one (Go.Ev.SL.d (Go.Ev.DL.int Go.IntKind.u64 b))], []))
def retKL36_3 {R : Type} (K : Ex → CSt → Option R) : oL36_3 → Option R := fun b => K (Go.Ev.Ex.exit (0 : Nat)) (([Go.Ev.SV.one (Go.Ev.SL.d (Go.Ev.DL.int Go.IntKind.u64 b))], []))
theorem retKL36_3_eq {R : Type} (K : Ex → CSt → Option R) (b : oL36_3) : retKL36_3 K b = K (retL36_3 b).1 (retL36_3 b).2 := rfl
def entL36_3 (l : iL36_3 → Option oL36_3) : LEnt := mkLEnt 3 decL36_3 retL36_3 retKL36_3 retKL36_3_eq l
abbrev SdL36_3 (l : iL36_3 → Option oL36_3) : Prop := ∀ nt a b, l a = some b → LoopAt Try.prog nt 0 ann36 Try.f36 3 (encL36_3 a) (retL36_3 b)
noncomputable def u36_3 {R : Type} (sh : Sh) (l36_3 : iL36_3 → Option oL36_3) (x1 : Rows) (x2 : Int) (x3 : Int) (k : oL36_3 → Option R) : Option R :=
  bif Decidable.decide (x3 ≥ (0 : Int)) then
    bif Decidable.decide ((0 : Int) ≤ x3 ∧ x3 < (↑(List.length x1) : Int)) then
      sh (Go.Ev.DL.getI (Go.Ev.cellAt x1 (Int.toNat x3) (0 : Nat))) fun y1 =>
      sh (Go.IntKind.wrap Go.IntKind.u64 (↑(BitVec.toNat (BitVec.ofInt (64 : Nat) (Go.IntKind.wrap Go.IntKind.u64 (x2 * (256 : Int))) ||| BitVec.ofInt (64 : Nat) (Go.IntKind.wrap Go.IntKind.u64 y1))) : Int)) fun y2 =>
      (l36_3 (x1, y2, Go.IntKind.wrap Go.IntKind.i64 (x3 - (1 : Int)))).bind k
    else none
  else
    k (x2)
theorem u36_3_eq {R : Type} (sh : Sh) (hsh : ∀ {α R : Type} (x : α) (K : α → Option R), sh x K = K x) (l36_3 : iL36_3 → Option oL36_3) (x1 : Rows) (x2 : Int) (x3 : Int) (K : Ex → CSt → Option R) : roundK Try.prog (tabO sh hsh br36 ar36 []) (tabL [entL36_3 l36_3]) ann36 0 Try.f36 3 (encL36_3 (x1, x2, x3)) K = u36_3 sh l36_3 x1 x2 x3 (retKL36_3 K) := by kernel_rfl
theorem u36_3_law {R : Type} (l36_3 : iL36_3 → Option oL36_3) (x1 : Rows) (x2 : Int) (x3 : Int) (K : oL36_3 → Option R) : u36_3 sh0 l36_3 x1 x2 x3 K = (u36_3 sh0 l36_3 x1 x2 x3 some).bind K := by
  simp only [u36_3, sh0, cond_bind', two_bind, none_bind', Option.bind_assoc, Option.bind_some]
theorem okL36_3 (l36_3 : iL36_3 → Option oL36_3) (hl36_3 : SdL36_3 l36_3) : SdL36_3 (fun a => u36_3 sh0 l36_3 a.1 a.2.1 a.2.2 some) := by
  intro nt a b h
  refine round_ok (sh := sh0) (hsh := fun _ _ => rfl) (br := br36) (ar := ar36) Try.mixed (by kernel_rfl) .nil (.cons (mkLEnt_ok (hl36_3 nt)) .nil) ((u36_3_eq sh0 (fun _ _ => rfl) l36_3  a.1 a.2.1 a.2.2 _).trans ?_)
  rw [u36_3_law]
  simp only at h
  rw [h, Option.bind_some, retKL36_3_eq]
noncomputable def t36 {R : Type} (sh : Sh) (l36_3 : iL36_3 → Option oL36_3) (x1 : Rows) (k : o36 → Option R) : Option R :=
  (l36_3 (x1, (0 : Int), (7 : Int))).bind fun (r3 : Int) =>
  k (r3)
theorem t36_eq {R : Type} (sh : Sh) (hsh : ∀ {α R : Type} (x : α) (K : α → Option R), sh x K = K x) (l36_3 : iL36_3 → Option oL36_3) (x1 : Rows) (K : CSt → Option R) : bodyK Try.prog (tabO sh hsh br36 ar36 []) (tabL [entL36_3 l36_3]) ann36 false Try.f36 (enc36 x1) K = t36 sh l36_3 x1 (retK36 K) := by kernel_rfl
theorem t36_law {R : Type} (l36_3 : iL36_3 → Option oL36_3) (x1 : Rows) (K : o36 → Option R) : t36 sh0 l36_3 x1 K = (t36 sh0 l36_3 x1 some).bind K := by
  simp only [t36, sh0, cond_bind', two_bind, none_bind', Option.bind_assoc, Option.bind_some]
theorem ok36 (l36_3 : iL36_3 → Option oL36_3) (hl36_3 : SdL36_3 l36_3) : Sd36 (fun a => t36 sh0 l36_3 a some) := by
  intro a b h
  refine call_ok (sh := sh0) (hsh := fun _ _ => rfl) (br := br36) (ar := ar36) (own := false) Try.mixed Try.func36 (by kernel_rfl) .nil (fun nt => (.cons (mkLEnt_ok (hl36_3 nt)) .nil)) ((t36_eq sh0 (fun _ _ => rfl) l36_3 a _).trans ?_)
  rw [t36_law]
  simp only at h
  rw [h, Option.bind_some, retK36_eq]

/-! 31 erasure/digest.absorb -/
abbrev i31 : Type := Int × Rows
def enc31 : i31 → CSt := fun a => ([Go.Ev.SV.one (Go.Ev.SL.d (Go.Ev.DL.int Go.IntKind.u64 a.1)), Go.Ev.SV.one (Go.Ev.SL.d (Go.Ev.DL.lst (5 : Nat) a.2))], [])
def dec31 : (c : CSt) → Option { a : i31 // c = enc31 a }
  | ([Go.Ev.SV.one (Go.Ev.SL.d (Go.Ev.DL.int Go.IntKind.u64 x1)), Go.Ev.SV.one (Go.Ev.SL.d (Go.Ev.DL.lst (5 : Nat) x2))], []) => some ⟨(x1, x2), rfl⟩
  | _ => none
abbrev o31 : Type := Int × Int × Int × Int × Int
def ret31 : o31 → CSt := fun b => ([Go.Ev.SV.agg [Go.Ev.SL.d (Go.Ev.DL.int Go.IntKind.u64 b.1), Go.Ev.SL.d (Go.Ev.DL.int Go.IntKind.u64 b.2.1), Go.Ev.SL.d (Go.Ev.DL.int Go.IntKind.u64 b.2.2.1), Go.Ev.SL.d (Go.Ev.DL.int Go.IntKind.u64 b.2.2.2.1), Go.Ev.SL.d (Go.Ev.DL.int Go.IntKind.u64 b.2.2.2.2)]], [])
def retK31 {R : Type} (K : CSt → Option R) : o31 → Option R := fun b => K (([Go.Ev.SV.agg [Go.Ev.SL.d (Go.Ev.DL.int Go.IntKind.u64 b.1), Go.Ev.SL.d (Go.Ev.DL.int Go.IntKind.u64 b.2.1), Go.Ev.SL.d (Go.Ev.DL.int Go.IntKind.u64 b.2.2.1), Go.Ev.SL.d (Go.Ev.DL.int Go.IntKind.u64 b.2.2.2.1), Go.Ev.SL.d (Go.Ev.DL.int Go.IntKind.u64 b.2.2.2.2)]], []))
theorem retK31_eq {R : Type} (K : CSt → Option R) (b : o31) : retK31 K b = K (ret31 b) := rfl
abbrev Sd31 (f : i31 → Option o31) : Prop := ∀ a b, f a = some b → CallOk Try.prog 31 (enc31 a) (ret31 b)
def ent31 (f : i31 → Option o31) : Ent := mkEnt 31 dec31 ret31 retK31 retK31_eq f
def ann31 : Nat → List Nat × List Nat := fun id => bif Nat.beq id 4 then ([1, 4, 5, 6, 7], [1, 4, 5, 6]) else ([], [])
def br31 : FuncId → Bool := fun (g : Nat) => ([30] : List Nat).any (Nat.beq g)
def ar31 : TypeId → Bool := fun (t : Nat) => ([29, 30, 54, 57] : List Nat).any (Nat.beq t)
abbrev iL31_4 : Type := Rows × Int × Int × Int × Int × Int × Int × Int × Int × Int × Int × Int × Int
def encL31_4 : iL31_4 → CSt := fun a => ([Go.Ev.SV.one (Go.Ev.SL.d (Go.Ev.DL.lst (5 : Nat) a.1)), Go.Ev.SV.one (Go.Ev.SL.ptr (0 : Nat) (0 : Nat)), Go.Ev.SV.one (Go.Ev.SL.ptr (1 : Nat) (0 : Nat)), Go.Ev.SV.one (Go.Ev.SL.d (Go.Ev.DL.int Go.IntKind.i64 a.2.1)), Go.Ev.SV.one (Go.Ev.SL.d (Go.Ev.DL.int Go.IntKind.i64 a.2.2.1))], [Go.Ev.Obj.box (23 : Nat) [Go.Ev.SL.d (Go.Ev.DL.int Go.IntKind.u64 a.2.2.2.1), Go.Ev.SL.d (Go.Ev.DL.int Go.IntKind.u64 a.2.2.2.2.1), Go.Ev.SL.d (Go.Ev.DL.int Go.IntKind.u64 a.2.2.2.2.2.1), Go.Ev.SL.d (Go.Ev.DL.int Go.IntKind.u64 a.2.2.2.2.2.2.1), Go.Ev.SL.d (Go.Ev.DL.int Go.IntKind.u64 a.2.2.2.2.2.2.2.1)], Go.Ev.Obj.box (23 : Nat) [Go.Ev.SL.d (Go.Ev.DL.int Go.IntKind.u64 a.2.2.2.2.2.2.2.2.1), Go.Ev.SL.d (Go.Ev.DL.int Go.IntKind.u64 a.2.2.2.2.2.2.2.2.2.1), Go.Ev.SL.d (Go.Ev.DL.int Go.IntKind.u64 a.2.2.2.2.2.2.2.2.2.2.1), Go.Ev.SL.d (Go.Ev.DL.int Go.IntKind.u64 a.2.2.2.2.2.2.2.2.2.2.2.1), Go.Ev.SL.d (Go.Ev.DL.int Go.IntKind.u64 a.2.2.2.2.2.2.2.2.2.2.2.2)]])
def decL31_4 : (c : CSt) → Option { a : iL31_4 // c = encL31_4 a }
  | ([Go.Ev.SV.one (Go.Ev.SL.d (Go.Ev.DL.lst (5 : Nat) x1)), Go.Ev.SV.one (Go.Ev.SL.ptr (0 : Nat) (0 : Nat)), Go.Ev.SV.one (Go.Ev.SL.ptr (1 : Nat) (0 : Nat)), Go.Ev.SV.one (Go.Ev.SL.d (Go.Ev.DL.int Go.IntKind.i64 x2)), Go.Ev.SV.one (Go.Ev.SL.d (Go.Ev.DL.int Go.IntKind.i64 x3))], [Go.Ev.Obj.box (23 : Nat) [Go.Ev.SL.d (Go.Ev.DL.int Go.IntKind.u64 x4), Go.Ev.SL.d (Go.Ev.DL.int Go.IntKind.u64 x5), Go.Ev.SL.d (Go.Ev.DL.int Go.IntKind.u64 x6), Go.Ev.SL.d (Go.Ev.DL.int Go.IntKind.u64 x7), Go.Ev.SL.d (Go.Ev.DL.int Go.IntKind.u64 x8)], Go.Ev.Obj.box (23 : Nat) [Go.Ev.SL.d (Go.Ev.DL.int Go.IntKind.u64 x9), Go.Ev.SL.d (Go.Ev.DL.int Go.IntKind.u64 x10), Go.Ev.SL.d (Go.Ev.DL.int Go.IntKind.u64 x11), Go.Ev.SL.d (Go.Ev.DL.int Go.IntKind.u64 x12), Go.Ev.SL.d (Go.Ev.DL.int Go.IntKind.u64 x13)]]) => some ⟨(x1, x2, x3, x4, x5, x6, x7, x8, x9, x10, x11, x12, x13), rfl⟩
  | _ => none
abbrev oL31_4 : Type := Rows × Int × Int × Int × Int × Int × Int × Int × Int × Int × Int × Int
def retL31_4 : oL31_4 → Ex × CSt := fun b => (Go.Ev.Ex.exit (0 : Nat), ([Go.Ev.SV.one (Go.Ev.SL.d (Go.Ev.DL.lst (5 : Nat) b.1)), Go.Ev.SV.one (Go.Ev.SL.ptr (0 : Nat) (0 : Nat)), Go.Ev.SV.one (Go.Ev.SL.ptr (1 : Nat) (0 : Nat)), Go.Ev.SV.one (Go.Ev.SL.d (Go.Ev.DL.int Go.IntKind.i64 b.2.1))], [Go.Ev.Obj.box (23 : Nat) [Go.Ev.SL.d (Go.Ev.DL.int Go.IntKind.u64 b.2.2.1), Go.Ev.SL.d (Go.Ev.DL.int Go.IntKind.u64 b.2.2.2.1), Go.Ev.SL.d (Go.Ev.DL.int Go.IntKind.u64 b.2.2.2.2.1), Go.Ev.SL.d (Go.Ev.DL.int Go.IntKind.u64 b.2.2.2.2.2.1), Go.Ev.SL.d (Go.Ev.DL.int Go.IntKind.u64 b.2.2.2.2.2.2.1)], Go.Ev.Obj.box (23 : Nat) [Go.Ev.SL.d (Go.Ev.DL.int Go.IntKind.u64 b.2.2.2.2.2.2.2.1), Go.Ev.SL.d (Go.Ev.DL.int Go.IntKind.u64 b.2.2.2.2.2.2.2.2.1), Go.Ev.SL.d (Go.Ev.DL.int Go.IntKind.u64 b.2.2.2.2.2.2.2.2.2.1), Go.Ev.SL.d (Go.Ev.DL.int Go.IntKind.u64 b.2.2.2.2.2.2.2.2.2.2.1), Go.Ev.SL.d (Go.Ev.DL.int Go.IntKind.u64 b.2.2.2.2.2.2.2.2.2.2.2)]]))
def retKL31_4 {R : Type} (K : Ex → CSt → Option R) : oL31_4 → Option R := fun b => K (Go.Ev.Ex.exit (0 : Nat)) (([Go.Ev.SV.one (Go.Ev.SL.d (Go.Ev.DL.lst (5 : Nat) b.1)), Go.Ev.SV.one (Go.Ev.SL.ptr (0 : Nat) (0 : Nat)), Go.Ev.SV.one (Go.Ev.SL.ptr (1 : Nat) (0 : Nat)), Go.Ev.SV.one (Go.Ev.SL.d (Go.Ev.DL.int Go.IntKind.i64 b.2.1))], [Go.Ev.Obj.box (23 : Nat) [Go.Ev.SL.d (Go.Ev.DL.int Go.IntKind.u64 b.2.2.1), Go.Ev.SL.d (Go.Ev.DL.int Go.IntKind.u64 b.2.2.2.1), Go.Ev.SL.d (Go.Ev.DL.int Go.IntKind.u64 b.2.2.2.2.1), Go.Ev.SL.d (Go.Ev.DL.int Go.IntKind.u64 b.2.2.2.2.2.1), Go.Ev.SL.d (Go.Ev.DL.int Go.IntKind.u64 b.2.2.2.2.2.2.1)], Go.Ev.Obj.box (23 : Nat) [Go.Ev.SL.d (Go.Ev.DL.int Go.IntKind.u64 b.2.2.2.2.2.2.2.1), Go.Ev.SL.d (Go.Ev.DL.int Go.IntKind.u64 b.2.2.2.2.2.2.2.2.1), Go.Ev.SL.d (Go.Ev.DL.int Go.IntKind.u64 b.2.2.2.2.2.2.2.2.2.1), Go.Ev.SL.d (Go.Ev.DL.int Go.IntKind.u64 b.2.2.2.2.2.2.2.2.2.2.1), Go.Ev.SL.d (Go.Ev.DL.int Go.IntKind.u64 b.2.2.2.2.2.2.2.2.2.2.2)]]))
theorem retKL31_4_eq {R : Type} (K : Ex → CSt → Option R) (b : oL31_4) : retKL31_4 K b = K (retL31_4 b).1 (retL31_4 b).2 := rfl
def entL31_4 (l : iL31_4 → Option oL31_4) : LEnt := mkLEnt 4 decL31_4 retL31_4 retKL31_4 retKL31_4_eq l
abbrev SdL31_4 (l : iL31_4 → Option oL31_4) : Prop := ∀ nt a b, l a = some b → LoopAt Try.prog nt 0 ann31 Try.f31 4 (encL31_4 a) (retL31_4 b)
noncomputable def u31_4 {R : Type} (sh : Sh) (f36 : i36 → Option o36) (f12 : i12 → Option o12) (l31_4 : iL31_4 → Option oL31_4) (x1 : Rows) (x2 : Int) (x3 : Int) (x4 : Int) (x5 : Int) (x6 : Int) (x7 : Int) (x8 : Int) (x9 : Int) (x10 : Int) (x11 : Int) (x12 : Int) (x13 : Int) (k : oL31_4 → Option R) : Option R :=
  bif Decidable.decide (x3 < x2) then
    bif Decidable.decide ((0 : Int) ≤ Go.IntKind.wrap Go.IntKind.i64 ((8 : Int) * x3) ∧ Go.IntKind.wrap Go.IntKind.i64 ((8 : Int) * x3) ≤ Go.IntKind.wrap Go.IntKind.i64 (Go.IntKind.wrap Go.IntKind.i64 ((8 : Int) * x3) + (8 : Int)) ∧ Go.IntKind.wrap Go.IntKind.i64 (Go.IntKind.wrap Go.IntKind.i64 ((8 : Int) * x3) + (8 : Int)) ≤ (↑(List.length x1) : Int)) then
      (f36 (List.take (Int.toNat (Go.IntKind.wrap Go.IntKind.i64 (Go.IntKind.wrap Go.IntKind.i64 ((8 : Int) * x3) + (8 : Int))) - Int.toNat (Go.IntKind.wrap Go.IntKind.i64 ((8 : Int) * x3))) (List.drop (Int.toNat (Go.IntKind.wrap Go.IntKind.i64 ((8 : Int) * x3))) x1))).bind fun (r3 : Int) =>
      sh (Go.IntKind.wrap Go.IntKind.u64 (↑(BitVec.toNat (BitVec.ofInt (64 : Nat) x9 ^^^ BitVec.ofInt (64 : Nat) r3)) : Int)) fun y4 =>
      (f12 (y4, x10, x11, x12, x13)).bind fun (r5 : Int × Int × Int × Int × Int) =>
      (l31_4 (x1, x2, Go.IntKind.wrap Go.IntKind.i64 (x3 + (1 : Int)), x4, x5, x6, x7, x8, Prod.fst r5, Prod.fst r5.2, Prod.fst (Prod.snd r5).2, Prod.fst (Prod.snd (Prod.snd r5)).2, Prod.snd (Prod.snd (Prod.snd r5)).2)).bind k
    else none
  else
    k ((x1, x2, x4, x5, x6, x7, x8, x9, x10, x11, x12, x13))
theorem u31_4_eq {R : Type} (sh : Sh) (hsh : ∀ {α R : Type} (x : α) (K : α → Option R), sh x K = K x) (f36 : i36 → Option o36) (f12 : i12 → Option o12) (l31_4 : iL31_4 → Option oL31_4) (x1 : Rows) (x2 : Int) (x3 : Int) (x4 : Int) (x5 : Int) (x6 : Int) (x7 : Int) (x8 : Int) (x9 : Int) (x10 : Int) (x11 : Int) (x12 : Int) (x13 : Int) (K : Ex → CSt → Option R) : roundK Try.prog (tabO sh hsh br31 ar31 [ent36 f36, ent12 f12]) (tabL [entL31_4 l31_4]) ann31 0 Try.f31 4 (encL31_4 (x1, x2, x3, x4, x5, x6, x7, x8, x9, x10, x11, x12, x13)) K = u31_4 sh f36 f12 l31_4 x1 x2 x3 x4 x5 x6 x7 x8 x9 x10 x11 x12 x13 (retKL31_4 K) := by kernel_rfl
theorem u31_4_law {R : Type} (f36 : i36 → Option o36) (f12 : i12 → Option o12) (l31_4 : iL31_4 → Option oL31_4) (x1 : Rows) (x2 : Int) (x3 : Int) (x4 : Int) (x5 : Int) (x6 : Int) (x7 : Int) (x8 : Int) (x9 : Int) (x10 : Int) (x11 : Int) (x12 : Int) (x13 : Int) (K : oL31_4 → Option R) : u31_4 sh0 f36 f12 l31_4 x1 x2 x3 x4 x5 x6 x7 x8 x9 x10 x11 x12 x13 K = (u31_4 sh0 f36 f12 l31_4 x1 x2 x3 x4 x5 x6 x7 x8 x9 x10 x11 x12 x13 some).bind K := by
  simp only [u31_4, sh0, cond_bind', two_bind, none_bind', Option.bind_assoc, Option.bind_some]
theorem okL31_4 (f36 : i36 → Option o36) (f12 : i12 → Option o12) (l31_4 : iL31_4 → Option oL31_4) (hf36 : Sd36 f36) (hf12 : Sd12 f12) (hl31_4 : SdL31_4 l31_4) : SdL31_4 (fun a => u31_4 sh0 f36 f12 l31_4 a.1 a.2.1 a.2.2.1 a.2.2.2.1 a.2.2.2.2.1 a.2.2.2.2.2.1 a.2.2.2.2.2.2.1 a.2.2.2.2.2.2.2.1 a.2.2.2.2.2.2.2.2.1 a.2.2.2.2.2.2.2.2.2.1 a.2.2.2.2.2.2.2.2.2.2.1 a.2.2.2.2.2.2.2.2.2.2.2.1 a.2.2.2.2.2.2.2.2.2.2.2.2 some) := by
  intro nt a b h
  refine round_ok (sh := sh0) (hsh := fun _ _ => rfl) (br := br31) (ar := ar31) Try.mixed (by kernel_rfl) (.cons (mkEnt_ok hf36) (.cons (mkEnt_ok hf12) .nil)) (.cons (mkLEnt_ok (hl31_4 nt)) .nil) ((u31_4_eq sh0 (fun _ _ => rfl) f36 f12 l31_4  a.1 a.2.1 a.2.2.1 a.2.2.2.1 a.2.2.2.2.1 a.2.2.2.2.2.1 a.2.2.2.2.2.2.1 a.2.2.2.2.2.2.2.1 a.2.2.2.2.2.2.2.2.1 a.2.2.2.2.2.2.2.2.2.1 a.2.2.2.2.2.2.2.2.2.2.1 a.2.2.2.2.2.2.2.2.2.2.2.1 a.2.2.2.2.2.2.2.2.2.2.2.2 _).trans ?_)
  rw [u31_4_law]
  simp only at h
  rw [h, Option.bind_some, retKL31_4_eq]
noncomputable def t31 {R : Type} (sh : Sh) (f12 : i12 → Option o12) (f36 : i36 → Option o36) (l31_4 : iL31_4 → Option oL31_4) (x1 : Int) (x2 : Rows) (k : o31 → Option R) : Option R :=
  (f12 (x1, (1 : Int), (2 : Int), (3 : Int), (4 : Int))).bind fun (r1 : Int × Int × Int × Int × Int) =>
  sh ((↑(List.length x2) : Int)) fun y2 =>
  (l31_4 (x2, Go.IntKind.wrap Go.IntKind.i64 (Int.tdiv y2 (8 : Int)), (0 : Int), (0 : Int), (0 : Int), (0 : Int), (0 : Int), (0 : Int), Prod.fst r1, Prod.fst r1.2, Prod.fst (Prod.snd r1).2, Prod.fst (Prod.snd (Prod.snd r1)).2, Prod.snd (Prod.snd (Prod.snd r1)).2)).bind fun (r6 : Rows × Int × Int × Int × Int × Int × Int × Int × Int × Int × Int × Int) =>
  sh (List.replicate (8 : Nat) [Go.Ev.DL.int Go.IntKind.u8 (0 : Int)] : Rows) fun y7 =>
  bif Decidable.decide (List.length y7 = (8 : Nat)) then
    bif Decidable.decide ((0 : Int) ≤ Go.IntKind.wrap Go.IntKind.i64 ((8 : Int) * Prod.fst r6.2) ∧ Go.IntKind.wrap Go.IntKind.i64 ((8 : Int) * Prod.fst r6.2) ≤ (↑(List.length (Prod.fst r6)) : Int)) then
      sh ((↑(Min.min (List.length (List.drop (Int.toNat (Go.IntKind.wrap Go.IntKind.i64 ((8 : Int) * Prod.fst r6.2))) (Prod.fst r6))) (List.length y7)) : Int)) fun y8 =>
      sh (List.take (Min.min (List.length (List.drop (Int.toNat (Go.IntKind.wrap Go.IntKind.i64 ((8 : Int) * Prod.fst r6.2))) (Prod.fst r6))) (List.length y7)) (List.drop (Int.toNat (Go.IntKind.wrap Go.IntKind.i64 ((8 : Int) * Prod.fst r6.2))) (Prod.fst r6)) ++ List.drop (Min.min (List.length (List.drop (Int.toNat (Go.IntKind.wrap Go.IntKind.i64 ((8 : Int) * Prod.fst r6.2))) (Prod.fst r6))) (List.length y7)) y7 : Rows) fun y9 =>
      bif Decidable.decide ((0 : Int) ≤ y8 ∧ y8 < (8 : Int)) then
        bif Decidable.decide (Int.toNat y8 < List.length y9) then
          sh (List.set y9 (Int.toNat y8) [Go.Ev.DL.int Go.IntKind.u8 (1 : Int)] : Rows) fun y10 =>
          bif Decidable.decide (List.length y10 = (8 : Nat)) then
            (f36 (y10)).bind fun (r11 : Int) =>
            sh (Go.IntKind.wrap Go.IntKind.u64 (↑(BitVec.toNat (BitVec.ofInt (64 : Nat) (Prod.fst (Prod.snd (Prod.snd (Prod.snd (Prod.snd (Prod.snd (Prod.snd r6)))))).2) ^^^ BitVec.ofInt (64 : Nat) r11)) : Int)) fun y12 =>
            (f12 (y12, Prod.fst (Prod.snd (Prod.snd (Prod.snd (Prod.snd (Prod.snd (Prod.snd (Prod.snd r6))))))).2, Prod.fst (Prod.snd (Prod.snd (Prod.snd (Prod.snd (Prod.snd (Prod.snd (Prod.snd (Prod.snd r6)))))))).2, Prod.fst (Prod.snd (Prod.snd (Prod.snd (Prod.snd (Prod.snd (Prod.snd (Prod.snd (Prod.snd (Prod.snd r6))))))))).2, Prod.snd (Prod.snd (Prod.snd (Prod.snd (Prod.snd (Prod.snd (Prod.snd (Prod.snd (Prod.snd (Prod.snd r6))))))))).2)).bind fun (r13 : Int × Int × Int × Int × Int) =>
            k ((Prod.fst r13, Prod.fst r13.2, Prod.fst (Prod.snd r13).2, Prod.fst (Prod.snd (Prod.snd r13)).2, Prod.snd (Prod.snd (Prod.snd r13)).2))
          else none
        else none
      else none
    else none
  else none
theorem t31_eq {R : Type} (sh : Sh) (hsh : ∀ {α R : Type} (x : α) (K : α → Option R), sh x K = K x) (f12 : i12 → Option o12) (f36 : i36 → Option o36) (l31_4 : iL31_4 → Option oL31_4) (x1 : Int) (x2 : Rows) (K : CSt → Option R) : bodyK Try.prog (tabO sh hsh br31 ar31 [ent12 f12, ent36 f36]) (tabL [entL31_4 l31_4]) ann31 false Try.f31 (enc31 (x1, x2)) K = t31 sh f12 f36 l31_4 x1 x2 (retK31 K) := by kernel_rfl
theorem t31_law {R : Type} (f12 : i12 → Option o12) (f36 : i36 → Option o36) (l31_4 : iL31_4 → Option oL31_4) (x1 : Int) (x2 : Rows) (K : o31 → Option R) : t31 sh0 f12 f36 l31_4 x1 x2 K = (t31 sh0 f12 f36 l31_4 x1 x2 some).bind K := by
  simp only [t31, sh0, cond_bind', two_bind, none_bind', Option.bind_assoc, Option.bind_some]
theorem ok31 (f12 : i12 → Option o12) (f36 : i36 → Option o36) (l31_4 : iL31_4 → Option oL31_4) (hf12 : Sd12 f12) (hf36 : Sd36 f36) (hl31_4 : SdL31_4 l31_4) : Sd31 (fun a => t31 sh0 f12 f36 l31_4 a.1 a.2 some) := by
  intro a b h
  refine call_ok (sh := sh0) (hsh := fun _ _ => rfl) (br := br31) (ar := ar31) (own := false) Try.mixed Try.func31 (by kernel_rfl) (.cons (mkEnt_ok hf12) (.cons (mkEnt_ok hf36) .nil)) (fun nt => (.cons (mkLEnt_ok (hl31_4 nt)) .nil)) ((t31_eq sh0 (fun _ _ => rfl) f12 f36 l31_4 a.1 a.2 _).trans ?_)
  rw [t31_law]
  simp only at h
  rw [h, Option.bind_some, retK31_eq]

/-! 30 erasure/digest.squeeze -/
abbrev i30 : Type := Int × Int × Int × Int × Int × Rows
def enc30 : i30 → CSt := fun a => ([Go.Ev.SV.agg [Go.Ev.SL.d (Go.Ev.DL.int Go.IntKind.u64 a.1), Go.Ev.SL.d (Go.Ev.DL.int Go.IntKind.u64 a.2.1), Go.Ev.SL.d (Go.Ev.DL.int Go.IntKind.u64 a.2.2.1), Go.Ev.SL.d (Go.Ev.DL.int Go.IntKind.u64 a.2.2.2.1), Go.Ev.SL.d (Go.Ev.DL.int Go.IntKind.u64 a.2.2.2.2.1)], Go.Ev.SV.one (Go.Ev.SL.vr (0 : Nat))], [Go.Ev.Obj.vec (5 : Nat) Bool.false a.2.2.2.2.2])
def dec30 : (c : CSt) → Option { a : i30 // c = enc30 a }
  | ([Go.Ev.SV.agg [Go.Ev.SL.d (Go.Ev.DL.int Go.IntKind.u64 x1), Go.Ev.SL.d (Go.Ev.DL.int Go.IntKind.u64 x2), Go.Ev.SL.d (Go.Ev.DL.int Go.IntKind.u64 x3), Go.Ev.SL.d (Go.Ev.DL.int Go.IntKind.u64 x4), Go.Ev.SL.d (Go.Ev.DL.int Go.IntKind.u64 x5)], Go.Ev.SV.one (Go.Ev.SL.vr (0 : Nat))], [Go.Ev.Obj.vec (5 : Nat) Bool.false x6]) => some ⟨(x1, x2, x3, x4, x5, x6), rfl⟩
  | _ => none
abbrev o30 : Type := Rows
def ret30 : o30 → CSt := fun b => ([], [Go.Ev.Obj.vec (5 : Nat) Bool.false b])
def retK30 {R : Type} (K : CSt → Option R) : o30 → Option R := fun b => K (([], [Go.Ev.Obj.vec (5 : Nat) Bool.false b]))
theorem retK30_eq {R : Type} (K : CSt → Option R) (b : o30) : retK30 K b = K (ret30 b) := rfl
abbrev Sd30 (f : i30 → Option o30) : Prop := ∀ a b, f a = some b → CallOk Try.prog 30 (enc30 a) (ret30 b)
def ent30 (f : i30 → Option o30) : Ent := mkEnt 30 dec30 ret30 retK30 retK30_eq f
def ann30 : Nat → List Nat × List Nat := fun id => bif Nat.beq id 2 then ([1, 2, 4], []) else ([], [])
def br30 : FuncId → Bool := fun (g : Nat) => ([30] : List Nat).any (Nat.beq g)
def ar30 : TypeId → Bool := fun (t : Nat) => ([29, 30, 54, 57] : List Nat).any (Nat.beq t)
abbrev iL30_2 : Type := Int × Rows × Int × Int × Int × Int × Int
def encL30_2 : iL30_2 → CSt := fun a => ([Go.Ev.SV.one (Go.Ev.SL.vr (0 : Nat)), Go.Ev.SV.one (Go.Ev.SL.ptr (1 : Nat) (0 : Nat)), Go.Ev.SV.one (Go.Ev.SL.d (Go.Ev.DL.int Go.IntKind.i64 a.1))], [Go.Ev.Obj.vec (5 : Nat) Bool.false a.2.1, Go.Ev.Obj.box (23 : Nat) [Go.Ev.SL.d (Go.Ev.DL.int Go.IntKind.u64 a.2.2.1), Go.Ev.SL.d (Go.Ev.DL.int Go.IntKind.u64 a.2.2.2.1), Go.Ev.SL.d (Go.Ev.DL.int Go.IntKind.u64 a.2.2.2.2.1), Go.Ev.SL.d (Go.Ev.DL.int Go.IntKind.u64 a.2.2.2.2.2.1), Go.Ev.SL.d (Go.Ev.DL.int Go.IntKind.u64 a.2.2.2.2.2.2)]])
def decL30_2 : (c : CSt) → Option { a : iL30_2 // c = encL30_2 a }
  | ([Go.Ev.SV.one (Go.Ev.SL.vr (0 : Nat)), Go.Ev.SV.one (Go.Ev.SL.ptr (1 : Nat) (0 : Nat)), Go.Ev.SV.one (Go.Ev.SL.d (Go.Ev.DL.int Go.IntKind.i64 x1))], [Go.Ev.Obj.vec (5 : Nat) Bool.false x2, Go.Ev.Obj.box (23 : Nat) [Go.Ev.SL.d (Go.Ev.DL.int Go.IntKind.u64 x3), Go.Ev.SL.d (Go.Ev.DL.int Go.IntKind.u64 x4), Go.Ev.SL.d (Go.Ev.DL.int Go.IntKind.u64 x5), Go.Ev.SL.d (Go.Ev.DL.int Go.IntKind.u64 x6), Go.Ev.SL.d (Go.Ev.DL.int Go.IntKind.u64 x7)]]) => some ⟨(x1, x2, x3, x4, x5, x6, x7), rfl⟩
  | _ => none
abbrev oL30_2 : Type := Rows
def retL30_2 : oL30_2 → Ex × CSt := fun b => (Go.Ev.Ex.exit (0 : Nat), ([], [Go.Ev.Obj.vec (5 : Nat) Bool.false b]))
def retKL30_2 {R : Type} (K : Ex → CSt → Option R) : oL30_2 → Option R := fun b => K (Go.Ev.Ex.exit (0 : Nat)) (([], [Go.Ev.Obj.vec (5 : Nat) Bool.false b]))
theorem retKL30_2_eq {R : Type} (K : Ex → CSt → Option R) (b : oL30_2) : retKL30_2 K b = K (retL30_2 b).1 (retL30_2 b).2 := rfl
def entL30_2 (l : iL30_2 → Option oL30_2) : LEnt := mkLEnt 2 decL30_2 retL30_2 retKL30_2 retKL30_2_eq l
abbrev SdL30_2 (l : iL30_2 → Option oL30_2) : Prop := ∀ nt a b, l a = some b → LoopAt Try.prog nt 1 ann30 Try.f30 2 (encL30_2 a) (retL30_2 b)
noncomputable def u30_2 {R : Type} (sh : Sh) (f12 : i12 → Option o12) (l30_2 : iL30_2 → Option oL30_2) (x1 : Int) (x2 : Rows) (x3 : Int) (x4 : Int) (x5 : Int) (x6 : Int) (x7 : Int) (k : oL30_2 → Option R) : Option R :=
  sh ((↑(List.length x2) : Int)) fun y1 =>
  bif Decidable.decide (x1 < y1) then
    bif Decidable.decide (x1 > (0 : Int)) then
      bif Int.tmod x1 (8 : Int) == (0 : Int) then
        (f12 (x3, x4, x5, x6, x7)).bind fun (r2 : Int × Int × Int × Int × Int) =>
        bif Decidable.decide ((0 : Int) ≤ Go.IntKind.wrap Go.IntKind.u64 ((8 : Int) * Go.IntKind.wrap Go.IntKind.u64 (Int.tmod x1 (8 : Int)))) then
          sh (Int.fdiv (Prod.fst r2) ((2 : Int) ^ Min.min (Int.toNat (Go.IntKind.wrap Go.IntKind.u64 ((8 : Int) * Go.IntKind.wrap Go.IntKind.u64 (Int.tmod x1 (8 : Int))))) (64 : Nat))) fun y3 =>
          bif Decidable.decide ((0 : Int) ≤ x1 ∧ x1 < (↑(List.length x2) : Int)) then
            bif Decidable.decide (Int.toNat x1 < List.length x2) then
              sh (List.set x2 (Int.toNat x1) [Go.Ev.DL.int Go.IntKind.u8 (Go.IntKind.wrap Go.IntKind.u8 y3)] : Rows) fun y4 =>
              (l30_2 (Go.IntKind.wrap Go.IntKind.i64 (x1 + (1 : Int)), y4, Prod.fst r2, Prod.fst r2.2, Prod.fst (Prod.snd r2).2, Prod.fst (Prod.snd (Prod.snd r2)).2, Prod.snd (Prod.snd (Prod.snd r2)).2)).bind k
            else none
          else none
        else none
      else
        bif Decidable.decide ((0 : Int) ≤ Go.IntKind.wrap Go.IntKind.u64 ((8 : Int) * Go.IntKind.wrap Go.IntKind.u64 (Int.tmod x1 (8 : Int)))) then
          sh (Int.fdiv x3 ((2 : Int) ^ Min.min (Int.toNat (Go.IntKind.wrap Go.IntKind.u64 ((8 : Int) * Go.IntKind.wrap Go.IntKind.u64 (Int.tmod x1 (8 : Int))))) (64 : Nat))) fun y5 =>
          bif Decidable.decide ((0 : Int) ≤ x1 ∧ x1 < (↑(List.length x2) : Int)) then
            bif Decidable.decide (Int.toNat x1 < List.length x2) then
              sh (List.set x2 (Int.toNat x1) [Go.Ev.DL.int Go.IntKind.u8 (Go.IntKind.wrap Go.IntKind.u8 y5)] : Rows) fun y6 =>
              (l30_2 (Go.IntKind.wrap Go.IntKind.i64 (x1 + (1 : Int)), y6, x3, x4, x5, x6, x7)).bind k
            else none
          else none
        else none
    else
      bif Decidable.decide ((0 : Int) ≤ Go.IntKind.wrap Go.IntKind.u64 ((8 : Int) * Go.IntKind.wrap Go.IntKind.u64 (Int.tmod x1 (8 : Int)))) then
        sh (Int.fdiv x3 ((2 : Int) ^ Min.min (Int.toNat (Go.IntKind.wrap Go.IntKind.u64 ((8 : Int) * Go.IntKind.wrap Go.IntKind.u64 (Int.tmod x1 (8 : Int))))) (64 : Nat))) fun y7 =>
        bif Decidable.decide ((0 : Int) ≤ x1 ∧ x1 < (↑(List.length x2) : Int)) then
          bif Decidable.decide (Int.toNat x1 < List.length x2) then
            sh (List.set x2 (Int.toNat x1) [Go.Ev.DL.int Go.IntKind.u8 (Go.IntKind.wrap Go.IntKind.u8 y7)] : Rows) fun y8 =>
            (l30_2 (Go.IntKind.wrap Go.IntKind.i64 (x1 + (1 : Int)), y8, x3, x4, x5, x6, x7)).bind k
          else none
        else none
      else none
  else
    k (x2)
theorem u30_2_eq {R : Type} (sh : Sh) (hsh : ∀ {α R : Type} (x : α) (K : α → Option R), sh x K = K x) (f12 : i12 → Option o12) (l30_2 : iL30_2 → Option oL30_2) (x1 : Int) (x2 : Rows) (x3 : Int) (x4 : Int) (x5 : Int) (x6 : Int) (x7 : Int) (K : Ex → CSt → Option R) : roundK Try.prog (tabO sh hsh br30 ar30 [ent12 f12]) (tabL [entL30_2 l30_2]) ann30 1 Try.f30 2 (encL30_2 (x1, x2, x3, x4, x5, x6, x7)) K = u30_2 sh f12 l30_2 x1 x2 x3 x4 x5 x6 x7 (retKL30_2 K) := by kernel_rfl
theorem u30_2_law {R : Type} (f12 : i12 → Option o12) (l30_2 : iL30_2 → Option oL30_2) (x1 : Int) (x2 : Rows) (x3 : Int) (x4 : Int) (x5 : Int) (x6 : Int) (x7 : Int) (K : oL30_2 → Option R) : u30_2 sh0 f12 l30_2 x1 x2 x3 x4 x5 x6 x7 K = (u30_2 sh0 f12 l30_2 x1 x2 x3 x4 x5 x6 x7 some).bind K := by
  simp only [u30_2, sh0, cond_bind', two_bind, none_bind', Option.bind_assoc, Option.bind_some]
theorem okL30_2 (f12 : i12 → Option o12) (l30_2 : iL30_2 → Option oL30_2) (hf12 : Sd12 f12) (hl30_2 : SdL30_2 l30_2) : SdL30_2 (fun a => u30_2 sh0 f12 l30_2 a.1 a.2.1 a.2.2.1 a.2.2.2.1 a.2.2.2.2.1 a.2.2.2.2.2.1 a.2.2.2.2.2.2 some) := by
  intro nt a b h
  refine round_ok (sh := sh0) (hsh := fun _ _ => rfl) (br := br30) (ar := ar30) Try.mixed (by kernel_rfl) (.cons (mkEnt_ok hf12) .nil) (.cons (mkLEnt_ok (hl30_2 nt)) .nil) ((u30_2_eq sh0 (fun _ _ => rfl) f12 l30_2  a.1 a.2.1 a.2.2.1 a.2.2.2.1 a.2.2.2.2.1 a.2.2.2.2.2.1 a.2.2.2.2.2.2 _).trans ?_)
  rw [u30_2_law]
  simp only at h
  rw [h, Option.bind_some, retKL30_2_eq]
noncomputable def t30 {R : Type} (sh : Sh) (l30_2 : iL30_2 → Option oL30_2) (x1 : Int) (x2 : Int) (x3 : Int) (x4 : Int) (x5 : Int) (x6 : Rows) (k : o30 → Option R) : Option R :=
  (l30_2 ((0 : Int), x6, x1, x2, x3, x4, x5)).bind fun (r9 : Rows) =>
  k (r9)
theorem t30_eq {R : Type} (sh : Sh) (hsh : ∀ {α R : Type} (x : α) (K : α → Option R), sh x K = K x) (l30_2 : iL30_2 → Option oL30_2) (x1 : Int) (x2 : Int) (x3 : Int) (x4 : Int) (x5 : Int) (x6 : Rows) (K : CSt → Option R) : bodyK Try.prog (tabO sh hsh br30 ar30 []) (tabL [entL30_2 l30_2]) ann30 false Try.f30 (enc30 (x1, x2, x3, x4, x5, x6)) K = t30 sh l30_2 x1 x2 x3 x4 x5 x6 (retK30 K) := by kernel_rfl
theorem t30_law {R : Type} (l30_2 : iL30_2 → Option oL30_2) (x1 : Int) (x2 : Int) (x3 : Int) (x4 : Int) (x5 : Int) (x6 : Rows) (K : o30 → Option R) : t30 sh0 l30_2 x1 x2 x3 x4 x5 x6 K = (t30 sh0 l30_2 x1 x2 x3 x4 x5 x6 some).bind K := by
  simp only [t30, sh0, cond_bind', two_bind, none_bind', Option.bind_assoc, Option.bind_some]
theorem ok30 (l30_2 : iL30_2 → Option oL30_2) (hl30_2 : SdL30_2 l30_2) : Sd30 (fun a => t30 sh0 l30_2 a.1 a.2.1 a.2.2.1 a.2.2.2.1 a.2.2.2.2.1 a.2.2.2.2.2 some) := by
  intro a b h
  refine call_ok (sh := sh0) (hsh := fun _ _ => rfl) (br := br30) (ar := ar30) (own := false) Try.mixed Try.func30 (by kernel_rfl) .nil (fun nt => (.cons (mkLEnt_ok (hl30_2 nt)) .nil)) ((t30_eq sh0 (fun _ _ => rfl) l30_2 a.1 a.2.1 a.2.2.1 a.2.2.2.1 a.2.2.2.2.1 a.2.2.2.2.2 _).trans ?_)
  rw [t30_law]
  simp only at h
  rw [h, Option.bind_some, retK30_eq]

/-! 15 erasure/digest.Sum -/
abbrev i15 : Type := Int × Rows
def enc15 : i15 → CSt := fun a => ([Go.Ev.SV.one (Go.Ev.SL.d (Go.Ev.DL.int Go.IntKind.u64 a.1)), Go.Ev.SV.one (Go.Ev.SL.d (Go.Ev.DL.lst (5 : Nat) a.2))], [])
def dec15 : (c : CSt) → Option { a : i15 // c = enc15 a }
  | ([Go.Ev.SV.one (Go.Ev.SL.d (Go.Ev.DL.int Go.IntKind.u64 x1)), Go.Ev.SV.one (Go.Ev.SL.d (Go.Ev.DL.lst (5 : Nat) x2))], []) => some ⟨(x1, x2), rfl⟩
  | _ => none
abbrev o15 : Type := List Int
def ret15 : o15 → CSt := fun b => ([Go.Ev.SV.agg (Go.Ev.pkS Go.IntKind.u8 b (32 : Nat))], [])
def retK15 {R : Type} (K : CSt → Option R) : o15 → Option R := fun b => K (([Go.Ev.SV.agg (Go.Ev.pkS Go.IntKind.u8 b (32 : Nat))], []))
theorem retK15_eq {R : Type} (K : CSt → Option R) (b : o15) : retK15 K b = K (ret15 b) := rfl
abbrev Sd15 (f : i15 → Option o15) : Prop := ∀ a b, f a = some b → CallOk Try.prog 15 (enc15 a) (ret15 b)
def ent15 (f : i15 → Option o15) : Ent := mkEnt 15 dec15 ret15 retK15 retK15_eq f
def ann15 : Nat → List Nat × List Nat := fun id => ([], [])
def br15 : FuncId → Bool := fun (g : Nat) => ([30] : List Nat).any (Nat.beq g)
def ar15 : TypeId → Bool := fun (t : Nat) => ([29, 30, 54, 57] : List Nat).any (Nat.beq t)
noncomputable def t15 {R : Type} (sh : Sh) (f31 : i31 → Option o31) (f30 : i30 → Option o30) (x1 : Int) (x2 : Rows) (k : o15 → Option R) : Option R :=
  sh (List.replicate (32 : Nat) [Go.Ev.DL.int Go.IntKind.u8 (0 : Int)] : Rows) fun y1 =>
  sh (List.replicate (32 : Nat) [Go.Ev.DL.int Go.IntKind.u8 (0 : Int)] : Rows) fun y2 =>
  (f31 (x1, x2)).bind fun (r3 : Int × Int × Int × Int × Int) =>
  bif Decidable.decide (List.length y2 = (32 : Nat)) then
    (f30 (Prod.fst r3, Prod.fst r3.2, Prod.fst (Prod.snd r3).2, Prod.fst (Prod.snd (Prod.snd r3)).2, Prod.snd (Prod.snd (Prod.snd r3)).2, y2)).bind fun (r4 : Rows) =>
    bif Decidable.decide (List.length r4 = (32 : Nat)) then
      bif Decidable.decide (List.length y1 = (32 : Nat)) then
        sh (Go.Ev.colD (Go.Ev.mapD Go.IntKind.u8 (Go.Ev.colI r4 (32 : Nat))) : Rows) fun y5 =>
        bif Decidable.decide (List.length y5 = (32 : Nat)) then
          k (Go.Ev.colI y5 (32 : Nat))
        else none
      else none
    else none
  else none
theorem t15_eq {R : Type} (sh : Sh) (hsh : ∀ {α R : Type} (x : α) (K : α → Option R), sh x K = K x) (f31 : i31 → Option o31) (f30 : i30 → Option o30) (x1 : Int) (x2 : Rows) (K : CSt → Option R) : bodyK Try.prog (tabO sh hsh br15 ar15 [ent31 f31, ent30 f30]) (tabL []) ann15 false Try.f15 (enc15 (x1, x2)) K = t15 sh f31 f30 x1 x2 (retK15 K) := by kernel_rfl
theorem t15_law {R : Type} (f31 : i31 → Option o31) (f30 : i30 → Option o30) (x1 : Int) (x2 : Rows) (K : o15 → Option R) : t15 sh0 f31 f30 x1 x2 K = (t15 sh0 f31 f30 x1 x2 some).bind K := by
  simp only [t15, sh0, cond_bind', two_bind, none_bind', Option.bind_assoc, Option.bind_some]
theorem ok15 (f31 : i31 → Option o31) (f30 : i30 → Option o30) (hf31 : Sd31 f31) (hf30 : Sd30 f30) : Sd15 (fun a => t15 sh0 f31 f30 a.1 a.2 some) := by
  intro a b h
  refine call_ok (sh := sh0) (hsh := fun _ _ => rfl) (br := br15) (ar := ar15) (own := false) Try.mixed Try.func15 (by kernel_rfl) (.cons (mkEnt_ok hf31) (.cons (mkEnt_ok hf30) .nil)) (fun nt => .nil) ((t15_eq sh0 (fun _ _ => rfl) f31 f30 a.1 a.2 _).trans ?_)
  rw [t15_law]
  simp only at h
  rw [h, Option.bind_some, retK15_eq]

/-! 17 erasure/digest.Format -/
abbrev i17 : Type := List Int
def enc17 : i17 → CSt := fun a => ([Go.Ev.SV.agg (Go.Ev.pkS Go.IntKind.u8 a (32 : Nat))], [])
def dec17 : (c : CSt) → Option { a : i17 // c = enc17 a }
  | ([Go.Ev.SV.agg [Go.Ev.SL.d (Go.Ev.DL.int Go.IntKind.u8 x1_0), Go.Ev.SL.d (Go.Ev.DL.int Go.IntKind.u8 x1_1), Go.Ev.SL.d (Go.Ev.DL.int Go.IntKind.u8 x1_2), Go.Ev.SL.d (Go.Ev.DL.int Go.IntKind.u8 x1_3), Go.Ev.SL.d (Go.Ev.DL.int Go.IntKind.u8 x1_4), Go.Ev.SL.d (Go.Ev.DL.int Go.IntKind.u8 x1_5), Go.Ev.SL.d (Go.Ev.DL.int Go.IntKind.u8 x1_6), Go.Ev.SL.d (Go.Ev.DL.int Go.IntKind.u8 x1_7), Go.Ev.SL.d (Go.Ev.DL.int Go.IntKind.u8 x1_8), Go.Ev.SL.d (Go.Ev.DL.int Go.IntKind.u8 x1_9), Go.Ev.SL.d (Go.Ev.DL.int Go.IntKind.u8 x1_10), Go.Ev.SL.d (Go.Ev.DL.int Go.IntKind.u8 x1_11), Go.Ev.SL.d (Go.Ev.DL.int Go.IntKind.u8 x1_12), Go.Ev.SL.d (Go.Ev.DL.int Go.IntKind.u8 x1_13), Go.Ev.SL.d (Go.Ev.DL.int Go.IntKind.u8 x1_14), Go.Ev.SL.d (Go.Ev.DL.int Go.IntKind.u8 x1_15), Go.Ev.SL.d (Go.Ev.DL.int Go.IntKind.u8 x1_16), Go.Ev.SL.d (Go.Ev.DL.int Go.IntKind.u8 x1_17), Go.Ev.SL.d (Go.Ev.DL.int Go.IntKind.u8 x1_18), Go.Ev.SL.d (Go.Ev.DL.int Go.IntKind.u8 x1_19), Go.Ev.SL.d (Go.Ev.DL.int Go.IntKind.u8 x1_20), Go.Ev.SL.d (Go.Ev.DL.int Go.IntKind.u8 x1_21), Go.Ev.SL.d (Go.Ev.DL.int Go.IntKind.u8 x1_22), Go.Ev.SL.d (Go.Ev.DL.int Go.IntKind.u8 x1_23), Go.Ev.SL.d (Go.Ev.DL.int Go.IntKind.u8 x1_24), Go.Ev.SL.d (Go.Ev.DL.int Go.IntKind.u8 x1_25), Go.Ev.SL.d (Go.Ev.DL.int Go.IntKind.u8 x1_26), Go.Ev.SL.d (Go.Ev.DL.int Go.IntKind.u8 x1_27), Go.Ev.SL.d (Go.Ev.DL.int Go.IntKind.u8 x1_28), Go.Ev.SL.d (Go.Ev.DL.int Go.IntKind.u8 x1_29), Go.Ev.SL.d (Go.Ev.DL.int Go.IntKind.u8 x1_30), Go.Ev.SL.d (Go.Ev.DL.int Go.IntKind.u8 x1_31)]], []) => some ⟨[x1_0, x1_1, x1_2, x1_3, x1_4, x1_5, x1_6, x1_7, x1_8, x1_9, x1_10, x1_11, x1_12, x1_13, x1_14, x1_15, x1_16, x1_17, x1_18, x1_19, x1_20, x1_21, x1_22, x1_23, x1_24, x1_25, x1_26, x1_27, x1_28, x1_29, x1_30, x1_31], rfl⟩
  | _ => none
abbrev o17 : Type := ByteArray
def ret17 : o17 → CSt := fun b => ([Go.Ev.SV.one (Go.Ev.SL.d (Go.Ev.DL.str b))], [])
def retK17 {R : Type} (K : CSt → Option R) : o17 → Option R := fun b => K (([Go.Ev.SV.one (Go.Ev.SL.d (Go.Ev.DL.str b))], []))
theorem retK17_eq {R : Type} (K : CSt → Option R) (b : o17) : retK17 K b = K (ret17 b) := rfl
abbrev Sd17 (f : i17 → Option o17) : Prop := ∀ a b, f a = some b → CallOk Try.prog 17 (enc17 a) (ret17 b)
def ent17 (f : i17 → Option o17) : Ent := mkEnt 17 dec17 ret17 retK17 retK17_eq f
def ann17 : Nat → List Nat × List Nat := fun id => bif Nat.beq id 3 then ([1, 3, 4], [3]) else ([], [])
def br17 : FuncId → Bool := fun (g : Nat) => ([30] : List Nat).any (Nat.beq g)
def ar17 : TypeId → Bool := fun (t : Nat) => ([29, 30, 54, 57] : List Nat).any (Nat.beq t)
abbrev iL17_3 : Type := Int × Rows × Rows
def encL17_3 : iL17_3 → CSt := fun a => ([Go.Ev.SV.one (Go.Ev.SL.ept (0 : Nat) (0 : Nat) (0 : Nat)), Go.Ev.SV.one (Go.Ev.SL.ept (1 : Nat) (0 : Nat) (0 : Nat)), Go.Ev.SV.one (Go.Ev.SL.d (Go.Ev.DL.int Go.IntKind.i64 a.1))], [Go.Ev.Obj.vec (5 : Nat) Bool.false a.2.1, Go.Ev.Obj.vec (5 : Nat) Bool.false a.2.2])
def decL17_3 : (c : CSt) → Option { a : iL17_3 // c = encL17_3 a }
  | ([Go.Ev.SV.one (Go.Ev.SL.ept (0 : Nat) (0 : Nat) (0 : Nat)), Go.Ev.SV.one (Go.Ev.SL.ept (1 : Nat) (0 : Nat) (0 : Nat)), Go.Ev.SV.one (Go.Ev.SL.d (Go.Ev.DL.int Go.IntKind.i64 x1))], [Go.Ev.Obj.vec (5 : Nat) Bool.false x2, Go.Ev.Obj.vec (5 : Nat) Bool.false x3]) => some ⟨(x1, x2, x3), rfl⟩
  | _ => none
abbrev oL17_3 : Type := Rows
def retL17_3 : oL17_3 → Ex × CSt := fun b => (Go.Ev.Ex.exit (0 : Nat), ([Go.Ev.SV.one (Go.Ev.SL.ept (0 : Nat) (0 : Nat) (0 : Nat))], [Go.Ev.Obj.vec (5 : Nat) Bool.false b]))
def retKL17_3 {R : Type} (K : Ex → CSt → Option R) : oL17_3 → Option R := fun b => K (Go.Ev.Ex.exit (0 : Nat)) (([Go.Ev.SV.one (Go.Ev.SL.ept (0 : Nat) (0 : Nat) (0 : Nat))], [Go.Ev.Obj.vec (5 : Nat) Bool.false b]))
theorem retKL17_3_eq {R : Type} (K : Ex → CSt → Option R) (b : oL17_3) : retKL17_3 K b = K (retL17_3 b).1 (retL17_3 b).2 := rfl
def entL17_3 (l : iL17_3 → Option oL17_3) : LEnt := mkLEnt 3 decL17_3 retL17_3 retKL17_3 retKL17_3_eq l
abbrev SdL17_3 (l : iL17_3 → Option oL17_3) : Prop := ∀ nt a b, l a = some b → LoopAt Try.prog nt 0 ann17 Try.f17 3 (encL17_3 a) (retL17_3 b)
noncomputable def u17_3 {R : Type} (sh : Sh) (l17_3 : iL17_3 → Option oL17_3) (x1 : Int) (x2 : Rows) (x3 : Rows) (k : oL17_3 → Option R) : Option R :=
  bif Decidable.decide (x1 < (32 : Int)) then
    bif Decidable.decide ((0 : Int) ≤ x1 ∧ x1 < (32 : Int)) then
      bif Decidable.decide (Int.toNat x1 < List.length x2) then
        sh (Go.Ev.DL.getI (Go.Ev.cellAt x2 (Int.toNat x1) (0 : Nat))) fun y3 =>
        bif Decidable.decide ((0 : Int) ≤ Int.fdiv y3 (16 : Int) ∧ Int.fdiv y3 (16 : Int) < (16 : Int)) then
          sh ((↑(UInt8.toNat (List.getD [(48 : UInt8), (49 : UInt8), (50 : UInt8), (51 : UInt8), (52 : UInt8), (53 : UInt8), (54 : UInt8), (55 : UInt8), (56 : UInt8), (57 : UInt8), (97 : UInt8), (98 : UInt8), (99 : UInt8), (100 : UInt8), (101 : UInt8), (102 : UInt8)] (Int.toNat (Int.fdiv y3 (16 : Int))) (0 : UInt8))) : Int)) fun y4 =>
          bif Decidable.decide ((0 : Int) ≤ Go.IntKind.wrap Go.IntKind.i64 ((2 : Int) * x1) ∧ Go.IntKind.wrap Go.IntKind.i64 ((2 : Int) * x1) < (64 : Int)) then
            bif Decidable.decide (Int.toNat (Go.IntKind.wrap Go.IntKind.i64 ((2 : Int) * x1)) < List.length x3) then
              sh (List.set x3 (Int.toNat (Go.IntKind.wrap Go.IntKind.i64 ((2 : Int) * x1))) [Go.Ev.DL.int Go.IntKind.u8 y4] : Rows) fun y5 =>
              bif Decidable.decide ((0 : Int) ≤ x1 ∧ x1 < (32 : Int)) then
                bif Decidable.decide (Int.toNat x1 < List.length x2) then
                  sh (Go.Ev.DL.getI (Go.Ev.cellAt x2 (Int.toNat x1) (0 : Nat))) fun y6 =>
                  sh (Go.IntKind.wrap Go.IntKind.u8 (↑(BitVec.toNat (BitVec.ofInt (8 : Nat) y6 &&& BitVec.ofInt (8 : Nat) (15 : Int))) : Int)) fun y7 =>
                  bif Decidable.decide ((0 : Int) ≤ y7 ∧ y7 < (16 : Int)) then
                    sh ((↑(UInt8.toNat (List.getD [(48 : UInt8), (49 : UInt8), (50 : UInt8), (51 : UInt8), (52 : UInt8), (53 : UInt8), (54 : UInt8), (55 : UInt8), (56 : UInt8), (57 : UInt8), (97 : UInt8), (98 : UInt8), (99 : UInt8), (100 : UInt8), (101 : UInt8), (102 : UInt8)] (Int.toNat y7) (0 : UInt8))) : Int)) fun y8 =>
                    bif Decidable.decide ((0 : Int) ≤ Go.IntKind.wrap Go.IntKind.i64 (Go.IntKind.wrap Go.IntKind.i64 ((2 : Int) * x1) + (1 : Int)) ∧ Go.IntKind.wrap Go.IntKind.i64 (Go.IntKind.wrap Go.IntKind.i64 ((2 : Int) * x1) + (1 : Int)) < (64 : Int)) then
                      bif Decidable.decide (Int.toNat (Go.IntKind.wrap Go.IntKind.i64 (Go.IntKind.wrap Go.IntKind.i64 ((2 : Int) * x1) + (1 : Int))) < List.length y5) then
                        sh (List.set y5 (Int.toNat (Go.IntKind.wrap Go.IntKind.i64 (Go.IntKind.wrap Go.IntKind.i64 ((2 : Int) * x1) + (1 : Int)))) [Go.Ev.DL.int Go.IntKind.u8 y8] : Rows) fun y9 =>
                        (l17_3 (Go.IntKind.wrap Go.IntKind.i64 (x1 + (1 : Int)), x2, y9)).bind k
                      else none
                    else none
                  else none
                else none
              else none
            else none
          else none
        else none
      else none
    else none
  else
    k (x3)
theorem u17_3_eq {R : Type} (sh : Sh) (hsh : ∀ {α R : Type} (x : α) (K : α → Option R), sh x K = K x) (l17_3 : iL17_3 → Option oL17_3) (x1 : Int) (x2 : Rows) (x3 : Rows) (K : Ex → CSt → Option R) : roundK Try.prog (tabO sh hsh br17 ar17 []) (tabL [entL17_3 l17_3]) ann17 0 Try.f17 3 (encL17_3 (x1, x2, x3)) K = u17_3 sh l17_3 x1 x2 x3 (retKL17_3 K) := by kernel_rfl
theorem u17_3_law {R : Type} (l17_3 : iL17_3 → Option oL17_3) (x1 : Int) (x2 : Rows) (x3 : Rows) (K : oL17_3 → Option R) : u17_3 sh0 l17_3 x1 x2 x3 K = (u17_3 sh0 l17_3 x1 x2 x3 some).bind K := by
  simp only [u17_3, sh0, cond_bind', two_bind, none_bind', Option.bind_assoc, Option.bind_some]
theorem okL17_3 (l17_3 : iL17_3 → Option oL17_3) (hl17_3 : SdL17_3 l17_3) : SdL17_3 (fun a => u17_3 sh0 l17_3 a.1 a.2.1 a.2.2 some) := by
  intro nt a b h
  refine round_ok (sh := sh0) (hsh := fun _ _ => rfl) (br := br17) (ar := ar17) Try.mixed (by kernel_rfl) .nil (.cons (mkLEnt_ok (hl17_3 nt)) .nil) ((u17_3_eq sh0 (fun _ _ => rfl) l17_3  a.1 a.2.1 a.2.2 _).trans ?_)
  rw [u17_3_law]
  simp only at h
  rw [h, Option.bind_some, retKL17_3_eq]
noncomputable def t17 {R : Type} (sh : Sh) (l17_3 : iL17_3 → Option oL17_3) (x1 : List Int) (k : o17 → Option R) : Option R :=
  sh (Go.Ev.colD (Go.Ev.mapD Go.IntKind.u8 (Go.Ev.pkL x1 (32 : Nat))) : Rows) fun y1 =>
  sh (List.replicate (64 : Nat) [Go.Ev.DL.int Go.IntKind.u8 (0 : Int)] : Rows) fun y2 =>
  (l17_3 ((0 : Int), y1, y2)).bind fun (r10 : Rows) =>
  bif Decidable.decide (List.length r10 = (64 : Nat)) then
    sh (Go.Ev.strOfBytes r10) fun y11 =>
    k (y11)
  else none
theorem t17_eq {R : Type} (sh : Sh) (hsh : ∀ {α R : Type} (x : α) (K : α → Option R), sh x K = K x) (l17_3 : iL17_3 → Option oL17_3) (x1 : List Int) (K : CSt → Option R) : bodyK Try.prog (tabO sh hsh br17 ar17 []) (tabL [entL17_3 l17_3]) ann17 false Try.f17 (enc17 x1) K = t17 sh l17_3 x1 (retK17 K) := by kernel_rfl
theorem t17_law {R : Type} (l17_3 : iL17_3 → Option oL17_3) (x1 : List Int) (K : o17 → Option R) : t17 sh0 l17_3 x1 K = (t17 sh0 l17_3 x1 some).bind K := by
  simp only [t17, sh0, cond_bind', two_bind, none_bind', Option.bind_assoc, Option.bind_some]
theorem ok17 (l17_3 : iL17_3 → Option oL17_3) (hl17_3 : SdL17_3 l17_3) : Sd17 (fun a => t17 sh0 l17_3 a some) := by
  intro a b h
  refine call_ok (sh := sh0) (hsh := fun _ _ => rfl) (br := br17) (ar := ar17) (own := false) Try.mixed Try.func17 (by kernel_rfl) .nil (fun nt => (.cons (mkLEnt_ok (hl17_3 nt)) .nil)) ((t17_eq sh0 (fun _ _ => rfl) l17_3 a _).trans ?_)
  rw [t17_law]
  simp only at h
  rw [h, Option.bind_some, retK17_eq]

/-! 34 erasure/digest.nibble -/
abbrev i34 : Type := Int
def enc34 : i34 → CSt := fun a => ([Go.Ev.SV.one (Go.Ev.SL.d (Go.Ev.DL.int Go.IntKind.u8 a))], [])
def dec34 : (c : CSt) → Option { a : i34 // c = enc34 a }
  | ([Go.Ev.SV.one (Go.Ev.SL.d (Go.Ev.DL.int Go.IntKind.u8 x1))], []) => some ⟨x1, rfl⟩
  | _ => none
abbrev o34 : Type := Int
def ret34 : o34 → CSt := fun b => ([Go.Ev.SV.one (Go.Ev.SL.d (Go.Ev.DL.int Go.IntKind.i64 b))], [])
def retK34 {R : Type} (K : CSt → Option R) : o34 → Option R := fun b => K (([Go.Ev.SV.one (Go.Ev.SL.d (Go.Ev.DL.int Go.IntKind.i64 b))], []))
theorem retK34_eq {R : Type} (K : CSt → Option R) (b : o34) : retK34 K b = K (ret34 b) := rfl
abbrev Sd34 (f : i34 → Option o34) : Prop := ∀ a b, f a = some b → CallOk Try.prog 34 (enc34 a) (ret34 b)
def ent34 (f : i34 → Option o34) : Ent := mkEnt 34 dec34 ret34 retK34 retK34_eq f
def ann34 : Nat → List Nat × List Nat := fun id => ([], [])
def br34 : FuncId → Bool := fun (g : Nat) => ([30] : List Nat).any (Nat.beq g)
def ar34 : TypeId → Bool := fun (t : Nat) => ([29, 30, 54, 57] : List Nat).any (Nat.beq t)
noncomputable def t34 {R : Type} (sh : Sh) (x1 : Int) (k : o34 → Option R) : Option R :=
  bif Decidable.decide (x1 ≥ (48 : Int)) then
    bif Decidable.decide (x1 ≤ (57 : Int)) then
      k (Go.IntKind.wrap Go.IntKind.i64 (Go.IntKind.wrap Go.IntKind.u8 (x1 - (48 : Int))))
    else
      bif Decidable.decide (x1 ≥ (97 : Int)) then
        bif Decidable.decide (x1 ≤ (102 : Int)) then
          k (Go.IntKind.wrap Go.IntKind.i64 (Go.IntKind.wrap Go.IntKind.i64 (Go.IntKind.wrap Go.IntKind.u8 (x1 - (97 : Int))) + (10 : Int)))
        else
          k ((-1 : Int))
      else
        k ((-1 : Int))
  else
    bif Decidable.decide (x1 ≥ (97 : Int)) then
      bif Decidable.decide (x1 ≤ (102 : Int)) then
        k (Go.IntKind.wrap Go.IntKind.i64 (Go.IntKind.wrap Go.IntKind.i64 (Go.IntKind.wrap Go.IntKind.u8 (x1 - (97 : Int))) + (10 : Int)))
      else
        k ((-1 : Int))
    else
      k ((-1 : Int))
theorem t34_eq {R : Type} (sh : Sh) (hsh : ∀ {α R : Type} (x : α) (K : α → Option R), sh x K = K x) (x1 : Int) (K : CSt → Option R) : bodyK Try.prog (tabO sh hsh br34 ar34 []) (tabL []) ann34 false Try.f34 (enc34 x1) K = t34 sh x1 (retK34 K) := by kernel_rfl
theorem t34_law {R : Type} (x1 : Int) (K : o34 → Option R) : t34 sh0 x1 K = (t34 sh0 x1 some).bind K := by
  simp only [t34, sh0, cond_bind', two_bind, none_bind', Option.bind_assoc, Option.bind_some]
theorem ok34 : Sd34 (fun a => t34 sh0 a some) := by
  intro a b h
  refine call_ok (sh := sh0) (hsh := fun _ _ => rfl) (br := br34) (ar := ar34) (own := false) Try.mixed Try.func34 (by kernel_rfl) .nil (fun nt => .nil) ((t34_eq sh0 (fun _ _ => rfl) a _).trans ?_)
  rw [t34_law]
  simp only at h
  rw [h, Option.bind_some, retK34_eq]

/-! 18 erasure/digest.Parse -/
abbrev i18 : Type := ByteArray
def enc18 : i18 → CSt := fun a => ([Go.Ev.SV.one (Go.Ev.SL.d (Go.Ev.DL.str a))], [])
def dec18 : (c : CSt) → Option { a : i18 // c = enc18 a }
  | ([Go.Ev.SV.one (Go.Ev.SL.d (Go.Ev.DL.str x1))], []) => some ⟨x1, rfl⟩
  | _ => none
abbrev o18 : Type := List Int × Int
def ret18 : o18 → CSt := fun b => ([Go.Ev.SV.agg (Go.Ev.pkS Go.IntKind.u8 b.1 (32 : Nat)), Go.Ev.SV.one (Go.Ev.SL.d (Go.Ev.DL.int Go.IntKind.i64 b.2))], [])
def retK18 {R : Type} (K : CSt → Option R) : o18 → Option R := fun b => K (([Go.Ev.SV.agg (Go.Ev.pkS Go.IntKind.u8 b.1 (32 : Nat)), Go.Ev.SV.one (Go.Ev.SL.d (Go.Ev.DL.int Go.IntKind.i64 b.2))], []))
theorem retK18_eq {R : Type} (K : CSt → Option R) (b : o18) : retK18 K b = K (ret18 b) := rfl
abbrev Sd18 (f : i18 → Option o18) : Prop := ∀ a b, f a = some b → CallOk Try.prog 18 (enc18 a) (ret18 b)
def ent18 (f : i18 → Option o18) : Ent := mkEnt 18 dec18 ret18 retK18 retK18_eq f
def ann18 : Nat → List Nat × List Nat := fun id => bif Nat.beq id 5 then ([0, 2, 4, 5], [2, 3, 4]) else ([], [])
def br18 : FuncId → Bool := fun (g : Nat) => ([30] : List Nat).any (Nat.beq g)
def ar18 : TypeId → Bool := fun (t : Nat) => ([29, 30, 54, 57] : List Nat).any (Nat.beq t)
abbrev iL18_5 : Type := ByteArray × Int × Rows × Rows
def encL18_5 : iL18_5 → CSt := fun a => ([Go.Ev.SV.one (Go.Ev.SL.d (Go.Ev.DL.str a.1)), Go.Ev.SV.one (Go.Ev.SL.ept (0 : Nat) (0 : Nat) (0 : Nat)), Go.Ev.SV.one (Go.Ev.SL.ept (1 : Nat) (0 : Nat) (0 : Nat)), Go.Ev.SV.one (Go.Ev.SL.d (Go.Ev.DL.int Go.IntKind.i64 a.2.1))], [Go.Ev.Obj.vec (5 : Nat) Bool.false a.2.2.1, Go.Ev.Obj.vec (5 : Nat) Bool.false a.2.2.2])
def decL18_5 : (c : CSt) → Option { a : iL18_5 // c = encL18_5 a }
  | ([Go.Ev.SV.one (Go.Ev.SL.d (Go.Ev.DL.str x1)), Go.Ev.SV.one (Go.Ev.SL.ept (0 : Nat) (0 : Nat) (0 : Nat)), Go.Ev.SV.one (Go.Ev.SL.ept (1 : Nat) (0 : Nat) (0 : Nat)), Go.Ev.SV.one (Go.Ev.SL.d (Go.Ev.DL.int Go.IntKind.i64 x2))], [Go.Ev.Obj.vec (5 : Nat) Bool.false x3, Go.Ev.Obj.vec (5 : Nat) Bool.false x4]) => some ⟨(x1, x2, x3, x4), rfl⟩
  | _ => none
abbrev oL18_5 : Type := (Int × Rows × Rows) ⊕ (Rows × Rows)
def retL18_5 : oL18_5 → Ex × CSt := two (fun b => (Go.Ev.Ex.ret, ([Go.Ev.SV.one (Go.Ev.SL.ept (0 : Nat) (0 : Nat) (0 : Nat)), Go.Ev.SV.one (Go.Ev.SL.d (Go.Ev.DL.int Go.IntKind.i64 b.1)), Go.Ev.SV.one (Go.Ev.SL.ept (1 : Nat) (0 : Nat) (0 : Nat))], [Go.Ev.Obj.vec (5 : Nat) Bool.false b.2.1, Go.Ev.Obj.vec (5 : Nat) Bool.false b.2.2]))) (fun b => (Go.Ev.Ex.exit (0 : Nat), ([Go.Ev.SV.one (Go.Ev.SL.ept (0 : Nat) (0 : Nat) (0 : Nat)), Go.Ev.SV.one Go.Ev.SL.un, Go.Ev.SV.one (Go.Ev.SL.ept (1 : Nat) (0 : Nat) (0 : Nat))], [Go.Ev.Obj.vec (5 : Nat) Bool.false b.1, Go.Ev.Obj.vec (5 : Nat) Bool.false b.2])))
def retKL18_5 {R : Type} (K : Ex → CSt → Option R) : oL18_5 → Option R := two (fun b => K (Go.Ev.Ex.ret) (([Go.Ev.SV.one (Go.Ev.SL.ept (0 : Nat) (0 : Nat) (0 : Nat)), Go.Ev.SV.one (Go.Ev.SL.d (Go.Ev.DL.int Go.IntKind.i64 b.1)), Go.Ev.SV.one (Go.Ev.SL.ept (1 : Nat) (0 : Nat) (0 : Nat))], [Go.Ev.Obj.vec (5 : Nat) Bool.false b.2.1, Go.Ev.Obj.vec (5 : Nat) Bool.false b.2.2]))) (fun b => K (Go.Ev.Ex.exit (0 : Nat)) (([Go.Ev.SV.one (Go.Ev.SL.ept (0 : Nat) (0 : Nat) (0 : Nat)), Go.Ev.SV.one Go.Ev.SL.un, Go.Ev.SV.one (Go.Ev.SL.ept (1 : Nat) (0 : Nat) (0 : Nat))], [Go.Ev.Obj.vec (5 : Nat) Bool.false b.1, Go.Ev.Obj.vec (5 : Nat) Bool.false b.2])))
theorem retKL18_5_eq {R : Type} (K : Ex → CSt → Option R) (b : oL18_5) : retKL18_5 K b = K (retL18_5 b).1 (retL18_5 b).2 := by
  unfold retKL18_5 retL18_5
  repeat' (first | rfl | cases b with | inl b => rfl | inr b => ?_)
def entL18_5 (l : iL18_5 → Option oL18_5) : LEnt := mkLEnt 5 decL18_5 retL18_5 retKL18_5 retKL18_5_eq l
abbrev SdL18_5 (l : iL18_5 → Option oL18_5) : Prop := ∀ nt a b, l a = some b → LoopAt Try.prog nt 0 ann18 Try.f18 5 (encL18_5 a) (retL18_5 b)
noncomputable def u18_5 {R : Type} (sh : Sh) (f34 : i34 → Option o34) (l18_5 : iL18_5 → Option oL18_5) (x1 : ByteArray) (x2 : Int) (x3 : Rows) (x4 : Rows) (k : oL18_5 → Option R) : Option R :=
  bif Decidable.decide (x2 < (64 : Int)) then
    bif Decidable.decide ((0 : Int) ≤ x2 ∧ x2 < (↑(ByteArray.size x1) : Int)) then
      sh ((↑(UInt8.toNat (List.getD (Array.toList (ByteArray.data x1)) (Int.toNat x2) (0 : UInt8))) : Int)) fun y5 =>
      (f34 (y5)).bind fun (r6 : Int) =>
      bif Decidable.decide (r6 < (0 : Int)) then
        bif Decidable.decide (List.length x3 = (32 : Nat)) then
          sh (List.replicate (32 : Nat) [Go.Ev.DL.int Go.IntKind.u8 (0 : Int)] : Rows) fun y7 =>
          k ((.inl ((2 : Int), y7, x4)))
        else none
      else
        bif Decidable.decide ((0 : Int) ≤ Go.IntKind.wrap Go.IntKind.i64 (Int.tdiv x2 (2 : Int)) ∧ Go.IntKind.wrap Go.IntKind.i64 (Int.tdiv x2 (2 : Int)) < (32 : Int)) then
          bif Decidable.decide (Int.toNat (Go.IntKind.wrap Go.IntKind.i64 (Int.tdiv x2 (2 : Int))) < List.length x4) then
            sh (Go.Ev.DL.getI (Go.Ev.cellAt x4 (Int.toNat (Go.IntKind.wrap Go.IntKind.i64 (Int.tdiv x2 (2 : Int)))) (0 : Nat))) fun y8 =>
            sh (Go.IntKind.wrap Go.IntKind.u8 (↑(BitVec.toNat (BitVec.ofInt (8 : Nat) (Go.IntKind.wrap Go.IntKind.u8 (y8 * (16 : Int))) ||| BitVec.ofInt (8 : Nat) (Go.IntKind.wrap Go.IntKind.u8 r6))) : Int)) fun y9 =>
            bif Decidable.decide ((0 : Int) ≤ Go.IntKind.wrap Go.IntKind.i64 (Int.tdiv x2 (2 : Int)) ∧ Go.IntKind.wrap Go.IntKind.i64 (Int.tdiv x2 (2 : Int)) < (32 : Int)) then
              bif Decidable.decide (Int.toNat (Go.IntKind.wrap Go.IntKind.i64 (Int.tdiv x2 (2 : Int))) < List.length x4) then
                sh (List.set x4 (Int.toNat (Go.IntKind.wrap Go.IntKind.i64 (Int.tdiv x2 (2 : Int)))) [Go.Ev.DL.int Go.IntKind.u8 y9] : Rows) fun y10 =>
                (l18_5 (x1, Go.IntKind.wrap Go.IntKind.i64 (x2 + (1 : Int)), x3, y10)).bind k
              else none
            else none
          else none
        else none
    else none
  else
    k ((.inr (x3, x4)))
theorem u18_5_eq {R : Type} (sh : Sh) (hsh : ∀ {α R : Type} (x : α) (K : α → Option R), sh x K = K x) (f34 : i34 → Option o34) (l18_5 : iL18_5 → Option oL18_5) (x1 : ByteArray) (x2 : Int) (x3 : Rows) (x4 : Rows) (K : Ex → CSt → Option R) : roundK Try.prog (tabO sh hsh br18 ar18 [ent34 f34]) (tabL [entL18_5 l18_5]) ann18 0 Try.f18 5 (encL18_5 (x1, x2, x3, x4)) K = u18_5 sh f34 l18_5 x1 x2 x3 x4 (retKL18_5 K) := by kernel_rfl
theorem u18_5_law {R : Type} (f34 : i34 → Option o34) (l18_5 : iL18_5 → Option oL18_5) (x1 : ByteArray) (x2 : Int) (x3 : Rows) (x4 : Rows) (K : oL18_5 → Option R) : u18_5 sh0 f34 l18_5 x1 x2 x3 x4 K = (u18_5 sh0 f34 l18_5 x1 x2 x3 x4 some).bind K := by
  simp only [u18_5, sh0, cond_bind', two_bind, none_bind', Option.bind_assoc, Option.bind_some]
theorem okL18_5 (f34 : i34 → Option o34) (l18_5 : iL18_5 → Option oL18_5) (hf34 : Sd34 f34) (hl18_5 : SdL18_5 l18_5) : SdL18_5 (fun a => u18_5 sh0 f34 l18_5 a.1 a.2.1 a.2.2.1 a.2.2.2 some) := by
  intro nt a b h
  refine round_ok (sh := sh0) (hsh := fun _ _ => rfl) (br := br18) (ar := ar18) Try.mixed (by kernel_rfl) (.cons (mkEnt_ok hf34) .nil) (.cons (mkLEnt_ok (hl18_5 nt)) .nil) ((u18_5_eq sh0 (fun _ _ => rfl) f34 l18_5  a.1 a.2.1 a.2.2.1 a.2.2.2 _).trans ?_)
  rw [u18_5_law]
  simp only at h
  rw [h, Option.bind_some, retKL18_5_eq]
noncomputable def t18 {R : Type} (sh : Sh) (l18_5 : iL18_5 → Option oL18_5) (x1 : ByteArray) (k : o18 → Option R) : Option R :=
  sh (List.replicate (32 : Nat) [Go.Ev.DL.int Go.IntKind.u8 (0 : Int)] : Rows) fun y1 =>
  sh (List.replicate (32 : Nat) [Go.Ev.DL.int Go.IntKind.u8 (0 : Int)] : Rows) fun y2 =>
  sh ((↑(ByteArray.size x1) : Int)) fun y3 =>
  bif y3 != (64 : Int) then
    bif Decidable.decide (List.length y1 = (32 : Nat)) then
      sh (List.replicate (32 : Nat) [Go.Ev.DL.int Go.IntKind.u8 (0 : Int)] : Rows) fun y4 =>
      bif Decidable.decide (List.length y4 = (32 : Nat)) then
        k ((Go.Ev.colI y4 (32 : Nat), (2 : Int)))
      else none
    else none
  else
    (l18_5 (x1, (0 : Int), y1, y2)).bind (two (fun (r11 : Int × Rows × Rows) =>
      bif Decidable.decide (List.length (Prod.fst r11.2) = (32 : Nat)) then
        k ((Go.Ev.colI (Prod.fst r11.2) (32 : Nat), Prod.fst r11))
      else none
    ) (fun (r12 : Rows × Rows) =>
      bif Decidable.decide (List.length (Prod.snd r12) = (32 : Nat)) then
        bif Decidable.decide (List.length (Prod.fst r12) = (32 : Nat)) then
          sh (Go.Ev.colD (Go.Ev.mapD Go.IntKind.u8 (Go.Ev.colI (Prod.snd r12) (32 : Nat))) : Rows) fun y13 =>
          bif Decidable.decide (List.length y13 = (32 : Nat)) then
            k ((Go.Ev.colI y13 (32 : Nat), (0 : Int)))
          else none
        else none
      else none
    ))
theorem t18_eq {R : Type} (sh : Sh) (hsh : ∀ {α R : Type} (x : α) (K : α → Option R), sh x K = K x) (l18_5 : iL18_5 → Option oL18_5) (x1 : ByteArray) (K : CSt → Option R) : bodyK Try.prog (tabO sh hsh br18 ar18 []) (tabL [entL18_5 l18_5]) ann18 false Try.f18 (enc18 x1) K = t18 sh l18_5 x1 (retK18 K) := by kernel_rfl
theorem t18_law {R : Type} (l18_5 : iL18_5 → Option oL18_5) (x1 : ByteArray) (K : o18 → Option R) : t18 sh0 l18_5 x1 K = (t18 sh0 l18_5 x1 some).bind K := by
  simp only [t18, sh0, cond_bind', two_bind, none_bind', Option.bind_assoc, Option.bind_some]
theorem ok18 (l18_5 : iL18_5 → Option oL18_5) (hl18_5 : SdL18_5 l18_5) : Sd18 (fun a => t18 sh0 l18_5 a some) := by
  intro a b h
  refine call_ok (sh := sh0) (hsh := fun _ _ => rfl) (br := br18) (ar := ar18) (own := false) Try.mixed Try.func18 (by kernel_rfl) .nil (fun nt => (.cons (mkLEnt_ok (hl18_5 nt)) .nil)) ((t18_eq sh0 (fun _ _ => rfl) l18_5 a _).trans ?_)
  rw [t18_law]
  simp only at h
  rw [h, Option.bind_some, retK18_eq]

/-! 37 erasure/erasureref25.word -/
abbrev i37 : Type := Rows
def enc37 : i37 → CSt := fun a => ([Go.Ev.SV.one (Go.Ev.SL.d (Go.Ev.DL.lst (5 : Nat) a))], [])
def dec37 : (c : CSt) → Option { a : i37 // c = enc37 a }
  | ([Go.Ev.SV.one (Go.Ev.SL.d (Go.Ev.DL.lst (5 : Nat) x1))], []) => some ⟨x1, rfl⟩
  | _ => none
abbrev o37 : Type := Int
def ret37 : o37 → CSt := fun b => ([Go.Ev.SV.one (Go.Ev.SL.d (Go.Ev.DL.int Go.IntKind.u64 b))], [])
def retK37 {R : Type} (K : CSt → Option R) : o37 → Option R := fun b => K (([Go.Ev.SV.one (Go.Ev.SL.d (Go.Ev.DL.int Go.IntKind.u64 b))], []))
theorem retK37_eq {R : Type} (K : CSt → Option R) (b : o37) : retK37 K b = K (ret37 b) := rfl
abbrev Sd37 (f : i37 → Option o37) : Prop := ∀ a b, f a = some b → CallOk Try.prog 37 (enc37 a) (ret37 b)
def ent37 (f : i37 → Option o37) : Ent := mkEnt 37 dec37 ret37 retK37 retK37_eq f
def ann37 : Nat → List Nat × List Nat := fun id => bif Nat.beq id 3 then ([0, 3, 4], [3]) else ([], [])
def br37 : FuncId → Bool := fun (g : Nat) => ([30] : List Nat).any (Nat.beq g)
def ar37 : TypeId → Bool := fun (t : Nat) => ([29, 30, 54, 57] : List Nat).any (Nat.beq t)
abbrev iL37_3 : Type := Rows × Int × Int
def encL37_3 : iL37_3 → CSt := fun a => ([Go.Ev.SV.one (Go.Ev.SL.d (Go.Ev.DL.lst (5 : Nat) a.1)), Go.Ev.SV.one (Go.Ev.SL.d (Go.Ev.DL.int Go.IntKind.u64 a.2.1)), Go.Ev.SV.one (Go.Ev.SL.d (Go.Ev.DL.int Go.IntKind.i64 a.2.2))], [])
def decL37_3 : (c : CSt) → Option { a : iL37_3 // c = encL37_3 a }
  | ([Go.Ev.SV.one (Go.Ev.SL.d (Go.Ev.DL.lst (5 : Nat) x1)), Go.Ev.SV.one (Go.Ev.SL.d (Go.Ev.DL.int Go.IntKind.u64 x2)), Go.Ev.SV.one (Go.Ev.SL.d (Go.Ev.DL.int Go.IntKind.i64 x3))], []) => some ⟨(x1, x2, x3), rfl⟩
  | _ => none
abbrev oL37_3 : Type := Int
def retL37_3 : oL37_3 → Ex × CSt := fun b => (Go.Ev.Ex.exit (0 : Nat), ([Go.Ev.SV.one (Go.Ev.SL.d (Go.Ev.DL.int Go.IntKind.u64 b))], []))
def retKL37_3 {R : Type} (K : Ex → CSt → Option R) : oL37_3 → Option R := fun b => K (Go.Ev.Ex.exit (0 : Nat)) (([Go.Ev.SV.one (Go.Ev.SL.d (Go.Ev.DL.int Go.IntKind.u64 b))], []))
theorem retKL37_3_eq {R : Type} (K : Ex → CSt → Option R) (b : oL37_3) : retKL37_3 K b = K (retL37_3 b).1 (retL37_3 b).2 := rfl
def entL37_3 (l : iL37_3 → Option oL37_3) : LEnt := mkLEnt 3 decL37_3 retL37_3 retKL37_3 retKL37_3_eq l
abbrev SdL37_3 (l : iL37_3 → Option oL37_3) : Prop := ∀ nt a b, l a = some b → LoopAt Try.prog nt 0 ann37 Try.f37 3 (encL37_3 a) (retL37_3 b)
noncomputable def u37_3 {R : Type} (sh : Sh) (l37_3 : iL37_3 → Option oL37_3) (x1 : Rows) (x2 : Int) (x3 : Int) (k : oL37_3 → Option R) : Option R :=
  bif Decidable.decide (x3 < (8 : Int)) then
    bif Decidable.decide ((0 : Int) ≤ x3 ∧ x3 < (↑(List.length x1) : Int)) then
      sh (Go.Ev.DL.getI (Go.Ev.cellAt x1 (Int.toNat x3) (0 : Nat))) fun y1 =>
      bif Decidable.decide ((0 : Int) ≤ Go.IntKind.wrap Go.IntKind.i64 ((8 : Int) * x3)) then
        sh (Go.IntKind.wrap Go.IntKind.u64 (Go.IntKind.wrap Go.IntKind.u64 y1 * (2 : Int) ^ Min.min (Int.toNat (Go.IntKind.wrap Go.IntKind.i64 ((8 : Int) * x3))) (64 : Nat))) fun y2 =>
        sh (Go.IntKind.wrap Go.IntKind.u64 (↑(BitVec.toNat (BitVec.ofInt (64 : Nat) x2 ||| BitVec.ofInt (64 : Nat) y2)) : Int)) fun y3 =>
        (l37_3 (x1, y3, Go.IntKind.wrap Go.IntKind.i64 (x3 + (1 : Int)))).bind k
      else none
    else none
  else
    k (x2)
theorem u37_3_eq {R : Type} (sh : Sh) (hsh : ∀ {α R : Type} (x : α) (K : α → Option R), sh x K = K x) (l37_3 : iL37_3 → Option oL37_3) (x1 : Rows) (x2 : Int) (x3 : Int) (K : Ex → CSt → Option R) : roundK Try.prog (tabO sh hsh br37 ar37 []) (tabL [entL37_3 l37_3]) ann37 0 Try.f37 3 (encL37_3 (x1, x2, x3)) K = u37_3 sh l37_3 x1 x2 x3 (retKL37_3 K) := by kernel_rfl
theorem u37_3_law {R : Type} (l37_3 : iL37_3 → Option oL37_3) (x1 : Rows) (x2 : Int) (x3 : Int) (K : oL37_3 → Option R) : u37_3 sh0 l37_3 x1 x2 x3 K = (u37_3 sh0 l37_3 x1 x2 x3 some).bind K := by
  simp only [u37_3, sh0, cond_bind', two_bind, none_bind', Option.bind_assoc, Option.bind_some]
theorem okL37_3 (l37_3 : iL37_3 → Option oL37_3) (hl37_3 : SdL37_3 l37_3) : SdL37_3 (fun a => u37_3 sh0 l37_3 a.1 a.2.1 a.2.2 some) := by
  intro nt a b h
  refine round_ok (sh := sh0) (hsh := fun _ _ => rfl) (br := br37) (ar := ar37) Try.mixed (by kernel_rfl) .nil (.cons (mkLEnt_ok (hl37_3 nt)) .nil) ((u37_3_eq sh0 (fun _ _ => rfl) l37_3  a.1 a.2.1 a.2.2 _).trans ?_)
  rw [u37_3_law]
  simp only at h
  rw [h, Option.bind_some, retKL37_3_eq]
noncomputable def t37 {R : Type} (sh : Sh) (l37_3 : iL37_3 → Option oL37_3) (x1 : Rows) (k : o37 → Option R) : Option R :=
  (l37_3 (x1, (0 : Int), (0 : Int))).bind fun (r4 : Int) =>
  k (r4)
theorem t37_eq {R : Type} (sh : Sh) (hsh : ∀ {α R : Type} (x : α) (K : α → Option R), sh x K = K x) (l37_3 : iL37_3 → Option oL37_3) (x1 : Rows) (K : CSt → Option R) : bodyK Try.prog (tabO sh hsh br37 ar37 []) (tabL [entL37_3 l37_3]) ann37 false Try.f37 (enc37 x1) K = t37 sh l37_3 x1 (retK37 K) := by kernel_rfl
theorem t37_law {R : Type} (l37_3 : iL37_3 → Option oL37_3) (x1 : Rows) (K : o37 → Option R) : t37 sh0 l37_3 x1 K = (t37 sh0 l37_3 x1 some).bind K := by
  simp only [t37, sh0, cond_bind', two_bind, none_bind', Option.bind_assoc, Option.bind_some]
theorem ok37 (l37_3 : iL37_3 → Option oL37_3) (hl37_3 : SdL37_3 l37_3) : Sd37 (fun a => t37 sh0 l37_3 a some) := by
  intro a b h
  refine call_ok (sh := sh0) (hsh := fun _ _ => rfl) (br := br37) (ar := ar37) (own := false) Try.mixed Try.func37 (by kernel_rfl) .nil (fun nt => (.cons (mkLEnt_ok (hl37_3 nt)) .nil)) ((t37_eq sh0 (fun _ _ => rfl) l37_3 a _).trans ?_)
  rw [t37_law]
  simp only at h
  rw [h, Option.bind_some, retK37_eq]

/-! 33 erasure/erasureref25.absorb -/
abbrev i33 : Type := Int × Rows
def enc33 : i33 → CSt := fun a => ([Go.Ev.SV.one (Go.Ev.SL.d (Go.Ev.DL.int Go.IntKind.u64 a.1)), Go.Ev.SV.one (Go.Ev.SL.d (Go.Ev.DL.lst (5 : Nat) a.2))], [])
def dec33 : (c : CSt) → Option { a : i33 // c = enc33 a }
  | ([Go.Ev.SV.one (Go.Ev.SL.d (Go.Ev.DL.int Go.IntKind.u64 x1)), Go.Ev.SV.one (Go.Ev.SL.d (Go.Ev.DL.lst (5 : Nat) x2))], []) => some ⟨(x1, x2), rfl⟩
  | _ => none
abbrev o33 : Type := Int × Int × Int × Int × Int
def ret33 : o33 → CSt := fun b => ([Go.Ev.SV.agg [Go.Ev.SL.d (Go.Ev.DL.int Go.IntKind.u64 b.1), Go.Ev.SL.d (Go.Ev.DL.int Go.IntKind.u64 b.2.1), Go.Ev.SL.d (Go.Ev.DL.int Go.IntKind.u64 b.2.2.1), Go.Ev.SL.d (Go.Ev.DL.int Go.IntKind.u64 b.2.2.2.1), Go.Ev.SL.d (Go.Ev.DL.int Go.IntKind.u64 b.2.2.2.2)]], [])
def retK33 {R : Type} (K : CSt → Option R) : o33 → Option R := fun b => K (([Go.Ev.SV.agg [Go.Ev.SL.d (Go.Ev.DL.int Go.IntKind.u64 b.1), Go.Ev.SL.d (Go.Ev.DL.int Go.IntKind.u64 b.2.1), Go.Ev.SL.d (Go.Ev.DL.int Go.IntKind.u64 b.2.2.1), Go.Ev.SL.d (Go.Ev.DL.int Go.IntKind.u64 b.2.2.2.1), Go.Ev.SL.d (Go.Ev.DL.int Go.IntKind.u64 b.2.2.2.2)]], []))
theorem retK33_eq {R : Type} (K : CSt → Option R) (b : o33) : retK33 K b = K (ret33 b) := rfl
abbrev Sd33 (f : i33 → Option o33) : Prop := ∀ a b, f a = some b → CallOk Try.prog 33 (enc33 a) (ret33 b)
def ent33 (f : i33 → Option o33) : Ent := mkEnt 33 dec33 ret33 retK33 retK33_eq f
def ann33 : Nat → List Nat × List Nat := fun id => bif Nat.beq id 2 then ([0, 4, 5], [0, 4, 5]) else bif Nat.beq id 6 then ([4, 5, 6, 7], [4, 6]) else ([], [])
def br33 : FuncId → Bool := fun (g : Nat) => ([30] : List Nat).any (Nat.beq g)
def ar33 : TypeId → Bool := fun (t : Nat) => ([29, 30, 54, 57] : List Nat).any (Nat.beq t)
abbrev iL33_2 : Type := Int × Int × Int × Int × Int × Int × Rows
def encL33_2 : iL33_2 → CSt := fun a => ([Go.Ev.SV.one (Go.Ev.SL.d (Go.Ev.DL.int Go.IntKind.u64 a.1)), Go.Ev.SV.one (Go.Ev.SL.ptr (0 : Nat) (0 : Nat)), Go.Ev.SV.one (Go.Ev.SL.vr (1 : Nat))], [Go.Ev.Obj.box (23 : Nat) [Go.Ev.SL.d (Go.Ev.DL.int Go.IntKind.u64 a.2.1), Go.Ev.SL.d (Go.Ev.DL.int Go.IntKind.u64 a.2.2.1), Go.Ev.SL.d (Go.Ev.DL.int Go.IntKind.u64 a.2.2.2.1), Go.Ev.SL.d (Go.Ev.DL.int Go.IntKind.u64 a.2.2.2.2.1), Go.Ev.SL.d (Go.Ev.DL.int Go.IntKind.u64 a.2.2.2.2.2.1)], Go.Ev.Obj.vec (5 : Nat) Bool.false a.2.2.2.2.2.2])
def decL33_2 : (c : CSt) → Option { a : iL33_2 // c = encL33_2 a }
  | ([Go.Ev.SV.one (Go.Ev.SL.d (Go.Ev.DL.int Go.IntKind.u64 x1)), Go.Ev.SV.one (Go.Ev.SL.ptr (0 : Nat) (0 : Nat)), Go.Ev.SV.one (Go.Ev.SL.vr (1 : Nat))], [Go.Ev.Obj.box (23 : Nat) [Go.Ev.SL.d (Go.Ev.DL.int Go.IntKind.u64 x2), Go.Ev.SL.d (Go.Ev.DL.int Go.IntKind.u64 x3), Go.Ev.SL.d (Go.Ev.DL.int Go.IntKind.u64 x4), Go.Ev.SL.d (Go.Ev.DL.int Go.IntKind.u64 x5), Go.Ev.SL.d (Go.Ev.DL.int Go.IntKind.u64 x6)], Go.Ev.Obj.vec (5 : Nat) Bool.false x7]) => some ⟨(x1, x2, x3, x4, x5, x6, x7), rfl⟩
  | _ => none
abbrev oL33_2 : Type := Int × Int × Int × Int × Int × Int × Rows
def retL33_2 : oL33_2 → Ex × CSt := fun b => (Go.Ev.Ex.exit (0 : Nat), ([Go.Ev.SV.one (Go.Ev.SL.d (Go.Ev.DL.int Go.IntKind.u64 b.1)), Go.Ev.SV.one (Go.Ev.SL.ptr (0 : Nat) (0 : Nat)), Go.Ev.SV.one (Go.Ev.SL.vr (1 : Nat))], [Go.Ev.Obj.box (23 : Nat) [Go.Ev.SL.d (Go.Ev.DL.int Go.IntKind.u64 b.2.1), Go.Ev.SL.d (Go.Ev.DL.int Go.IntKind.u64 b.2.2.1), Go.Ev.SL.d (Go.Ev.DL.int Go.IntKind.u64 b.2.2.2.1), Go.Ev.SL.d (Go.Ev.DL.int Go.IntKind.u64 b.2.2.2.2.1), Go.Ev.SL.d (Go.Ev.DL.int Go.IntKind.u64 b.2.2.2.2.2.1)], Go.Ev.Obj.vec (5 : Nat) Bool.false b.2.2.2.2.2.2]))
def retKL33_2 {R : Type} (K : Ex → CSt → Option R) : oL33_2 → Option R := fun b => K (Go.Ev.Ex.exit (0 : Nat)) (([Go.Ev.SV.one (Go.Ev.SL.d (Go.Ev.DL.int Go.IntKind.u64 b.1)), Go.Ev.SV.one (Go.Ev.SL.ptr (0 : Nat) (0 : Nat)), Go.Ev.SV.one (Go.Ev.SL.vr (1 : Nat))], [Go.Ev.Obj.box (23 : Nat) [Go.Ev.SL.d (Go.Ev.DL.int Go.IntKind.u64 b.2.1), Go.Ev.SL.d (Go.Ev.DL.int Go.IntKind.u64 b.2.2.1), Go.Ev.SL.d (Go.Ev.DL.int Go.IntKind.u64 b.2.2.2.1), Go.Ev.SL.d (Go.Ev.DL.int Go.IntKind.u64 b.2.2.2.2.1), Go.Ev.SL.d (Go.Ev.DL.int Go.IntKind.u64 b.2.2.2.2.2.1)], Go.Ev.Obj.vec (5 : Nat) Bool.false b.2.2.2.2.2.2]))
theorem retKL33_2_eq {R : Type} (K : Ex → CSt → Option R) (b : oL33_2) : retKL33_2 K b = K (retL33_2 b).1 (retL33_2 b).2 := rfl
def entL33_2 (l : iL33_2 → Option oL33_2) : LEnt := mkLEnt 2 decL33_2 retL33_2 retKL33_2 retKL33_2_eq l
abbrev SdL33_2 (l : iL33_2 → Option oL33_2) : Prop := ∀ nt a b, l a = some b → LoopAt Try.prog nt 0 ann33 Try.f33 2 (encL33_2 a) (retL33_2 b)
abbrev iL33_6 : Type := Int × Int × Int × Int × Int × Int × Rows × Int × Int × Int × Int × Int
def encL33_6 : iL33_6 → CSt := fun a => ([Go.Ev.SV.one (Go.Ev.SL.ptr (0 : Nat) (0 : Nat)), Go.Ev.SV.one (Go.Ev.SL.vr (1 : Nat)), Go.Ev.SV.one (Go.Ev.SL.ptr (2 : Nat) (0 : Nat)), Go.Ev.SV.one (Go.Ev.SL.d (Go.Ev.DL.int Go.IntKind.i64 a.1))], [Go.Ev.Obj.box (23 : Nat) [Go.Ev.SL.d (Go.Ev.DL.int Go.IntKind.u64 a.2.1), Go.Ev.SL.d (Go.Ev.DL.int Go.IntKind.u64 a.2.2.1), Go.Ev.SL.d (Go.Ev.DL.int Go.IntKind.u64 a.2.2.2.1), Go.Ev.SL.d (Go.Ev.DL.int Go.IntKind.u64 a.2.2.2.2.1), Go.Ev.SL.d (Go.Ev.DL.int Go.IntKind.u64 a.2.2.2.2.2.1)], Go.Ev.Obj.vec (5 : Nat) Bool.false a.2.2.2.2.2.2.1, Go.Ev.Obj.box (23 : Nat) [Go.Ev.SL.d (Go.Ev.DL.int Go.IntKind.u64 a.2.2.2.2.2.2.2.1), Go.Ev.SL.d (Go.Ev.DL.int Go.IntKind.u64 a.2.2.2.2.2.2.2.2.1), Go.Ev.SL.d (Go.Ev.DL.int Go.IntKind.u64 a.2.2.2.2.2.2.2.2.2.1), Go.Ev.SL.d (Go.Ev.DL.int Go.IntKind.u64 a.2.2.2.2.2.2.2.2.2.2.1), Go.Ev.SL.d (Go.Ev.DL.int Go.IntKind.u64 a.2.2.2.2.2.2.2.2.2.2.2)]])
def decL33_6 : (c : CSt) → Option { a : iL33_6 // c = encL33_6 a }
  | ([Go.Ev.SV.one (Go.Ev.SL.ptr (0 : Nat) (0 : Nat)), Go.Ev.SV.one (Go.Ev.SL.vr (1 : Nat)), Go.Ev.SV.one (Go.Ev.SL.ptr (2 : Nat) (0 : Nat)), Go.Ev.SV.one (Go.Ev.SL.d (Go.Ev.DL.int Go.IntKind.i64 x1))], [Go.Ev.Obj.box (23 : Nat) [Go.Ev.SL.d (Go.Ev.DL.int Go.IntKind.u64 x2), Go.Ev.SL.d (Go.Ev.DL.int Go.IntKind.u64 x3), Go.Ev.SL.d (Go.Ev.DL.int Go.IntKind.u64 x4), Go.Ev.SL.d (Go.Ev.DL.int Go.IntKind.u64 x5), Go.Ev.SL.d (Go.Ev.DL.int Go.IntKind.u64 x6)], Go.Ev.Obj.vec (5 : Nat) Bool.false x7, Go.Ev.Obj.box (23 : Nat) [Go.Ev.SL.d (Go.Ev.DL.int Go.IntKind.u64 x8), Go.Ev.SL.d (Go.Ev.DL.int Go.IntKind.u64 x9), Go.Ev.SL.d (Go.Ev.DL.int Go.IntKind.u64 x10), Go.Ev.SL.d (Go.Ev.DL.int Go.IntKind.u64 x11), Go.Ev.SL.d (Go.Ev.DL.int Go.IntKind.u64 x12)]]) => some ⟨(x1, x2, x3, x4, x5, x6, x7, x8, x9, x10, x11, x12), rfl⟩
  | _ => none
abbrev oL33_6 : Type := Int × Int × Int × Int × Int × Int × Int × Int × Int × Int
def retL33_6 : oL33_6 → Ex × CSt := fun b => (Go.Ev.Ex.exit (2 : Nat), ([Go.Ev.SV.one (Go.Ev.SL.ptr (0 : Nat) (0 : Nat)), Go.Ev.SV.one (Go.Ev.SL.ptr (1 : Nat) (0 : Nat))], [Go.Ev.Obj.box (23 : Nat) [Go.Ev.SL.d (Go.Ev.DL.int Go.IntKind.u64 b.1), Go.Ev.SL.d (Go.Ev.DL.int Go.IntKind.u64 b.2.1), Go.Ev.SL.d (Go.Ev.DL.int Go.IntKind.u64 b.2.2.1), Go.Ev.SL.d (Go.Ev.DL.int Go.IntKind.u64 b.2.2.2.1), Go.Ev.SL.d (Go.Ev.DL.int Go.IntKind.u64 b.2.2.2.2.1)], Go.Ev.Obj.box (23 : Nat) [Go.Ev.SL.d (Go.Ev.DL.int Go.IntKind.u64 b.2.2.2.2.2.1), Go.Ev.SL.d (Go.Ev.DL.int Go.IntKind.u64 b.2.2.2.2.2.2.1), Go.Ev.SL.d (Go.Ev.DL.int Go.IntKind.u64 b.2.2.2.2.2.2.2.1), Go.Ev.SL.d (Go.Ev.DL.int Go.IntKind.u64 b.2.2.2.2.2.2.2.2.1), Go.Ev.SL.d (Go.Ev.DL.int Go.IntKind.u64 b.2.2.2.2.2.2.2.2.2)]]))
def retKL33_6 {R : Type} (K : Ex → CSt → Option R) : oL33_6 → Option R := fun b => K (Go.Ev.Ex.exit (2 : Nat)) (([Go.Ev.SV.one (Go.Ev.SL.ptr (0 : Nat) (0 : Nat)), Go.Ev.SV.one (Go.Ev.SL.ptr (1 : Nat) (0 : Nat))], [Go.Ev.Obj.box (23 : Nat) [Go.Ev.SL.d (Go.Ev.DL.int Go.IntKind.u64 b.1), Go.Ev.SL.d (Go.Ev.DL.int Go.IntKind.u64 b.2.1), Go.Ev.SL.d (Go.Ev.DL.int Go.IntKind.u64 b.2.2.1), Go.Ev.SL.d (Go.Ev.DL.int Go.IntKind.u64 b.2.2.2.1), Go.Ev.SL.d (Go.Ev.DL.int Go.IntKind.u64 b.2.2.2.2.1)], Go.Ev.Obj.box (23 : Nat) [Go.Ev.SL.d (Go.Ev.DL.int Go.IntKind.u64 b.2.2.2.2.2.1), Go.Ev.SL.d (Go.Ev.DL.int Go.IntKind.u64 b.2.2.2.2.2.2.1), Go.Ev.SL.d (Go.Ev.DL.int Go.IntKind.u64 b.2.2.2.2.2.2.2.1), Go.Ev.SL.d (Go.Ev.DL.int Go.IntKind.u64 b.2.2.2.2.2.2.2.2.1), Go.Ev.SL.d (Go.Ev.DL.int Go.IntKind.u64 b.2.2.2.2.2.2.2.2.2)]]))
theorem retKL33_6_eq {R : Type} (K : Ex → CSt → Option R) (b : oL33_6) : retKL33_6 K b = K (retL33_6 b).1 (retL33_6 b).2 := rfl
def entL33_6 (l : iL33_6 → Option oL33_6) : LEnt := mkLEnt 6 decL33_6 retL33_6 retKL33_6 retKL33_6_eq l
abbrev SdL33_6 (l : iL33_6 → Option oL33_6) : Prop := ∀ nt a b, l a = some b → LoopAt Try.prog nt 0 ann33 Try.f33 6 (encL33_6 a) (retL33_6 b)
noncomputable def u33_2 {R : Type} (sh : Sh) (l33_2 : iL33_2 → Option oL33_2) (x1 : Int) (x2 : Int) (x3 : Int) (x4 : Int) (x5 : Int) (x6 : Int) (x7 : Rows) (k : oL33_2 → Option R) : Option R :=
  sh ((↑(List.length x7) : Int)) fun y5 =>
  bif Int.tmod y5 (8 : Int) != (0 : Int) then
    sh ([[Go.Ev.DL.int Go.IntKind.u8 (0 : Int)]] : Rows) fun y6 =>
    bif Go.Ev.roomE Go.Proofs.Try.prog (5 : Nat) (List.length x7 + List.length y6) then
      sh (x7 ++ y6 : Rows) fun y7 =>
      (l33_2 (x1, x2, x3, x4, x5, x6, y7)).bind k
    else none
  else
    k ((x1, x2, x3, x4, x5, x6, x7))
theorem u33_2_eq {R : Type} (sh : Sh) (hsh : ∀ {α R : Type} (x : α) (K : α → Option R), sh x K = K x) (l33_2 : iL33_2 → Option oL33_2) (x1 : Int) (x2 : Int) (x3 : Int) (x4 : Int) (x5 : Int) (x6 : Int) (x7 : Rows) (K : Ex → CSt → Option R) : roundK Try.prog (tabO sh hsh br33 ar33 []) (tabL [entL33_2 l33_2]) ann33 0 Try.f33 2 (encL33_2 (x1, x2, x3, x4, x5, x6, x7)) K = u33_2 sh l33_2 x1 x2 x3 x4 x5 x6 x7 (retKL33_2 K) := by kernel_rfl
theorem u33_2_law {R : Type} (l33_2 : iL33_2 → Option oL33_2) (x1 : Int) (x2 : Int) (x3 : Int) (x4 : Int) (x5 : Int) (x6 : Int) (x7 : Rows) (K : oL33_2 → Option R) : u33_2 sh0 l33_2 x1 x2 x3 x4 x5 x6 x7 K = (u33_2 sh0 l33_2 x1 x2 x3 x4 x5 x6 x7 some).bind K := by
  simp only [u33_2, sh0, cond_bind', two_bind, none_bind', Option.bind_assoc, Option.bind_some]
theorem okL33_2 (l33_2 : iL33_2 → Option oL33_2) (hl33_2 : SdL33_2 l33_2) : SdL33_2 (fun a => u33_2 sh0 l33_2 a.1 a.2.1 a.2.2.1 a.2.2.2.1 a.2.2.2.2.1 a.2.2.2.2.2.1 a.2.2.2.2.2.2 some) := by
  intro nt a b h
  refine round_ok (sh := sh0) (hsh := fun _ _ => rfl) (br := br33) (ar := ar33) Try.mixed (by kernel_rfl) .nil (.cons (mkLEnt_ok (hl33_2 nt)) .nil) ((u33_2_eq sh0 (fun _ _ => rfl) l33_2  a.1 a.2.1 a.2.2.1 a.2.2.2.1 a.2.2.2.2.1 a.2.2.2.2.2.1 a.2.2.2.2.2.2 _).trans ?_)
  rw [u33_2_law]
  simp only at h
  rw [h, Option.bind_some, retKL33_2_eq]
noncomputable def u33_6 {R : Type} (sh : Sh) (f37 : i37 → Option o37) (f13 : i13 → Option o13) (l33_6 : iL33_6 → Option oL33_6) (x1 : Int) (x2 : Int) (x3 : Int) (x4 : Int) (x5 : Int) (x6 : Int) (x7 : Rows) (x8 : Int) (x9 : Int) (x10 : Int) (x11 : Int) (x12 : Int) (k : oL33_6 → Option R) : Option R :=
  sh ((↑(List.length x7) : Int)) fun y10 =>
  bif Decidable.decide (x1 < y10) then
    bif Decidable.decide ((0 : Int) ≤ x1 ∧ x1 ≤ Go.IntKind.wrap Go.IntKind.i64 (x1 + (8 : Int)) ∧ Go.IntKind.wrap Go.IntKind.i64 (x1 + (8 : Int)) ≤ (↑(List.length x7) : Int)) then
      (f37 (List.take (Int.toNat (Go.IntKind.wrap Go.IntKind.i64 (x1 + (8 : Int))) - Int.toNat x1) (List.drop (Int.toNat x1) x7))).bind fun (r11 : Int) =>
      sh (Go.IntKind.wrap Go.IntKind.u64 (↑(BitVec.toNat (BitVec.ofInt (64 : Nat) x8 ^^^ BitVec.ofInt (64 : Nat) r11)) : Int)) fun y12 =>
      (f13 (y12, x9, x10, x11, x12)).bind fun (r13 : Int × Int × Int × Int × Int) =>
      (l33_6 (Go.IntKind.wrap Go.IntKind.i64 (x1 + (8 : Int)), x2, x3, x4, x5, x6, x7, Prod.fst r13, Prod.fst r13.2, Prod.fst (Prod.snd r13).2, Prod.fst (Prod.snd (Prod.snd r13)).2, Prod.snd (Prod.snd (Prod.snd r13)).2)).bind k
    else none
  else
    k ((x2, x3, x4, x5, x6, x8, x9, x10, x11, x12))
theorem u33_6_eq {R : Type} (sh : Sh) (hsh : ∀ {α R : Type} (x : α) (K : α → Option R), sh x K = K x) (f37 : i37 → Option o37) (f13 : i13 → Option o13) (l33_6 : iL33_6 → Option oL33_6) (x1 : Int) (x2 : Int) (x3 : Int) (x4 : Int) (x5 : Int) (x6 : Int) (x7 : Rows) (x8 : Int) (x9 : Int) (x10 : Int) (x11 : Int) (x12 : Int) (K : Ex → CSt → Option R) : roundK Try.prog (tabO sh hsh br33 ar33 [ent37 f37, ent13 f13]) (tabL [entL33_6 l33_6]) ann33 0 Try.f33 6 (encL33_6 (x1, x2, x3, x4, x5, x6, x7, x8, x9, x10, x11, x12)) K = u33_6 sh f37 f13 l33_6 x1 x2 x3 x4 x5 x6 x7 x8 x9 x10 x11 x12 (retKL33_6 K) := by kernel_rfl
theorem u33_6_law {R : Type} (f37 : i37 → Option o37) (f13 : i13 → Option o13) (l33_6 : iL33_6 → Option oL33_6) (x1 : Int) (x2 : Int) (x3 : Int) (x4 : Int) (x5 : Int) (x6 : Int) (x7 : Rows) (x8 : Int) (x9 : Int) (x10 : Int) (x11 : Int) (x12 : Int) (K : oL33_6 → Option R) : u33_6 sh0 f37 f13 l33_6 x1 x2 x3 x4 x5 x6 x7 x8 x9 x10 x11 x12 K = (u33_6 sh0 f37 f13 l33_6 x1 x2 x3 x4 x5 x6 x7 x8 x9 x10 x11 x12 some).bind K := by
  simp only [u33_6, sh0, cond_bind', two_bind, none_bind', Option.bind_assoc, Option.bind_some]
theorem okL33_6 (f37 : i37 → Option o37) (f13 : i13 → Option o13) (l33_6 : iL33_6 → Option oL33_6) (hf37 : Sd37 f37) (hf13 : Sd13 f13) (hl33_6 : SdL33_6 l33_6) : SdL33_6 (fun a => u33_6 sh0 f37 f13 l33_6 a.1 a.2.1 a.2.2.1 a.2.2.2.1 a.2.2.2.2.1 a.2.2.2.2.2.1 a.2.2.2.2.2.2.1 a.2.2.2.2.2.2.2.1 a.2.2.2.2.2.2.2.2.1 a.2.2.2.2.2.2.2.2.2.1 a.2.2.2.2.2.2.2.2.2.2.1 a.2.2.2.2.2.2.2.2.2.2.2 some) := by
  intro nt a b h
  refine round_ok (sh := sh0) (hsh := fun _ _ => rfl) (br := br33) (ar := ar33) Try.mixed (by kernel_rfl) (.cons (mkEnt_ok hf37) (.cons (mkEnt_ok hf13) .nil)) (.cons (mkLEnt_ok (hl33_6 nt)) .nil) ((u33_6_eq sh0 (fun _ _ => rfl) f37 f13 l33_6  a.1 a.2.1 a.2.2.1 a.2.2.2.1 a.2.2.2.2.1 a.2.2.2.2.2.1 a.2.2.2.2.2.2.1 a.2.2.2.2.2.2.2.1 a.2.2.2.2.2.2.2.2.1 a.2.2.2.2.2.2.2.2.2.1 a.2.2.2.2.2.2.2.2.2.2.1 a.2.2.2.2.2.2.2.2.2.2.2 _).trans ?_)
  rw [u33_6_law]
  simp only at h
  rw [h, Option.bind_some, retKL33_6_eq]
noncomputable def t33 {R : Type} (sh : Sh) (f13 : i13 → Option o13) (l33_2 : iL33_2 → Option oL33_2) (l33_6 : iL33_6 → Option oL33_6) (x1 : Int) (x2 : Rows) (k : o33 → Option R) : Option R :=
  sh ([] : Rows) fun y1 =>
  bif Go.Ev.roomE Go.Proofs.Try.prog (5 : Nat) (List.length y1 + List.length x2) then
    sh (y1 ++ x2 : Rows) fun y2 =>
    sh ([[Go.Ev.DL.int Go.IntKind.u8 (1 : Int)]] : Rows) fun y3 =>
    bif Go.Ev.roomE Go.Proofs.Try.prog (5 : Nat) (List.length y2 + List.length y3) then
      sh (y2 ++ y3 : Rows) fun y4 =>
      (l33_2 (x1, (0 : Int), (0 : Int), (0 : Int), (0 : Int), (0 : Int), y4)).bind fun (r8 : Int × Int × Int × Int × Int × Int × Rows) =>
      (f13 (Prod.fst r8, (1 : Int), (2 : Int), (3 : Int), (4 : Int))).bind fun (r9 : Int × Int × Int × Int × Int) =>
      (l33_6 ((0 : Int), Prod.fst r8.2, Prod.fst (Prod.snd r8).2, Prod.fst (Prod.snd (Prod.snd r8)).2, Prod.fst (Prod.snd (Prod.snd (Prod.snd r8))).2, Prod.fst (Prod.snd (Prod.snd (Prod.snd (Prod.snd r8)))).2, Prod.snd (Prod.snd (Prod.snd (Prod.snd (Prod.snd r8)))).2, Prod.fst r9, Prod.fst r9.2, Prod.fst (Prod.snd r9).2, Prod.fst (Prod.snd (Prod.snd r9)).2, Prod.snd (Prod.snd (Prod.snd r9)).2)).bind fun (r14 : Int × Int × Int × Int × Int × Int × Int × Int × Int × Int) =>
      k ((Prod.fst (Prod.snd (Prod.snd (Prod.snd (Prod.snd r14)))).2, Prod.fst (Prod.snd (Prod.snd (Prod.snd (Prod.snd (Prod.snd r14))))).2, Prod.fst (Prod.snd (Prod.snd (Prod.snd (Prod.snd (Prod.snd (Prod.snd r14)))))).2, Prod.fst (Prod.snd (Prod.snd (Prod.snd (Prod.snd (Prod.snd (Prod.snd (Prod.snd r14))))))).2, Prod.snd (Prod.snd (Prod.snd (Prod.snd (Prod.snd (Prod.snd (Prod.snd (Prod.snd r14))))))).2))
    else none
  else none
theorem t33_eq {R : Type} (sh : Sh) (hsh : ∀ {α R : Type} (x : α) (K : α → Option R), sh x K = K x) (f13 : i13 → Option o13) (l33_2 : iL33_2 → Option oL33_2) (l33_6 : iL33_6 → Option oL33_6) (x1 : Int) (x2 : Rows) (K : CSt → Option R) : bodyK Try.prog (tabO sh hsh br33 ar33 [ent13 f13]) (tabL [entL33_2 l33_2, entL33_6 l33_6]) ann33 false Try.f33 (enc33 (x1, x2)) K = t33 sh f13 l33_2 l33_6 x1 x2 (retK33 K) := by kernel_rfl
theorem t33_law {R : Type} (f13 : i13 → Option o13) (l33_2 : iL33_2 → Option oL33_2) (l33_6 : iL33_6 → Option oL33_6) (x1 : Int) (x2 : Rows) (K : o33 → Option R) : t33 sh0 f13 l33_2 l33_6 x1 x2 K = (t33 sh0 f13 l33_2 l33_6 x1 x2 some).bind K := by
  simp only [t33, sh0, cond_bind', two_bind, none_bind', Option.bind_assoc, Option.bind_some]
theorem ok33 (f13 : i13 → Option o13) (l33_2 : iL33_2 → Option oL33_2) (l33_6 : iL33_6 → Option oL33_6) (hf13 : Sd13 f13) (hl33_2 : SdL33_2 l33_2) (hl33_6 : SdL33_6 l33_6) : Sd33 (fun a => t33 sh0 f13 l33_2 l33_6 a.1 a.2 some) := by
  intro a b h
  refine call_ok (sh := sh0) (hsh := fun _ _ => rfl) (br := br33) (ar := ar33) (own := false) Try.mixed Try.func33 (by kernel_rfl) (.cons (mkEnt_ok hf13) .nil) (fun nt => (.cons (mkLEnt_ok (hl33_2 nt)) (.cons (mkLEnt_ok (hl33_6 nt)) .nil))) ((t33_eq sh0 (fun _ _ => rfl) f13 l33_2 l33_6 a.1 a.2 _).trans ?_)
  rw [t33_law]
  simp only at h
  rw [h, Option.bind_some, retK33_eq]

/-! 32 erasure/erasureref25.squeeze -/
abbrev i32 : Type := Int × Int × Int × Int × Int × Int
def enc32 : i32 → CSt := fun a => ([Go.Ev.SV.agg [Go.Ev.SL.d (Go.Ev.DL.int Go.IntKind.u64 a.1), Go.Ev.SL.d (Go.Ev.DL.int Go.IntKind.u64 a.2.1), Go.Ev.SL.d (Go.Ev.DL.int Go.IntKind.u64 a.2.2.1), Go.Ev.SL.d (Go.Ev.DL.int Go.IntKind.u64 a.2.2.2.1), Go.Ev.SL.d (Go.Ev.DL.int Go.IntKind.u64 a.2.2.2.2.1)], Go.Ev.SV.one (Go.Ev.SL.d (Go.Ev.DL.int Go.IntKind.i64 a.2.2.2.2.2))], [])
def dec32 : (c : CSt) → Option { a : i32 // c = enc32 a }
  | ([Go.Ev.SV.agg [Go.Ev.SL.d (Go.Ev.DL.int Go.IntKind.u64 x1), Go.Ev.SL.d (Go.Ev.DL.int Go.IntKind.u64 x2), Go.Ev.SL.d (Go.Ev.DL.int Go.IntKind.u64 x3), Go.Ev.SL.d (Go.Ev.DL.int Go.IntKind.u64 x4), Go.Ev.SL.d (Go.Ev.DL.int Go.IntKind.u64 x5)], Go.Ev.SV.one (Go.Ev.SL.d (Go.Ev.DL.int Go.IntKind.i64 x6))], []) => some ⟨(x1, x2, x3, x4, x5, x6), rfl⟩
  | _ => none
abbrev o32 : Type := Rows
def ret32 : o32 → CSt := fun b => ([Go.Ev.SV.one (Go.Ev.SL.d (Go.Ev.DL.lst (5 : Nat) b))], [])
def retK32 {R : Type} (K : CSt → Option R) : o32 → Option R := fun b => K (([Go.Ev.SV.one (Go.Ev.SL.d (Go.Ev.DL.lst (5 : Nat) b))], []))
theorem retK32_eq {R : Type} (K : CSt → Option R) (b : o32) : retK32 K b = K (ret32 b) := rfl
abbrev Sd32 (f : i32 → Option o32) : Prop := ∀ a b, f a = some b → CallOk Try.prog 32 (enc32 a) (ret32 b)
def ent32 (f : i32 → Option o32) : Ent := mkEnt 32 dec32 ret32 retK32 retK32_eq f
def ann32 : Nat → List Nat × List Nat := fun id => bif Nat.beq id 2 then ([1, 2, 5], [1, 5]) else bif Nat.beq id 4 then ([1, 2, 5, 6], [1, 2, 5]) else ([], [])
def br32 : FuncId → Bool := fun (g : Nat) => ([30] : List Nat).any (Nat.beq g)
def ar32 : TypeId → Bool := fun (t : Nat) => ([29, 30, 54, 57] : List Nat).any (Nat.beq t)
abbrev iL32_2 : Type := Int × Int × Int × Int × Int × Int × Rows
def encL32_2 : iL32_2 → CSt := fun a => ([Go.Ev.SV.one (Go.Ev.SL.d (Go.Ev.DL.int Go.IntKind.i64 a.1)), Go.Ev.SV.one (Go.Ev.SL.ptr (0 : Nat) (0 : Nat)), Go.Ev.SV.one (Go.Ev.SL.vr (1 : Nat))], [Go.Ev.Obj.box (23 : Nat) [Go.Ev.SL.d (Go.Ev.DL.int Go.IntKind.u64 a.2.1), Go.Ev.SL.d (Go.Ev.DL.int Go.IntKind.u64 a.2.2.1), Go.Ev.SL.d (Go.Ev.DL.int Go.IntKind.u64 a.2.2.2.1), Go.Ev.SL.d (Go.Ev.DL.int Go.IntKind.u64 a.2.2.2.2.1), Go.Ev.SL.d (Go.Ev.DL.int Go.IntKind.u64 a.2.2.2.2.2.1)], Go.Ev.Obj.vec (5 : Nat) Bool.false a.2.2.2.2.2.2])
def decL32_2 : (c : CSt) → Option { a : iL32_2 // c = encL32_2 a }
  | ([Go.Ev.SV.one (Go.Ev.SL.d (Go.Ev.DL.int Go.IntKind.i64 x1)), Go.Ev.SV.one (Go.Ev.SL.ptr (0 : Nat) (0 : Nat)), Go.Ev.SV.one (Go.Ev.SL.vr (1 : Nat))], [Go.Ev.Obj.box (23 : Nat) [Go.Ev.SL.d (Go.Ev.DL.int Go.IntKind.u64 x2), Go.Ev.SL.d (Go.Ev.DL.int Go.IntKind.u64 x3), Go.Ev.SL.d (Go.Ev.DL.int Go.IntKind.u64 x4), Go.Ev.SL.d (Go.Ev.DL.int Go.IntKind.u64 x5), Go.Ev.SL.d (Go.Ev.DL.int Go.IntKind.u64 x6)], Go.Ev.Obj.vec (5 : Nat) Bool.false x7]) => some ⟨(x1, x2, x3, x4, x5, x6, x7), rfl⟩
  | _ => none
abbrev oL32_2 : Type := Int × Rows
def retL32_2 : oL32_2 → Ex × CSt := fun b => (Go.Ev.Ex.exit (0 : Nat), ([Go.Ev.SV.one (Go.Ev.SL.d (Go.Ev.DL.int Go.IntKind.i64 b.1)), Go.Ev.SV.one (Go.Ev.SL.vr (0 : Nat))], [Go.Ev.Obj.vec (5 : Nat) Bool.false b.2]))
def retKL32_2 {R : Type} (K : Ex → CSt → Option R) : oL32_2 → Option R := fun b => K (Go.Ev.Ex.exit (0 : Nat)) (([Go.Ev.SV.one (Go.Ev.SL.d (Go.Ev.DL.int Go.IntKind.i64 b.1)), Go.Ev.SV.one (Go.Ev.SL.vr (0 : Nat))], [Go.Ev.Obj.vec (5 : Nat) Bool.false b.2]))
theorem retKL32_2_eq {R : Type} (K : Ex → CSt → Option R) (b : oL32_2) : retKL32_2 K b = K (retL32_2 b).1 (retL32_2 b).2 := rfl
def entL32_2 (l : iL32_2 → Option oL32_2) : LEnt := mkLEnt 2 decL32_2 retL32_2 retKL32_2 retKL32_2_eq l
abbrev SdL32_2 (l : iL32_2 → Option oL32_2) : Prop := ∀ nt a b, l a = some b → LoopAt Try.prog nt 0 ann32 Try.f32 2 (encL32_2 a) (retL32_2 b)
abbrev iL32_4 : Type := Int × Int × Int × Int × Int × Int × Int × Rows
def encL32_4 : iL32_4 → CSt := fun a => ([Go.Ev.SV.one (Go.Ev.SL.d (Go.Ev.DL.int Go.IntKind.i64 a.1)), Go.Ev.SV.one (Go.Ev.SL.ptr (0 : Nat) (0 : Nat)), Go.Ev.SV.one (Go.Ev.SL.vr (1 : Nat)), Go.Ev.SV.one (Go.Ev.SL.d (Go.Ev.DL.int Go.IntKind.i64 a.2.1))], [Go.Ev.Obj.box (23 : Nat) [Go.Ev.SL.d (Go.Ev.DL.int Go.IntKind.u64 a.2.2.1), Go.Ev.SL.d (Go.Ev.DL.int Go.IntKind.u64 a.2.2.2.1), Go.Ev.SL.d (Go.Ev.DL.int Go.IntKind.u64 a.2.2.2.2.1), Go.Ev.SL.d (Go.Ev.DL.int Go.IntKind.u64 a.2.2.2.2.2.1), Go.Ev.SL.d (Go.Ev.DL.int Go.IntKind.u64 a.2.2.2.2.2.2.1)], Go.Ev.Obj.vec (5 : Nat) Bool.false a.2.2.2.2.2.2.2])
def decL32_4 : (c : CSt) → Option { a : iL32_4 // c = encL32_4 a }
  | ([Go.Ev.SV.one (Go.Ev.SL.d (Go.Ev.DL.int Go.IntKind.i64 x1)), Go.Ev.SV.one (Go.Ev.SL.ptr (0 : Nat) (0 : Nat)), Go.Ev.SV.one (Go.Ev.SL.vr (1 : Nat)), Go.Ev.SV.one (Go.Ev.SL.d (Go.Ev.DL.int Go.IntKind.i64 x2))], [Go.Ev.Obj.box (23 : Nat) [Go.Ev.SL.d (Go.Ev.DL.int Go.IntKind.u64 x3), Go.Ev.SL.d (Go.Ev.DL.int Go.IntKind.u64 x4), Go.Ev.SL.d (Go.Ev.DL.int Go.IntKind.u64 x5), Go.Ev.SL.d (Go.Ev.DL.int Go.IntKind.u64 x6), Go.Ev.SL.d (Go.Ev.DL.int Go.IntKind.u64 x7)], Go.Ev.Obj.vec (5 : Nat) Bool.false x8]) => some ⟨(x1, x2, x3, x4, x5, x6, x7, x8), rfl⟩
  | _ => none
abbrev oL32_4 : Type := Int × Int × Int × Int × Int × Int × Rows
def retL32_4 : oL32_4 → Ex × CSt := fun b => (Go.Ev.Ex.exit (2 : Nat), ([Go.Ev.SV.one (Go.Ev.SL.d (Go.Ev.DL.int Go.IntKind.i64 b.1)), Go.Ev.SV.one (Go.Ev.SL.ptr (0 : Nat) (0 : Nat)), Go.Ev.SV.one (Go.Ev.SL.vr (1 : Nat))], [Go.Ev.Obj.box (23 : Nat) [Go.Ev.SL.d (Go.Ev.DL.int Go.IntKind.u64 b.2.1), Go.Ev.SL.d (Go.Ev.DL.int Go.IntKind.u64 b.2.2.1), Go.Ev.SL.d (Go.Ev.DL.int Go.IntKind.u64 b.2.2.2.1), Go.Ev.SL.d (Go.Ev.DL.int Go.IntKind.u64 b.2.2.2.2.1), Go.Ev.SL.d (Go.Ev.DL.int Go.IntKind.u64 b.2.2.2.2.2.1)], Go.Ev.Obj.vec (5 : Nat) Bool.false b.2.2.2.2.2.2]))
def retKL32_4 {R : Type} (K : Ex → CSt → Option R) : oL32_4 → Option R := fun b => K (Go.Ev.Ex.exit (2 : Nat)) (([Go.Ev.SV.one (Go.Ev.SL.d (Go.Ev.DL.int Go.IntKind.i64 b.1)), Go.Ev.SV.one (Go.Ev.SL.ptr (0 : Nat) (0 : Nat)), Go.Ev.SV.one (Go.Ev.SL.vr (1 : Nat))], [Go.Ev.Obj.box (23 : Nat) [Go.Ev.SL.d (Go.Ev.DL.int Go.IntKind.u64 b.2.1), Go.Ev.SL.d (Go.Ev.DL.int Go.IntKind.u64 b.2.2.1), Go.Ev.SL.d (Go.Ev.DL.int Go.IntKind.u64 b.2.2.2.1), Go.Ev.SL.d (Go.Ev.DL.int Go.IntKind.u64 b.2.2.2.2.1), Go.Ev.SL.d (Go.Ev.DL.int Go.IntKind.u64 b.2.2.2.2.2.1)], Go.Ev.Obj.vec (5 : Nat) Bool.false b.2.2.2.2.2.2]))
theorem retKL32_4_eq {R : Type} (K : Ex → CSt → Option R) (b : oL32_4) : retKL32_4 K b = K (retL32_4 b).1 (retL32_4 b).2 := rfl
def entL32_4 (l : iL32_4 → Option oL32_4) : LEnt := mkLEnt 4 decL32_4 retL32_4 retKL32_4 retKL32_4_eq l
abbrev SdL32_4 (l : iL32_4 → Option oL32_4) : Prop := ∀ nt a b, l a = some b → LoopAt Try.prog nt 0 ann32 Try.f32 4 (encL32_4 a) (retL32_4 b)
noncomputable def u32_2 {R : Type} (sh : Sh) (f13 : i13 → Option o13) (l32_4 : iL32_4 → Option oL32_4) (l32_2 : iL32_2 → Option oL32_2) (x1 : Int) (x2 : Int) (x3 : Int) (x4 : Int) (x5 : Int) (x6 : Int) (x7 : Rows) (k : oL32_2 → Option R) : Option R :=
  sh ((↑(List.length x7) : Int)) fun y3 =>
  bif Decidable.decide (y3 < x1) then
    (l32_4 (x1, (0 : Int), x2, x3, x4, x5, x6, x7)).bind fun (r7 : Int × Int × Int × Int × Int × Int × Rows) =>
    (f13 (Prod.fst r7.2, Prod.fst (Prod.snd r7).2, Prod.fst (Prod.snd (Prod.snd r7)).2, Prod.fst (Prod.snd (Prod.snd (Prod.snd r7))).2, Prod.fst (Prod.snd (Prod.snd (Prod.snd (Prod.snd r7)))).2)).bind fun (r8 : Int × Int × Int × Int × Int) =>
    (l32_2 (Prod.fst r7, Prod.fst r8, Prod.fst r8.2, Prod.fst (Prod.snd r8).2, Prod.fst (Prod.snd (Prod.snd r8)).2, Prod.snd (Prod.snd (Prod.snd r8)).2, Prod.snd (Prod.snd (Prod.snd (Prod.snd (Prod.snd r7)))).2)).bind k
  else
    k ((x1, x7))
theorem u32_2_eq {R : Type} (sh : Sh) (hsh : ∀ {α R : Type} (x : α) (K : α → Option R), sh x K = K x) (f13 : i13 → Option o13) (l32_4 : iL32_4 → Option oL32_4) (l32_2 : iL32_2 → Option oL32_2) (x1 : Int) (x2 : Int) (x3 : Int) (x4 : Int) (x5 : Int) (x6 : Int) (x7 : Rows) (K : Ex → CSt → Option R) : roundK Try.prog (tabO sh hsh br32 ar32 [ent13 f13]) (tabL [entL32_4 l32_4, entL32_2 l32_2]) ann32 0 Try.f32 2 (encL32_2 (x1, x2, x3, x4, x5, x6, x7)) K = u32_2 sh f13 l32_4 l32_2 x1 x2 x3 x4 x5 x6 x7 (retKL32_2 K) := by kernel_rfl
theorem u32_2_law {R : Type} (f13 : i13 → Option o13) (l32_4 : iL32_4 → Option oL32_4) (l32_2 : iL32_2 → Option oL32_2) (x1 : Int) (x2 : Int) (x3 : Int) (x4 : Int) (x5 : Int) (x6 : Int) (x7 : Rows) (K : oL32_2 → Option R) : u32_2 sh0 f13 l32_4 l32_2 x1 x2 x3 x4 x5 x6 x7 K = (u32_2 sh0 f13 l32_4 l32_2 x1 x2 x3 x4 x5 x6 x7 some).bind K := by
  simp only [u32_2, sh0, cond_bind', two_bind, none_bind', Option.bind_assoc, Option.bind_some]
theorem okL32_2 (f13 : i13 → Option o13) (l32_4 : iL32_4 → Option oL32_4) (l32_2 : iL32_2 → Option oL32_2) (hf13 : Sd13 f13) (hl32_4 : SdL32_4 l32_4) (hl32_2 : SdL32_2 l32_2) : SdL32_2 (fun a => u32_2 sh0 f13 l32_4 l32_2 a.1 a.2.1 a.2.2.1 a.2.2.2.1 a.2.2.2.2.1 a.2.2.2.2.2.1 a.2.2.2.2.2.2 some) := by
  intro nt a b h
  refine round_ok (sh := sh0) (hsh := fun _ _ => rfl) (br := br32) (ar := ar32) Try.mixed (by kernel_rfl) (.cons (mkEnt_ok hf13) .nil) (.cons (mkLEnt_ok (hl32_4 nt)) (.cons (mkLEnt_ok (hl32_2 nt)) .nil)) ((u32_2_eq sh0 (fun _ _ => rfl) f13 l32_4 l32_2  a.1 a.2.1 a.2.2.1 a.2.2.2.1 a.2.2.2.2.1 a.2.2.2.2.2.1 a.2.2.2.2.2.2 _).trans ?_)
  rw [u32_2_law]
  simp only at h
  rw [h, Option.bind_some, retKL32_2_eq]
noncomputable def u32_4 {R : Type} (sh : Sh) (l32_4 : iL32_4 → Option oL32_4) (x1 : Int) (x2 : Int) (x3 : Int) (x4 : Int) (x5 : Int) (x6 : Int) (x7 : Int) (x8 : Rows) (k : oL32_4 → Option R) : Option R :=
  bif Decidable.decide (x2 < (8 : Int)) then
    bif Decidable.decide ((0 : Int) ≤ Go.IntKind.wrap Go.IntKind.i64 ((8 : Int) * x2)) then
      sh (Int.fdiv x3 ((2 : Int) ^ Min.min (Int.toNat (Go.IntKind.wrap Go.IntKind.i64 ((8 : Int) * x2))) (64 : Nat))) fun y4 =>
      sh ([[Go.Ev.DL.int Go.IntKind.u8 (Go.IntKind.wrap Go.IntKind.u8 y4)]] : Rows) fun y5 =>
      bif Go.Ev.roomE Go.Proofs.Try.prog (5 : Nat) (List.length x8 + List.length y5) then
        sh (x8 ++ y5 : Rows) fun y6 =>
        (l32_4 (x1, Go.IntKind.wrap Go.IntKind.i64 (x2 + (1 : Int)), x3, x4, x5, x6, x7, y6)).bind k
      else none
    else none
  else
    k ((x1, x3, x4, x5, x6, x7, x8))
theorem u32_4_eq {R : Type} (sh : Sh) (hsh : ∀ {α R : Type} (x : α) (K : α → Option R), sh x K = K x) (l32_4 : iL32_4 → Option oL32_4) (x1 : Int) (x2 : Int) (x3 : Int) (x4 : Int) (x5 : Int) (x6 : Int) (x7 : Int) (x8 : Rows) (K : Ex → CSt → Option R) : roundK Try.prog (tabO sh hsh br32 ar32 []) (tabL [entL32_4 l32_4]) ann32 0 Try.f32 4 (encL32_4 (x1, x2, x3, x4, x5, x6, x7, x8)) K = u32_4 sh l32_4 x1 x2 x3 x4 x5 x6 x7 x8 (retKL32_4 K) := by kernel_rfl
theorem u32_4_law {R : Type} (l32_4 : iL32_4 → Option oL32_4) (x1 : Int) (x2 : Int) (x3 : Int) (x4 : Int) (x5 : Int) (x6 : Int) (x7 : Int) (x8 : Rows) (K : oL32_4 → Option R) : u32_4 sh0 l32_4 x1 x2 x3 x4 x5 x6 x7 x8 K = (u32_4 sh0 l32_4 x1 x2 x3 x4 x5 x6 x7 x8 some).bind K := by
  simp only [u32_4, sh0, cond_bind', two_bind, none_bind', Option.bind_assoc, Option.bind_some]
theorem okL32_4 (l32_4 : iL32_4 → Option oL32_4) (hl32_4 : SdL32_4 l32_4) : SdL32_4 (fun a => u32_4 sh0 l32_4 a.1 a.2.1 a.2.2.1 a.2.2.2.1 a.2.2.2.2.1 a.2.2.2.2.2.1 a.2.2.2.2.2.2.1 a.2.2.2.2.2.2.2 some) := by
  intro nt a b h
  refine round_ok (sh := sh0) (hsh := fun _ _ => rfl) (br := br32) (ar := ar32) Try.mixed (by kernel_rfl) .nil (.cons (mkLEnt_ok (hl32_4 nt)) .nil) ((u32_4_eq sh0 (fun _ _ => rfl) l32_4  a.1 a.2.1 a.2.2.1 a.2.2.2.1 a.2.2.2.2.1 a.2.2.2.2.2.1 a.2.2.2.2.2.2.1 a.2.2.2.2.2.2.2 _).trans ?_)
  rw [u32_4_law]
  simp only at h
  rw [h, Option.bind_some, retKL32_4_eq]
noncomputable def t32 {R : Type} (sh : Sh) (l32_2 : iL32_2 → Option oL32_2) (x1 : Int) (x2 : Int) (x3 : Int) (x4 : Int) (x5 : Int) (x6 : Int) (k : o32 → Option R) : Option R :=
  sh ([] : Rows) fun y1 =>
  sh ([] : Rows) fun y2 =>
  (l32_2 (x6, x1, x2, x3, x4, x5, y2)).bind fun (r9 : Int × Rows) =>
  bif Decidable.decide ((0 : Int) ≤ Prod.fst r9 ∧ Prod.fst r9 ≤ (↑(List.length (Prod.snd r9)) : Int)) then
    k (List.take (Int.toNat (Prod.fst r9) - (0 : Nat)) (List.drop (0 : Nat) (Prod.snd r9)))
  else none
theorem t32_eq {R : Type} (sh : Sh) (hsh : ∀ {α R : Type} (x : α) (K : α → Option R), sh x K = K x) (l32_2 : iL32_2 → Option oL32_2) (x1 : Int) (x2 : Int) (x3 : Int) (x4 : Int) (x5 : Int) (x6 : Int) (K : CSt → Option R) : bodyK Try.prog (tabO sh hsh br32 ar32 []) (tabL [entL32_2 l32_2]) ann32 true Try.f32 (enc32 (x1, x2, x3, x4, x5, x6)) K = t32 sh l32_2 x1 x2 x3 x4 x5 x6 (retK32 K) := by kernel_rfl
theorem t32_law {R : Type} (l32_2 : iL32_2 → Option oL32_2) (x1 : Int) (x2 : Int) (x3 : Int) (x4 : Int) (x5 : Int) (x6 : Int) (K : o32 → Option R) : t32 sh0 l32_2 x1 x2 x3 x4 x5 x6 K = (t32 sh0 l32_2 x1 x2 x3 x4 x5 x6 some).bind K := by
  simp only [t32, sh0, cond_bind', two_bind, none_bind', Option.bind_assoc, Option.bind_some]
theorem ok32 (l32_2 : iL32_2 → Option oL32_2) (hl32_2 : SdL32_2 l32_2) : Sd32 (fun a => t32 sh0 l32_2 a.1 a.2.1 a.2.2.1 a.2.2.2.1 a.2.2.2.2.1 a.2.2.2.2.2 some) := by
  intro a b h
  refine call_ok (sh := sh0) (hsh := fun _ _ => rfl) (br := br32) (ar := ar32) (own := true) Try.mixed Try.func32 (by kernel_rfl) .nil (fun nt => (.cons (mkLEnt_ok (hl32_2 nt)) .nil)) ((t32_eq sh0 (fun _ _ => rfl) l32_2 a.1 a.2.1 a.2.2.1 a.2.2.2.1 a.2.2.2.2.1 a.2.2.2.2.2 _).trans ?_)
  rw [t32_law]
  simp only at h
  rw [h, Option.bind_some, retK32_eq]

/-! 16 erasure/erasureref25.Sum -/
abbrev i16 : Type := Int × Rows
def enc16 : i16 → CSt := fun a => ([Go.Ev.SV.one (Go.Ev.SL.d (Go.Ev.DL.int Go.IntKind.u64 a.1)), Go.Ev.SV.one (Go.Ev.SL.d (Go.Ev.DL.lst (5 : Nat) a.2))], [])
def dec16 : (c : CSt) → Option { a : i16 // c = enc16 a }
  | ([Go.Ev.SV.one (Go.Ev.SL.d (Go.Ev.DL.int Go.IntKind.u64 x1)), Go.Ev.SV.one (Go.Ev.SL.d (Go.Ev.DL.lst (5 : Nat) x2))], []) => some ⟨(x1, x2), rfl⟩
  | _ => none
abbrev o16 : Type := List Int
def ret16 : o16 → CSt := fun b => ([Go.Ev.SV.agg (Go.Ev.pkS Go.IntKind.u8 b (32 : Nat))], [])
def retK16 {R : Type} (K : CSt → Option R) : o16 → Option R := fun b => K (([Go.Ev.SV.agg (Go.Ev.pkS Go.IntKind.u8 b (32 : Nat))], []))
theorem retK16_eq {R : Type} (K : CSt → Option R) (b : o16) : retK16 K b = K (ret16 b) := rfl
abbrev Sd16 (f : i16 → Option o16) : Prop := ∀ a b, f a = some b → CallOk Try.prog 16 (enc16 a) (ret16 b)
def ent16 (f : i16 → Option o16) : Ent := mkEnt 16 dec16 ret16 retK16 retK16_eq f
def ann16 : Nat → List Nat × List Nat := fun id => bif Nat.beq id 4 then ([4, 5, 6, 7], [4, 5]) else ([], [])
def br16 : FuncId → Bool := fun (g : Nat) => ([30] : List Nat).any (Nat.beq g)
def ar16 : TypeId → Bool := fun (t : Nat) => ([29, 30, 54, 57] : List Nat).any (Nat.beq t)
abbrev iL16_4 : Type := Rows × Int × Rows × Rows
def encL16_4 : iL16_4 → CSt := fun a => ([Go.Ev.SV.one (Go.Ev.SL.ept (0 : Nat) (0 : Nat) (0 : Nat)), Go.Ev.SV.one (Go.Ev.SL.ept (1 : Nat) (0 : Nat) (0 : Nat)), Go.Ev.SV.one (Go.Ev.SL.d (Go.Ev.DL.lst (5 : Nat) a.1)), Go.Ev.SV.one (Go.Ev.SL.d (Go.Ev.DL.int Go.IntKind.i64 a.2.1))], [Go.Ev.Obj.vec (5 : Nat) Bool.false a.2.2.1, Go.Ev.Obj.vec (5 : Nat) Bool.false a.2.2.2])
def decL16_4 : (c : CSt) → Option { a : iL16_4 // c = encL16_4 a }
  | ([Go.Ev.SV.one (Go.Ev.SL.ept (0 : Nat) (0 : Nat) (0 : Nat)), Go.Ev.SV.one (Go.Ev.SL.ept (1 : Nat) (0 : Nat) (0 : Nat)), Go.Ev.SV.one (Go.Ev.SL.d (Go.Ev.DL.lst (5 : Nat) x1)), Go.Ev.SV.one (Go.Ev.SL.d (Go.Ev.DL.int Go.IntKind.i64 x2))], [Go.Ev.Obj.vec (5 : Nat) Bool.false x3, Go.Ev.Obj.vec (5 : Nat) Bool.false x4]) => some ⟨(x1, x2, x3, x4), rfl⟩
  | _ => none
abbrev oL16_4 : Type := Rows × Rows
def retL16_4 : oL16_4 → Ex × CSt := fun b => (Go.Ev.Ex.exit (0 : Nat), ([Go.Ev.SV.one (Go.Ev.SL.ept (0 : Nat) (0 : Nat) (0 : Nat)), Go.Ev.SV.one (Go.Ev.SL.ept (1 : Nat) (0 : Nat) (0 : Nat))], [Go.Ev.Obj.vec (5 : Nat) Bool.false b.1, Go.Ev.Obj.vec (5 : Nat) Bool.false b.2]))
def retKL16_4 {R : Type} (K : Ex → CSt → Option R) : oL16_4 → Option R := fun b => K (Go.Ev.Ex.exit (0 : Nat)) (([Go.Ev.SV.one (Go.Ev.SL.ept (0 : Nat) (0 : Nat) (0 : Nat)), Go.Ev.SV.one (Go.Ev.SL.ept (1 : Nat) (0 : Nat) (0 : Nat))], [Go.Ev.Obj.vec (5 : Nat) Bool.false b.1, Go.Ev.Obj.vec (5 : Nat) Bool.false b.2]))
theorem retKL16_4_eq {R : Type} (K : Ex → CSt → Option R) (b : oL16_4) : retKL16_4 K b = K (retL16_4 b).1 (retL16_4 b).2 := rfl
def entL16_4 (l : iL16_4 → Option oL16_4) : LEnt := mkLEnt 4 decL16_4 retL16_4 retKL16_4 retKL16_4_eq l
abbrev SdL16_4 (l : iL16_4 → Option oL16_4) : Prop := ∀ nt a b, l a = some b → LoopAt Try.prog nt 0 ann16 Try.f16 4 (encL16_4 a) (retL16_4 b)
noncomputable def u16_4 {R : Type} (sh : Sh) (l16_4 : iL16_4 → Option oL16_4) (x1 : Rows) (x2 : Int) (x3 : Rows) (x4 : Rows) (k : oL16_4 → Option R) : Option R :=
  bif Decidable.decide (x2 < (32 : Int)) then
    bif Decidable.decide ((0 : Int) ≤ x2 ∧ x2 < (↑(List.length x1) : Int)) then
      sh (Go.Ev.DL.getI (Go.Ev.cellAt x1 (Int.toNat x2) (0 : Nat))) fun y5 =>
      bif Decidable.decide ((0 : Int) ≤ x2 ∧ x2 < (32 : Int)) then
        bif Decidable.decide (Int.toNat x2 < List.length x4) then
          sh (List.set x4 (Int.toNat x2) [Go.Ev.DL.int Go.IntKind.u8 y5] : Rows) fun y6 =>
          (l16_4 (x1, Go.IntKind.wrap Go.IntKind.i64 (x2 + (1 : Int)), x3, y6)).bind k
        else none
      else none
    else none
  else
    k ((x3, x4))
theorem u16_4_eq {R : Type} (sh : Sh) (hsh : ∀ {α R : Type} (x : α) (K : α → Option R), sh x K = K x) (l16_4 : iL16_4 → Option oL16_4) (x1 : Rows) (x2 : Int) (x3 : Rows) (x4 : Rows) (K : Ex → CSt → Option R) : roundK Try.prog (tabO sh hsh br16 ar16 []) (tabL [entL16_4 l16_4]) ann16 0 Try.f16 4 (encL16_4 (x1, x2, x3, x4)) K = u16_4 sh l16_4 x1 x2 x3 x4 (retKL16_4 K) := by kernel_rfl
theorem u16_4_law {R : Type} (l16_4 : iL16_4 → Option oL16_4) (x1 : Rows) (x2 : Int) (x3 : Rows) (x4 : Rows) (K : oL16_4 → Option R) : u16_4 sh0 l16_4 x1 x2 x3 x4 K = (u16_4 sh0 l16_4 x1 x2 x3 x4 some).bind K := by
  simp only [u16_4, sh0, cond_bind', two_bind, none_bind', Option.bind_assoc, Option.bind_some]
theorem okL16_4 (l16_4 : iL16_4 → Option oL16_4) (hl16_4 : SdL16_4 l16_4) : SdL16_4 (fun a => u16_4 sh0 l16_4 a.1 a.2.1 a.2.2.1 a.2.2.2 some) := by
  intro nt a b h
  refine round_ok (sh := sh0) (hsh := fun _ _ => rfl) (br := br16) (ar := ar16) Try.mixed (by kernel_rfl) .nil (.cons (mkLEnt_ok (hl16_4 nt)) .nil) ((u16_4_eq sh0 (fun _ _ => rfl) l16_4  a.1 a.2.1 a.2.2.1 a.2.2.2 _).trans ?_)
  rw [u16_4_law]
  simp only at h
  rw [h, Option.bind_some, retKL16_4_eq]
noncomputable def t16 {R : Type} (sh : Sh) (f33 : i33 → Option o33) (f32 : i32 → Option o32) (l16_4 : iL16_4 → Option oL16_4) (x1 : Int) (x2 : Rows) (k : o16 → Option R) : Option R :=
  sh (List.replicate (32 : Nat) [Go.Ev.DL.int Go.IntKind.u8 (0 : Int)] : Rows) fun y1 =>
  sh (List.replicate (32 : Nat) [Go.Ev.DL.int Go.IntKind.u8 (0 : Int)] : Rows) fun y2 =>
  (f33 (x1, x2)).bind fun (r3 : Int × Int × Int × Int × Int) =>
  (f32 (Prod.fst r3, Prod.fst r3.2, Prod.fst (Prod.snd r3).2, Prod.fst (Prod.snd (Prod.snd r3)).2, Prod.snd (Prod.snd (Prod.snd r3)).2, (32 : Int))).bind fun (r4 : Rows) =>
  (l16_4 (r4, (0 : Int), y1, y2)).bind fun (r7 : Rows × Rows) =>
  bif Decidable.decide (List.length (Prod.snd r7) = (32 : Nat)) then
    bif Decidable.decide (List.length (Prod.fst r7) = (32 : Nat)) then
      sh (Go.Ev.colD (Go.Ev.mapD Go.IntKind.u8 (Go.Ev.colI (Prod.snd r7) (32 : Nat))) : Rows) fun y8 =>
      bif Decidable.decide (List.length y8 = (32 : Nat)) then
        k (Go.Ev.colI y8 (32 : Nat))
      else none
    else none
  else none
theorem t16_eq {R : Type} (sh : Sh) (hsh : ∀ {α R : Type} (x : α) (K : α → Option R), sh x K = K x) (f33 : i33 → Option o33) (f32 : i32 → Option o32) (l16_4 : iL16_4 → Option oL16_4) (x1 : Int) (x2 : Rows) (K : CSt → Option R) : bodyK Try.prog (tabO sh hsh br16 ar16 [ent33 f33, ent32 f32]) (tabL [entL16_4 l16_4]) ann16 false Try.f16 (enc16 (x1, x2)) K = t16 sh f33 f32 l16_4 x1 x2 (retK16 K) := by kernel_rfl
theorem t16_law {R : Type} (f33 : i33 → Option o33) (f32 : i32 → Option o32) (l16_4 : iL16_4 → Option oL16_4) (x1 : Int) (x2 : Rows) (K : o16 → Option R) : t16 sh0 f33 f32 l16_4 x1 x2 K = (t16 sh0 f33 f32 l16_4 x1 x2 some).bind K := by
  simp only [t16, sh0, cond_bind', two_bind, none_bind', Option.bind_assoc, Option.bind_some]
theorem ok16 (f33 : i33 → Option o33) (f32 : i32 → Option o32) (l16_4 : iL16_4 → Option oL16_4) (hf33 : Sd33 f33) (hf32 : Sd32 f32) (hl16_4 : SdL16_4 l16_4) : Sd16 (fun a => t16 sh0 f33 f32 l16_4 a.1 a.2 some) := by
  intro a b h
  refine call_ok (sh := sh0) (hsh := fun _ _ => rfl) (br := br16) (ar := ar16) (own := false) Try.mixed Try.func16 (by kernel_rfl) (.cons (mkEnt_ok hf33) (.cons (mkEnt_ok hf32) .nil)) (fun nt => (.cons (mkLEnt_ok (hl16_4 nt)) .nil)) ((t16_eq sh0 (fun _ _ => rfl) f33 f32 l16_4 a.1 a.2 _).trans ?_)
  rw [t16_law]
  simp only at h
  rw [h, Option.bind_some, retK16_eq]

/-! 14 erasure/erasurelaw25.awake -/
abbrev i14 : Type := Unit
def enc14 : i14 → CSt := fun a => ([], [])
def dec14 : (c : CSt) → Option { a : i14 // c = enc14 a }
  | ([], []) => some ⟨(), rfl⟩
  | _ => none
abbrev o14 : Type := Bool
def ret14 : o14 → CSt := fun b => ([Go.Ev.SV.one (Go.Ev.SL.d (Go.Ev.DL.bool b))], [])
def retK14 {R : Type} (K : CSt → Option R) : o14 → Option R := fun b => K (([Go.Ev.SV.one (Go.Ev.SL.d (Go.Ev.DL.bool b))], []))
theorem retK14_eq {R : Type} (K : CSt → Option R) (b : o14) : retK14 K b = K (ret14 b) := rfl
abbrev Sd14 (f : i14 → Option o14) : Prop := ∀ a b, f a = some b → CallOk Try.prog 14 (enc14 a) (ret14 b)
def ent14 (f : i14 → Option o14) : Ent := mkEnt 14 dec14 ret14 retK14 retK14_eq f
def ann14 : Nat → List Nat × List Nat := fun id => ([], [])
def br14 : FuncId → Bool := fun (g : Nat) => ([30] : List Nat).any (Nat.beq g)
def ar14 : TypeId → Bool := fun (t : Nat) => ([29, 30, 54, 57] : List Nat).any (Nat.beq t)
noncomputable def t14 {R : Type} (sh : Sh) (f15 : i15 → Option o15) (f17 : i17 → Option o17) (f18 : i18 → Option o18) (f16 : i16 → Option o16) (k : o14 → Option R) : Option R :=
  (f15 ((1 : Int), [])).bind fun (r1 : List Int) =>
  sh (List.replicate (32 : Nat) [Go.Ev.DL.int Go.IntKind.u8 (0 : Int)] : Rows) fun y2 =>
  bif Decidable.decide (List.length y2 = (32 : Nat)) then
    sh (Go.Ev.colD (Go.Ev.mapD Go.IntKind.u8 (Go.Ev.pkL r1 (32 : Nat))) : Rows) fun y3 =>
    bif Decidable.decide (List.length y3 = (32 : Nat)) then
      (f17 (Go.Ev.colI y3 (32 : Nat))).bind fun (r4 : ByteArray) =>
      (f18 (r4)).bind fun (r5 : List Int × Int) =>
      sh (List.replicate (32 : Nat) [Go.Ev.DL.int Go.IntKind.u8 (0 : Int)] : Rows) fun y6 =>
      bif Decidable.decide (List.length y6 = (32 : Nat)) then
        sh (Go.Ev.colD (Go.Ev.mapD Go.IntKind.u8 (Go.Ev.pkL (Prod.fst r5) (32 : Nat))) : Rows) fun y7 =>
        bif Decidable.decide (List.length y3 = (32 : Nat)) then
          (f16 ((1 : Int), [])).bind fun (r8 : List Int) =>
          bif Go.Ev.eqI (Go.Ev.colI y3 (32 : Nat)) (Go.Ev.pkL r8 (32 : Nat)) (32 : Nat) then
            bif Decidable.decide (List.length y3 = (32 : Nat)) then
              bif !Go.Ev.eqI (Go.Ev.colI y3 (32 : Nat)) (List.replicate (32 : Nat) (0 : Int)) (32 : Nat) then
                bif Prod.snd r5 == (0 : Int) then
                  bif Decidable.decide (List.length y7 = (32 : Nat)) then
                    bif Decidable.decide (List.length y3 = (32 : Nat)) then
                      k (Go.Ev.eqI (Go.Ev.colI y7 (32 : Nat)) (Go.Ev.colI y3 (32 : Nat)) (32 : Nat))
                    else none
                  else none
                else
                  k (Bool.false)
              else
                k (Bool.false)
            else none
          else
            k (Bool.false)
        else none
      else none
    else none
  else none
theorem t14_eq {R : Type} (sh : Sh) (hsh : ∀ {α R : Type} (x : α) (K : α → Option R), sh x K = K x) (f15 : i15 → Option o15) (f17 : i17 → Option o17) (f18 : i18 → Option o18) (f16 : i16 → Option o16) (K : CSt → Option R) : bodyK Try.prog (tabO sh hsh br14 ar14 [ent15 f15, ent17 f17, ent18 f18, ent16 f16]) (tabL []) ann14 false Try.f14 (enc14 ()) K = t14 sh f15 f17 f18 f16 (retK14 K) := by kernel_rfl
theorem t14_law {R : Type} (f15 : i15 → Option o15) (f17 : i17 → Option o17) (f18 : i18 → Option o18) (f16 : i16 → Option o16) (K : o14 → Option R) : t14 sh0 f15 f17 f18 f16 K = (t14 sh0 f15 f17 f18 f16 some).bind K := by
  simp only [t14, sh0, cond_bind', two_bind, none_bind', Option.bind_assoc, Option.bind_some]
theorem ok14 (f15 : i15 → Option o15) (f17 : i17 → Option o17) (f18 : i18 → Option o18) (f16 : i16 → Option o16) (hf15 : Sd15 f15) (hf17 : Sd17 f17) (hf18 : Sd18 f18) (hf16 : Sd16 f16) : Sd14 (fun a => t14 sh0 f15 f17 f18 f16 some) := by
  intro a b h
  refine call_ok (sh := sh0) (hsh := fun _ _ => rfl) (br := br14) (ar := ar14) (own := false) Try.mixed Try.func14 (by kernel_rfl) (.cons (mkEnt_ok hf15) (.cons (mkEnt_ok hf17) (.cons (mkEnt_ok hf18) (.cons (mkEnt_ok hf16) .nil)))) (fun nt => .nil) ((t14_eq sh0 (fun _ _ => rfl) f15 f17 f18 f16 _).trans ?_)
  rw [t14_law]
  simp only at h
  rw [h, Option.bind_some, retK14_eq]

/-! 3 erasure/erasurelaw25.DigestPermutes -/
abbrev i3 : Type := Int × Int × Int × Int × Int
def enc3 : i3 → CSt := fun a => ([Go.Ev.SV.agg [Go.Ev.SL.d (Go.Ev.DL.int Go.IntKind.u64 a.1), Go.Ev.SL.d (Go.Ev.DL.int Go.IntKind.u64 a.2.1), Go.Ev.SL.d (Go.Ev.DL.int Go.IntKind.u64 a.2.2.1), Go.Ev.SL.d (Go.Ev.DL.int Go.IntKind.u64 a.2.2.2.1), Go.Ev.SL.d (Go.Ev.DL.int Go.IntKind.u64 a.2.2.2.2)]], [])
def dec3 : (c : CSt) → Option { a : i3 // c = enc3 a }
  | ([Go.Ev.SV.agg [Go.Ev.SL.d (Go.Ev.DL.int Go.IntKind.u64 x1), Go.Ev.SL.d (Go.Ev.DL.int Go.IntKind.u64 x2), Go.Ev.SL.d (Go.Ev.DL.int Go.IntKind.u64 x3), Go.Ev.SL.d (Go.Ev.DL.int Go.IntKind.u64 x4), Go.Ev.SL.d (Go.Ev.DL.int Go.IntKind.u64 x5)]], []) => some ⟨(x1, x2, x3, x4, x5), rfl⟩
  | _ => none
abbrev o3 : Type := Bool
def ret3 : o3 → CSt := fun b => ([Go.Ev.SV.one (Go.Ev.SL.d (Go.Ev.DL.bool b))], [])
def retK3 {R : Type} (K : CSt → Option R) : o3 → Option R := fun b => K (([Go.Ev.SV.one (Go.Ev.SL.d (Go.Ev.DL.bool b))], []))
theorem retK3_eq {R : Type} (K : CSt → Option R) (b : o3) : retK3 K b = K (ret3 b) := rfl
abbrev Sd3 (f : i3 → Option o3) : Prop := ∀ a b, f a = some b → CallOk Try.prog 3 (enc3 a) (ret3 b)
def ent3 (f : i3 → Option o3) : Ent := mkEnt 3 dec3 ret3 retK3 retK3_eq f
def ann3 : Nat → List Nat × List Nat := fun id => ([], [])
def br3 : FuncId → Bool := fun (g : Nat) => ([30] : List Nat).any (Nat.beq g)
def ar3 : TypeId → Bool := fun (t : Nat) => ([29, 30, 54, 57] : List Nat).any (Nat.beq t)
noncomputable def t3 {R : Type} (sh : Sh) (f12 : i12 → Option o12) (f13 : i13 → Option o13) (f14 : i14 → Option o14) (x1 : Int) (x2 : Int) (x3 : Int) (x4 : Int) (x5 : Int) (k : o3 → Option R) : Option R :=
  (f12 (x1, x2, x3, x4, x5)).bind fun (r1 : Int × Int × Int × Int × Int) =>
  (f13 (x1, x2, x3, x4, x5)).bind fun (r2 : Int × Int × Int × Int × Int) =>
  bif Prod.fst r1 == Prod.fst r2 && (Prod.fst r1.2 == Prod.fst r2.2 && (Prod.fst (Prod.snd r1).2 == Prod.fst (Prod.snd r2).2 && (Prod.fst (Prod.snd (Prod.snd r1)).2 == Prod.fst (Prod.snd (Prod.snd r2)).2 && (Prod.snd (Prod.snd (Prod.snd r1)).2 == Prod.snd (Prod.snd (Prod.snd r2)).2 && Bool.true)))) then
    (f14 ()).bind fun (r3 : Bool) =>
    k (r3)
  else
    k (Bool.false)
theorem t3_eq {R : Type} (sh : Sh) (hsh : ∀ {α R : Type} (x : α) (K : α → Option R), sh x K = K x) (f12 : i12 → Option o12) (f13 : i13 → Option o13) (f14 : i14 → Option o14) (x1 : Int) (x2 : Int) (x3 : Int) (x4 : Int) (x5 : Int) (K : CSt → Option R) : bodyK Try.prog (tabO sh hsh br3 ar3 [ent12 f12, ent13 f13, ent14 f14]) (tabL []) ann3 false Try.f3 (enc3 (x1, x2, x3, x4, x5)) K = t3 sh f12 f13 f14 x1 x2 x3 x4 x5 (retK3 K) := by kernel_rfl
theorem t3_law {R : Type} (f12 : i12 → Option o12) (f13 : i13 → Option o13) (f14 : i14 → Option o14) (x1 : Int) (x2 : Int) (x3 : Int) (x4 : Int) (x5 : Int) (K : o3 → Option R) : t3 sh0 f12 f13 f14 x1 x2 x3 x4 x5 K = (t3 sh0 f12 f13 f14 x1 x2 x3 x4 x5 some).bind K := by
  simp only [t3, sh0, cond_bind', two_bind, none_bind', Option.bind_assoc, Option.bind_some]
theorem ok3 (f12 : i12 → Option o12) (f13 : i13 → Option o13) (f14 : i14 → Option o14) (hf12 : Sd12 f12) (hf13 : Sd13 f13) (hf14 : Sd14 f14) : Sd3 (fun a => t3 sh0 f12 f13 f14 a.1 a.2.1 a.2.2.1 a.2.2.2.1 a.2.2.2.2 some) := by
  intro a b h
  refine call_ok (sh := sh0) (hsh := fun _ _ => rfl) (br := br3) (ar := ar3) (own := false) Try.mixed Try.func3 (by kernel_rfl) (.cons (mkEnt_ok hf12) (.cons (mkEnt_ok hf13) (.cons (mkEnt_ok hf14) .nil))) (fun nt => .nil) ((t3_eq sh0 (fun _ _ => rfl) f12 f13 f14 a.1 a.2.1 a.2.2.1 a.2.2.2.1 a.2.2.2.2 _).trans ?_)
  rw [t3_law]
  simp only at h
  rw [h, Option.bind_some, retK3_eq]

/-! 4 erasure/erasurelaw25.DigestInjective -/
abbrev i4 : Type := Int × Int × Int × Int × Int × Int × Int × Int × Int × Int
def enc4 : i4 → CSt := fun a => ([Go.Ev.SV.agg [Go.Ev.SL.d (Go.Ev.DL.int Go.IntKind.u64 a.1), Go.Ev.SL.d (Go.Ev.DL.int Go.IntKind.u64 a.2.1), Go.Ev.SL.d (Go.Ev.DL.int Go.IntKind.u64 a.2.2.1), Go.Ev.SL.d (Go.Ev.DL.int Go.IntKind.u64 a.2.2.2.1), Go.Ev.SL.d (Go.Ev.DL.int Go.IntKind.u64 a.2.2.2.2.1)], Go.Ev.SV.agg [Go.Ev.SL.d (Go.Ev.DL.int Go.IntKind.u64 a.2.2.2.2.2.1), Go.Ev.SL.d (Go.Ev.DL.int Go.IntKind.u64 a.2.2.2.2.2.2.1), Go.Ev.SL.d (Go.Ev.DL.int Go.IntKind.u64 a.2.2.2.2.2.2.2.1), Go.Ev.SL.d (Go.Ev.DL.int Go.IntKind.u64 a.2.2.2.2.2.2.2.2.1), Go.Ev.SL.d (Go.Ev.DL.int Go.IntKind.u64 a.2.2.2.2.2.2.2.2.2)]], [])
def dec4 : (c : CSt) → Option { a : i4 // c = enc4 a }
  | ([Go.Ev.SV.agg [Go.Ev.SL.d (Go.Ev.DL.int Go.IntKind.u64 x1), Go.Ev.SL.d (Go.Ev.DL.int Go.IntKind.u64 x2), Go.Ev.SL.d (Go.Ev.DL.int Go.IntKind.u64 x3), Go.Ev.SL.d (Go.Ev.DL.int Go.IntKind.u64 x4), Go.Ev.SL.d (Go.Ev.DL.int Go.IntKind.u64 x5)], Go.Ev.SV.agg [Go.Ev.SL.d (Go.Ev.DL.int Go.IntKind.u64 x6), Go.Ev.SL.d (Go.Ev.DL.int Go.IntKind.u64 x7), Go.Ev.SL.d (Go.Ev.DL.int Go.IntKind.u64 x8), Go.Ev.SL.d (Go.Ev.DL.int Go.IntKind.u64 x9), Go.Ev.SL.d (Go.Ev.DL.int Go.IntKind.u64 x10)]], []) => some ⟨(x1, x2, x3, x4, x5, x6, x7, x8, x9, x10), rfl⟩
  | _ => none
abbrev o4 : Type := Bool
def ret4 : o4 → CSt := fun b => ([Go.Ev.SV.one (Go.Ev.SL.d (Go.Ev.DL.bool b))], [])
def retK4 {R : Type} (K : CSt → Option R) : o4 → Option R := fun b => K (([Go.Ev.SV.one (Go.Ev.SL.d (Go.Ev.DL.bool b))], []))
theorem retK4_eq {R : Type} (K : CSt → Option R) (b : o4) : retK4 K b = K (ret4 b) := rfl
abbrev Sd4 (f : i4 → Option o4) : Prop := ∀ a b, f a = some b → CallOk Try.prog 4 (enc4 a) (ret4 b)
def ent4 (f : i4 → Option o4) : Ent := mkEnt 4 dec4 ret4 retK4 retK4_eq f
def ann4 : Nat → List Nat × List Nat := fun id => ([], [])
def br4 : FuncId → Bool := fun (g : Nat) => ([30] : List Nat).any (Nat.beq g)
def ar4 : TypeId → Bool := fun (t : Nat) => ([29, 30, 54, 57] : List Nat).any (Nat.beq t)
noncomputable def t4 {R : Type} (sh : Sh) (f12 : i12 → Option o12) (f14 : i14 → Option o14) (x1 : Int) (x2 : Int) (x3 : Int) (x4 : Int) (x5 : Int) (x6 : Int) (x7 : Int) (x8 : Int) (x9 : Int) (x10 : Int) (k : o4 → Option R) : Option R :=
  (f12 (x1, x2, x3, x4, x5)).bind fun (r1 : Int × Int × Int × Int × Int) =>
  (f12 (x6, x7, x8, x9, x10)).bind fun (r2 : Int × Int × Int × Int × Int) =>
  bif (Prod.fst r1 == Prod.fst r2 && (Prod.fst r1.2 == Prod.fst r2.2 && (Prod.fst (Prod.snd r1).2 == Prod.fst (Prod.snd r2).2 && (Prod.fst (Prod.snd (Prod.snd r1)).2 == Prod.fst (Prod.snd (Prod.snd r2)).2 && (Prod.snd (Prod.snd (Prod.snd r1)).2 == Prod.snd (Prod.snd (Prod.snd r2)).2 && Bool.true))))) == (x1 == x6 && (x2 == x7 && (x3 == x8 && (x4 == x9 && (x5 == x10 && Bool.true))))) then
    (f14 ()).bind fun (r3 : Bool) =>
    k (r3)
  else
    k (Bool.false)
theorem t4_eq {R : Type} (sh : Sh) (hsh : ∀ {α R : Type} (x : α) (K : α → Option R), sh x K = K x) (f12 : i12 → Option o12) (f14 : i14 → Option o14) (x1 : Int) (x2 : Int) (x3 : Int) (x4 : Int) (x5 : Int) (x6 : Int) (x7 : Int) (x8 : Int) (x9 : Int) (x10 : Int) (K : CSt → Option R) : bodyK Try.prog (tabO sh hsh br4 ar4 [ent12 f12, ent14 f14]) (tabL []) ann4 false Try.f4 (enc4 (x1, x2, x3, x4, x5, x6, x7, x8, x9, x10)) K = t4 sh f12 f14 x1 x2 x3 x4 x5 x6 x7 x8 x9 x10 (retK4 K) := by kernel_rfl
theorem t4_law {R : Type} (f12 : i12 → Option o12) (f14 : i14 → Option o14) (x1 : Int) (x2 : Int) (x3 : Int) (x4 : Int) (x5 : Int) (x6 : Int) (x7 : Int) (x8 : Int) (x9 : Int) (x10 : Int) (K : o4 → Option R) : t4 sh0 f12 f14 x1 x2 x3 x4 x5 x6 x7 x8 x9 x10 K = (t4 sh0 f12 f14 x1 x2 x3 x4 x5 x6 x7 x8 x9 x10 some).bind K := by
  simp only [t4, sh0, cond_bind', two_bind, none_bind', Option.bind_assoc, Option.bind_some]
theorem ok4 (f12 : i12 → Option o12) (f14 : i14 → Option o14) (hf12 : Sd12 f12) (hf14 : Sd14 f14) : Sd4 (fun a => t4 sh0 f12 f14 a.1 a.2.1 a.2.2.1 a.2.2.2.1 a.2.2.2.2.1 a.2.2.2.2.2.1 a.2.2.2.2.2.2.1 a.2.2.2.2.2.2.2.1 a.2.2.2.2.2.2.2.2.1 a.2.2.2.2.2.2.2.2.2 some) := by
  intro a b h
  refine call_ok (sh := sh0) (hsh := fun _ _ => rfl) (br := br4) (ar := ar4) (own := false) Try.mixed Try.func4 (by kernel_rfl) (.cons (mkEnt_ok hf12) (.cons (mkEnt_ok hf14) .nil)) (fun nt => .nil) ((t4_eq sh0 (fun _ _ => rfl) f12 f14 a.1 a.2.1 a.2.2.1 a.2.2.2.1 a.2.2.2.2.1 a.2.2.2.2.2.1 a.2.2.2.2.2.2.1 a.2.2.2.2.2.2.2.1 a.2.2.2.2.2.2.2.2.1 a.2.2.2.2.2.2.2.2.2 _).trans ?_)
  rw [t4_law]
  simp only at h
  rw [h, Option.bind_some, retK4_eq]

/-! 5 erasure/erasurelaw25.DigestSums -/
abbrev i5 : Type := Int × Rows
def enc5 : i5 → CSt := fun a => ([Go.Ev.SV.one (Go.Ev.SL.d (Go.Ev.DL.int Go.IntKind.u64 a.1)), Go.Ev.SV.one (Go.Ev.SL.d (Go.Ev.DL.lst (5 : Nat) a.2))], [])
def dec5 : (c : CSt) → Option { a : i5 // c = enc5 a }
  | ([Go.Ev.SV.one (Go.Ev.SL.d (Go.Ev.DL.int Go.IntKind.u64 x1)), Go.Ev.SV.one (Go.Ev.SL.d (Go.Ev.DL.lst (5 : Nat) x2))], []) => some ⟨(x1, x2), rfl⟩
  | _ => none
abbrev o5 : Type := Bool
def ret5 : o5 → CSt := fun b => ([Go.Ev.SV.one (Go.Ev.SL.d (Go.Ev.DL.bool b))], [])
def retK5 {R : Type} (K : CSt → Option R) : o5 → Option R := fun b => K (([Go.Ev.SV.one (Go.Ev.SL.d (Go.Ev.DL.bool b))], []))
theorem retK5_eq {R : Type} (K : CSt → Option R) (b : o5) : retK5 K b = K (ret5 b) := rfl
abbrev Sd5 (f : i5 → Option o5) : Prop := ∀ a b, f a = some b → CallOk Try.prog 5 (enc5 a) (ret5 b)
def ent5 (f : i5 → Option o5) : Ent := mkEnt 5 dec5 ret5 retK5 retK5_eq f
def ann5 : Nat → List Nat × List Nat := fun id => ([], [])
def br5 : FuncId → Bool := fun (g : Nat) => ([30] : List Nat).any (Nat.beq g)
def ar5 : TypeId → Bool := fun (t : Nat) => ([29, 30, 54, 57] : List Nat).any (Nat.beq t)
noncomputable def t5 {R : Type} (sh : Sh) (f14 : i14 → Option o14) (f15 : i15 → Option o15) (f16 : i16 → Option o16) (x1 : Int) (x2 : Rows) (k : o5 → Option R) : Option R :=
  sh ((↑(List.length x2) : Int)) fun y1 =>
  bif Decidable.decide (y1 > (300 : Int)) then
    (f14 ()).bind fun (r2 : Bool) =>
    k (r2)
  else
    (f15 (x1, x2)).bind fun (r3 : List Int) =>
    (f16 (x1, x2)).bind fun (r4 : List Int) =>
    bif Go.Ev.eqI (Go.Ev.pkL r3 (32 : Nat)) (Go.Ev.pkL r4 (32 : Nat)) (32 : Nat) then
      (f14 ()).bind fun (r5 : Bool) =>
      k (r5)
    else
      k (Bool.false)
theorem t5_eq {R : Type} (sh : Sh) (hsh : ∀ {α R : Type} (x : α) (K : α → Option R), sh x K = K x) (f14 : i14 → Option o14) (f15 : i15 → Option o15) (f16 : i16 → Option o16) (x1 : Int) (x2 : Rows) (K : CSt → Option R) : bodyK Try.prog (tabO sh hsh br5 ar5 [ent14 f14, ent15 f15, ent16 f16]) (tabL []) ann5 false Try.f5 (enc5 (x1, x2)) K = t5 sh f14 f15 f16 x1 x2 (retK5 K) := by kernel_rfl
theorem t5_law {R : Type} (f14 : i14 → Option o14) (f15 : i15 → Option o15) (f16 : i16 → Option o16) (x1 : Int) (x2 : Rows) (K : o5 → Option R) : t5 sh0 f14 f15 f16 x1 x2 K = (t5 sh0 f14 f15 f16 x1 x2 some).bind K := by
  simp only [t5, sh0, cond_bind', two_bind, none_bind', Option.bind_assoc, Option.bind_some]
theorem ok5 (f14 : i14 → Option o14) (f15 : i15 → Option o15) (f16 : i16 → Option o16) (hf14 : Sd14 f14) (hf15 : Sd15 f15) (hf16 : Sd16 f16) : Sd5 (fun a => t5 sh0 f14 f15 f16 a.1 a.2 some) := by
  intro a b h
  refine call_ok (sh := sh0) (hsh := fun _ _ => rfl) (br := br5) (ar := ar5) (own := false) Try.mixed Try.func5 (by kernel_rfl) (.cons (mkEnt_ok hf14) (.cons (mkEnt_ok hf15) (.cons (mkEnt_ok hf16) .nil))) (fun nt => .nil) ((t5_eq sh0 (fun _ _ => rfl) f14 f15 f16 a.1 a.2 _).trans ?_)
  rw [t5_law]
  simp only at h
  rw [h, Option.bind_some, retK5_eq]

/-! 19 erasure/erasureref25.Format -/
abbrev i19 : Type := List Int
def enc19 : i19 → CSt := fun a => ([Go.Ev.SV.agg (Go.Ev.pkS Go.IntKind.u8 a (32 : Nat))], [])
def dec19 : (c : CSt) → Option { a : i19 // c = enc19 a }
  | ([Go.Ev.SV.agg [Go.Ev.SL.d (Go.Ev.DL.int Go.IntKind.u8 x1_0), Go.Ev.SL.d (Go.Ev.DL.int Go.IntKind.u8 x1_1), Go.Ev.SL.d (Go.Ev.DL.int Go.IntKind.u8 x1_2), Go.Ev.SL.d (Go.Ev.DL.int Go.IntKind.u8 x1_3), Go.Ev.SL.d (Go.Ev.DL.int Go.IntKind.u8 x1_4), Go.Ev.SL.d (Go.Ev.DL.int Go.IntKind.u8 x1_5), Go.Ev.SL.d (Go.Ev.DL.int Go.IntKind.u8 x1_6), Go.Ev.SL.d (Go.Ev.DL.int Go.IntKind.u8 x1_7), Go.Ev.SL.d (Go.Ev.DL.int Go.IntKind.u8 x1_8), Go.Ev.SL.d (Go.Ev.DL.int Go.IntKind.u8 x1_9), Go.Ev.SL.d (Go.Ev.DL.int Go.IntKind.u8 x1_10), Go.Ev.SL.d (Go.Ev.DL.int Go.IntKind.u8 x1_11), Go.Ev.SL.d (Go.Ev.DL.int Go.IntKind.u8 x1_12), Go.Ev.SL.d (Go.Ev.DL.int Go.IntKind.u8 x1_13), Go.Ev.SL.d (Go.Ev.DL.int Go.IntKind.u8 x1_14), Go.Ev.SL.d (Go.Ev.DL.int Go.IntKind.u8 x1_15), Go.Ev.SL.d (Go.Ev.DL.int Go.IntKind.u8 x1_16), Go.Ev.SL.d (Go.Ev.DL.int Go.IntKind.u8 x1_17), Go.Ev.SL.d (Go.Ev.DL.int Go.IntKind.u8 x1_18), Go.Ev.SL.d (Go.Ev.DL.int Go.IntKind.u8 x1_19), Go.Ev.SL.d (Go.Ev.DL.int Go.IntKind.u8 x1_20), Go.Ev.SL.d (Go.Ev.DL.int Go.IntKind.u8 x1_21), Go.Ev.SL.d (Go.Ev.DL.int Go.IntKind.u8 x1_22), Go.Ev.SL.d (Go.Ev.DL.int Go.IntKind.u8 x1_23), Go.Ev.SL.d (Go.Ev.DL.int Go.IntKind.u8 x1_24), Go.Ev.SL.d (Go.Ev.DL.int Go.IntKind.u8 x1_25), Go.Ev.SL.d (Go.Ev.DL.int Go.IntKind.u8 x1_26), Go.Ev.SL.d (Go.Ev.DL.int Go.IntKind.u8 x1_27), Go.Ev.SL.d (Go.Ev.DL.int Go.IntKind.u8 x1_28), Go.Ev.SL.d (Go.Ev.DL.int Go.IntKind.u8 x1_29), Go.Ev.SL.d (Go.Ev.DL.int Go.IntKind.u8 x1_30), Go.Ev.SL.d (Go.Ev.DL.int Go.IntKind.u8 x1_31)]], []) => some ⟨[x1_0, x1_1, x1_2, x1_3, x1_4, x1_5, x1_6, x1_7, x1_8, x1_9, x1_10, x1_11, x1_12, x1_13, x1_14, x1_15, x1_16, x1_17, x1_18, x1_19, x1_20, x1_21, x1_22, x1_23, x1_24, x1_25, x1_26, x1_27, x1_28, x1_29, x1_30, x1_31], rfl⟩
  | _ => none
abbrev o19 : Type := ByteArray
def ret19 : o19 → CSt := fun b => ([Go.Ev.SV.one (Go.Ev.SL.d (Go.Ev.DL.str b))], [])
def retK19 {R : Type} (K : CSt → Option R) : o19 → Option R := fun b => K (([Go.Ev.SV.one (Go.Ev.SL.d (Go.Ev.DL.str b))], []))
theorem retK19_eq {R : Type} (K : CSt → Option R) (b : o19) : retK19 K b = K (ret19 b) := rfl
abbrev Sd19 (f : i19 → Option o19) : Prop := ∀ a b, f a = some b → CallOk Try.prog 19 (enc19 a) (ret19 b)
def ent19 (f : i19 → Option o19) : Ent := mkEnt 19 dec19 ret19 retK19 retK19_eq f
def ann19 : Nat → List Nat × List Nat := fun id => bif Nat.beq id 3 then ([1, 3, 4], [3]) else ([], [])
def br19 : FuncId → Bool := fun (g : Nat) => ([30] : List Nat).any (Nat.beq g)
def ar19 : TypeId → Bool := fun (t : Nat) => ([29, 30, 54, 57] : List Nat).any (Nat.beq t)
abbrev iL19_3 : Type := ByteArray × Int × Rows
def encL19_3 : iL19_3 → CSt := fun a => ([Go.Ev.SV.one (Go.Ev.SL.ept (0 : Nat) (0 : Nat) (0 : Nat)), Go.Ev.SV.one (Go.Ev.SL.d (Go.Ev.DL.str a.1)), Go.Ev.SV.one (Go.Ev.SL.d (Go.Ev.DL.int Go.IntKind.i64 a.2.1))], [Go.Ev.Obj.vec (5 : Nat) Bool.false a.2.2])
def decL19_3 : (c : CSt) → Option { a : iL19_3 // c = encL19_3 a }
  | ([Go.Ev.SV.one (Go.Ev.SL.ept (0 : Nat) (0 : Nat) (0 : Nat)), Go.Ev.SV.one (Go.Ev.SL.d (Go.Ev.DL.str x1)), Go.Ev.SV.one (Go.Ev.SL.d (Go.Ev.DL.int Go.IntKind.i64 x2))], [Go.Ev.Obj.vec (5 : Nat) Bool.false x3]) => some ⟨(x1, x2, x3), rfl⟩
  | _ => none
abbrev oL19_3 : Type := ByteArray
def retL19_3 : oL19_3 → Ex × CSt := fun b => (Go.Ev.Ex.exit (0 : Nat), ([Go.Ev.SV.one (Go.Ev.SL.d (Go.Ev.DL.str b))], []))
def retKL19_3 {R : Type} (K : Ex → CSt → Option R) : oL19_3 → Option R := fun b => K (Go.Ev.Ex.exit (0 : Nat)) (([Go.Ev.SV.one (Go.Ev.SL.d (Go.Ev.DL.str b))], []))
theorem retKL19_3_eq {R : Type} (K : Ex → CSt → Option R) (b : oL19_3) : retKL19_3 K b = K (retL19_3 b).1 (retL19_3 b).2 := rfl
def entL19_3 (l : iL19_3 → Option oL19_3) : LEnt := mkLEnt 3 decL19_3 retL19_3 retKL19_3 retKL19_3_eq l
abbrev SdL19_3 (l : iL19_3 → Option oL19_3) : Prop := ∀ nt a b, l a = some b → LoopAt Try.prog nt 0 ann19 Try.f19 3 (encL19_3 a) (retL19_3 b)
noncomputable def u19_3 {R : Type} (sh : Sh) (l19_3 : iL19_3 → Option oL19_3) (x1 : ByteArray) (x2 : Int) (x3 : Rows) (k : oL19_3 → Option R) : Option R :=
  bif Decidable.decide (x2 < (32 : Int)) then
    bif Decidable.decide ((0 : Int) ≤ x2 ∧ x2 < (32 : Int)) then
      bif Decidable.decide (Int.toNat x2 < List.length x3) then
        sh (Go.Ev.DL.getI (Go.Ev.cellAt x3 (Int.toNat x2) (0 : Nat))) fun y2 =>
        bif Decidable.decide ((0 : Int) ≤ x2 ∧ x2 < (32 : Int)) then
          bif Decidable.decide (Int.toNat x2 < List.length x3) then
            sh (Go.Ev.DL.getI (Go.Ev.cellAt x3 (Int.toNat x2) (0 : Nat))) fun y3 =>
            bif Decidable.decide ((0 : Int) ≤ Go.IntKind.wrap Go.IntKind.u8 (Int.tdiv y2 (16 : Int)) ∧ Go.IntKind.wrap Go.IntKind.u8 (Int.tdiv y2 (16 : Int)) ≤ Go.IntKind.wrap Go.IntKind.u8 (Go.IntKind.wrap Go.IntKind.u8 (Int.tdiv y2 (16 : Int)) + (1 : Int)) ∧ Go.IntKind.wrap Go.IntKind.u8 (Go.IntKind.wrap Go.IntKind.u8 (Int.tdiv y2 (16 : Int)) + (1 : Int)) ≤ (16 : Int)) then
              sh (ByteArray.extract { data := #[(48 : UInt8), (49 : UInt8), (50 : UInt8), (51 : UInt8), (52 : UInt8), (53 : UInt8), (54 : UInt8), (55 : UInt8), (56 : UInt8), (57 : UInt8), (97 : UInt8), (98 : UInt8), (99 : UInt8), (100 : UInt8), (101 : UInt8), (102 : UInt8)] } (Int.toNat (Go.IntKind.wrap Go.IntKind.u8 (Int.tdiv y2 (16 : Int)))) (Int.toNat (Go.IntKind.wrap Go.IntKind.u8 (Go.IntKind.wrap Go.IntKind.u8 (Int.tdiv y2 (16 : Int)) + (1 : Int))))) fun y4 =>
              bif Decidable.decide ((↑(ByteArray.size x1 + ByteArray.size y4) : Int) ≤ (9223372036854775807 : Int)) then
                sh (x1 ++ y4) fun y5 =>
                bif Decidable.decide ((0 : Int) ≤ Int.tmod y3 (16 : Int) ∧ Int.tmod y3 (16 : Int) ≤ Go.IntKind.wrap Go.IntKind.u8 (Int.tmod y3 (16 : Int) + (1 : Int)) ∧ Go.IntKind.wrap Go.IntKind.u8 (Int.tmod y3 (16 : Int) + (1 : Int)) ≤ (16 : Int)) then
                  sh (ByteArray.extract { data := #[(48 : UInt8), (49 : UInt8), (50 : UInt8), (51 : UInt8), (52 : UInt8), (53 : UInt8), (54 : UInt8), (55 : UInt8), (56 : UInt8), (57 : UInt8), (97 : UInt8), (98 : UInt8), (99 : UInt8), (100 : UInt8), (101 : UInt8), (102 : UInt8)] } (Int.toNat (Int.tmod y3 (16 : Int))) (Int.toNat (Go.IntKind.wrap Go.IntKind.u8 (Int.tmod y3 (16 : Int) + (1 : Int))))) fun y6 =>
                  bif Decidable.decide ((↑(ByteArray.size y5 + ByteArray.size y6) : Int) ≤ (9223372036854775807 : Int)) then
                    sh (y5 ++ y6) fun y7 =>
                    (l19_3 (y7, Go.IntKind.wrap Go.IntKind.i64 (x2 + (1 : Int)), x3)).bind k
                  else none
                else none
              else none
            else none
          else none
        else none
      else none
    else none
  else
    k (x1)
theorem u19_3_eq {R : Type} (sh : Sh) (hsh : ∀ {α R : Type} (x : α) (K : α → Option R), sh x K = K x) (l19_3 : iL19_3 → Option oL19_3) (x1 : ByteArray) (x2 : Int) (x3 : Rows) (K : Ex → CSt → Option R) : roundK Try.prog (tabO sh hsh br19 ar19 []) (tabL [entL19_3 l19_3]) ann19 0 Try.f19 3 (encL19_3 (x1, x2, x3)) K = u19_3 sh l19_3 x1 x2 x3 (retKL19_3 K) := by kernel_rfl
theorem u19_3_law {R : Type} (l19_3 : iL19_3 → Option oL19_3) (x1 : ByteArray) (x2 : Int) (x3 : Rows) (K : oL19_3 → Option R) : u19_3 sh0 l19_3 x1 x2 x3 K = (u19_3 sh0 l19_3 x1 x2 x3 some).bind K := by
  simp only [u19_3, sh0, cond_bind', two_bind, none_bind', Option.bind_assoc, Option.bind_some]
theorem okL19_3 (l19_3 : iL19_3 → Option oL19_3) (hl19_3 : SdL19_3 l19_3) : SdL19_3 (fun a => u19_3 sh0 l19_3 a.1 a.2.1 a.2.2 some) := by
  intro nt a b h
  refine round_ok (sh := sh0) (hsh := fun _ _ => rfl) (br := br19) (ar := ar19) Try.mixed (by kernel_rfl) .nil (.cons (mkLEnt_ok (hl19_3 nt)) .nil) ((u19_3_eq sh0 (fun _ _ => rfl) l19_3  a.1 a.2.1 a.2.2 _).trans ?_)
  rw [u19_3_law]
  simp only at h
  rw [h, Option.bind_some, retKL19_3_eq]
noncomputable def t19 {R : Type} (sh : Sh) (l19_3 : iL19_3 → Option oL19_3) (x1 : List Int) (k : o19 → Option R) : Option R :=
  sh (Go.Ev.colD (Go.Ev.mapD Go.IntKind.u8 (Go.Ev.pkL x1 (32 : Nat))) : Rows) fun y1 =>
  (l19_3 ({ data := #[] }, (0 : Int), y1)).bind fun (r8 : ByteArray) =>
  k (r8)
theorem t19_eq {R : Type} (sh : Sh) (hsh : ∀ {α R : Type} (x : α) (K : α → Option R), sh x K = K x) (l19_3 : iL19_3 → Option oL19_3) (x1 : List Int) (K : CSt → Option R) : bodyK Try.prog (tabO sh hsh br19 ar19 []) (tabL [entL19_3 l19_3]) ann19 false Try.f19 (enc19 x1) K = t19 sh l19_3 x1 (retK19 K) := by kernel_rfl
theorem t19_law {R : Type} (l19_3 : iL19_3 → Option oL19_3) (x1 : List Int) (K : o19 → Option R) : t19 sh0 l19_3 x1 K = (t19 sh0 l19_3 x1 some).bind K := by
  simp only [t19, sh0, cond_bind', two_bind, none_bind', Option.bind_assoc, Option.bind_some]
theorem ok19 (l19_3 : iL19_3 → Option oL19_3) (hl19_3 : SdL19_3 l19_3) : Sd19 (fun a => t19 sh0 l19_3 a some) := by
  intro a b h
  refine call_ok (sh := sh0) (hsh := fun _ _ => rfl) (br := br19) (ar := ar19) (own := false) Try.mixed Try.func19 (by kernel_rfl) .nil (fun nt => (.cons (mkLEnt_ok (hl19_3 nt)) .nil)) ((t19_eq sh0 (fun _ _ => rfl) l19_3 a _).trans ?_)
  rw [t19_law]
  simp only at h
  rw [h, Option.bind_some, retK19_eq]

/-! 6 erasure/erasurelaw25.DigestFormats -/
abbrev i6 : Type := List Int
def enc6 : i6 → CSt := fun a => ([Go.Ev.SV.agg (Go.Ev.pkS Go.IntKind.u8 a (32 : Nat))], [])
def dec6 : (c : CSt) → Option { a : i6 // c = enc6 a }
  | ([Go.Ev.SV.agg [Go.Ev.SL.d (Go.Ev.DL.int Go.IntKind.u8 x1_0), Go.Ev.SL.d (Go.Ev.DL.int Go.IntKind.u8 x1_1), Go.Ev.SL.d (Go.Ev.DL.int Go.IntKind.u8 x1_2), Go.Ev.SL.d (Go.Ev.DL.int Go.IntKind.u8 x1_3), Go.Ev.SL.d (Go.Ev.DL.int Go.IntKind.u8 x1_4), Go.Ev.SL.d (Go.Ev.DL.int Go.IntKind.u8 x1_5), Go.Ev.SL.d (Go.Ev.DL.int Go.IntKind.u8 x1_6), Go.Ev.SL.d (Go.Ev.DL.int Go.IntKind.u8 x1_7), Go.Ev.SL.d (Go.Ev.DL.int Go.IntKind.u8 x1_8), Go.Ev.SL.d (Go.Ev.DL.int Go.IntKind.u8 x1_9), Go.Ev.SL.d (Go.Ev.DL.int Go.IntKind.u8 x1_10), Go.Ev.SL.d (Go.Ev.DL.int Go.IntKind.u8 x1_11), Go.Ev.SL.d (Go.Ev.DL.int Go.IntKind.u8 x1_12), Go.Ev.SL.d (Go.Ev.DL.int Go.IntKind.u8 x1_13), Go.Ev.SL.d (Go.Ev.DL.int Go.IntKind.u8 x1_14), Go.Ev.SL.d (Go.Ev.DL.int Go.IntKind.u8 x1_15), Go.Ev.SL.d (Go.Ev.DL.int Go.IntKind.u8 x1_16), Go.Ev.SL.d (Go.Ev.DL.int Go.IntKind.u8 x1_17), Go.Ev.SL.d (Go.Ev.DL.int Go.IntKind.u8 x1_18), Go.Ev.SL.d (Go.Ev.DL.int Go.IntKind.u8 x1_19), Go.Ev.SL.d (Go.Ev.DL.int Go.IntKind.u8 x1_20), Go.Ev.SL.d (Go.Ev.DL.int Go.IntKind.u8 x1_21), Go.Ev.SL.d (Go.Ev.DL.int Go.IntKind.u8 x1_22), Go.Ev.SL.d (Go.Ev.DL.int Go.IntKind.u8 x1_23), Go.Ev.SL.d (Go.Ev.DL.int Go.IntKind.u8 x1_24), Go.Ev.SL.d (Go.Ev.DL.int Go.IntKind.u8 x1_25), Go.Ev.SL.d (Go.Ev.DL.int Go.IntKind.u8 x1_26), Go.Ev.SL.d (Go.Ev.DL.int Go.IntKind.u8 x1_27), Go.Ev.SL.d (Go.Ev.DL.int Go.IntKind.u8 x1_28), Go.Ev.SL.d (Go.Ev.DL.int Go.IntKind.u8 x1_29), Go.Ev.SL.d (Go.Ev.DL.int Go.IntKind.u8 x1_30), Go.Ev.SL.d (Go.Ev.DL.int Go.IntKind.u8 x1_31)]], []) => some ⟨[x1_0, x1_1, x1_2, x1_3, x1_4, x1_5, x1_6, x1_7, x1_8, x1_9, x1_10, x1_11, x1_12, x1_13, x1_14, x1_15, x1_16, x1_17, x1_18, x1_19, x1_20, x1_21, x1_22, x1_23, x1_24, x1_25, x1_26, x1_27, x1_28, x1_29, x1_30, x1_31], rfl⟩
  | _ => none
abbrev o6 : Type := Bool
def ret6 : o6 → CSt := fun b => ([Go.Ev.SV.one (Go.Ev.SL.d (Go.Ev.DL.bool b))], [])
def retK6 {R : Type} (K : CSt → Option R) : o6 → Option R := fun b => K (([Go.Ev.SV.one (Go.Ev.SL.d (Go.Ev.DL.bool b))], []))
theorem retK6_eq {R : Type} (K : CSt → Option R) (b : o6) : retK6 K b = K (ret6 b) := rfl
abbrev Sd6 (f : i6 → Option o6) : Prop := ∀ a b, f a = some b → CallOk Try.prog 6 (enc6 a) (ret6 b)
def ent6 (f : i6 → Option o6) : Ent := mkEnt 6 dec6 ret6 retK6 retK6_eq f
def ann6 : Nat → List Nat × List Nat := fun id => ([], [])
def br6 : FuncId → Bool := fun (g : Nat) => ([30] : List Nat).any (Nat.beq g)
def ar6 : TypeId → Bool := fun (t : Nat) => ([29, 30, 54, 57] : List Nat).any (Nat.beq t)
noncomputable def t6 {R : Type} (sh : Sh) (f17 : i17 → Option o17) (f18 : i18 → Option o18) (f19 : i19 → Option o19) (f14 : i14 → Option o14) (x1 : List Int) (k : o6 → Option R) : Option R :=
  sh (Go.Ev.colD (Go.Ev.mapD Go.IntKind.u8 (Go.Ev.pkL x1 (32 : Nat))) : Rows) fun y1 =>
  bif Decidable.decide (List.length y1 = (32 : Nat)) then
    (f17 (Go.Ev.colI y1 (32 : Nat))).bind fun (r2 : ByteArray) =>
    (f18 (r2)).bind fun (r3 : List Int × Int) =>
    sh (List.replicate (32 : Nat) [Go.Ev.DL.int Go.IntKind.u8 (0 : Int)] : Rows) fun y4 =>
    bif Decidable.decide (List.length y4 = (32 : Nat)) then
      sh (Go.Ev.colD (Go.Ev.mapD Go.IntKind.u8 (Go.Ev.pkL (Prod.fst r3) (32 : Nat))) : Rows) fun y5 =>
      bif Decidable.decide (List.length y1 = (32 : Nat)) then
        (f19 (Go.Ev.colI y1 (32 : Nat))).bind fun (r6 : ByteArray) =>
        bif Go.Ev.strEq r2 r6 then
          bif Prod.snd r3 == (0 : Int) then
            bif Decidable.decide (List.length y5 = (32 : Nat)) then
              bif Decidable.decide (List.length y1 = (32 : Nat)) then
                bif Go.Ev.eqI (Go.Ev.colI y5 (32 : Nat)) (Go.Ev.colI y1 (32 : Nat)) (32 : Nat) then
                  (f14 ()).bind fun (r7 : Bool) =>
                  k (r7)
                else
                  k (Bool.false)
              else none
            else none
          else
            k (Bool.false)
        else
          k (Bool.false)
      else none
    else none
  else none
theorem t6_eq {R : Type} (sh : Sh) (hsh : ∀ {α R : Type} (x : α) (K : α → Option R), sh x K = K x) (f17 : i17 → Option o17) (f18 : i18 → Option o18) (f19 : i19 → Option o19) (f14 : i14 → Option o14) (x1 : List Int) (K : CSt → Option R) : bodyK Try.prog (tabO sh hsh br6 ar6 [ent17 f17, ent18 f18, ent19 f19, ent14 f14]) (tabL []) ann6 false Try.f6 (enc6 x1) K = t6 sh f17 f18 f19 f14 x1 (retK6 K) := by kernel_rfl
theorem t6_law {R : Type} (f17 : i17 → Option o17) (f18 : i18 → Option o18) (f19 : i19 → Option o19) (f14 : i14 → Option o14) (x1 : List Int) (K : o6 → Option R) : t6 sh0 f17 f18 f19 f14 x1 K = (t6 sh0 f17 f18 f19 f14 x1 some).bind K := by
  simp only [t6, sh0, cond_bind', two_bind, none_bind', Option.bind_assoc, Option.bind_some]
theorem ok6 (f17 : i17 → Option o17) (f18 : i18 → Option o18) (f19 : i19 → Option o19) (f14 : i14 → Option o14) (hf17 : Sd17 f17) (hf18 : Sd18 f18) (hf19 : Sd19 f19) (hf14 : Sd14 f14) : Sd6 (fun a => t6 sh0 f17 f18 f19 f14 a some) := by
  intro a b h
  refine call_ok (sh := sh0) (hsh := fun _ _ => rfl) (br := br6) (ar := ar6) (own := false) Try.mixed Try.func6 (by kernel_rfl) (.cons (mkEnt_ok hf17) (.cons (mkEnt_ok hf18) (.cons (mkEnt_ok hf19) (.cons (mkEnt_ok hf14) .nil)))) (fun nt => .nil) ((t6_eq sh0 (fun _ _ => rfl) f17 f18 f19 f14 a _).trans ?_)
  rw [t6_law]
  simp only at h
  rw [h, Option.bind_some, retK6_eq]

/-! 35 erasure/erasureref25.digit -/
abbrev i35 : Type := Int
def enc35 : i35 → CSt := fun a => ([Go.Ev.SV.one (Go.Ev.SL.d (Go.Ev.DL.int Go.IntKind.u8 a))], [])
def dec35 : (c : CSt) → Option { a : i35 // c = enc35 a }
  | ([Go.Ev.SV.one (Go.Ev.SL.d (Go.Ev.DL.int Go.IntKind.u8 x1))], []) => some ⟨x1, rfl⟩
  | _ => none
abbrev o35 : Type := Int
def ret35 : o35 → CSt := fun b => ([Go.Ev.SV.one (Go.Ev.SL.d (Go.Ev.DL.int Go.IntKind.i64 b))], [])
def retK35 {R : Type} (K : CSt → Option R) : o35 → Option R := fun b => K (([Go.Ev.SV.one (Go.Ev.SL.d (Go.Ev.DL.int Go.IntKind.i64 b))], []))
theorem retK35_eq {R : Type} (K : CSt → Option R) (b : o35) : retK35 K b = K (ret35 b) := rfl
abbrev Sd35 (f : i35 → Option o35) : Prop := ∀ a b, f a = some b → CallOk Try.prog 35 (enc35 a) (ret35 b)
def ent35 (f : i35 → Option o35) : Ent := mkEnt 35 dec35 ret35 retK35 retK35_eq f
def ann35 : Nat → List Nat × List Nat := fun id => ([], [])
def br35 : FuncId → Bool := fun (g : Nat) => ([30] : List Nat).any (Nat.beq g)
def ar35 : TypeId → Bool := fun (t : Nat) => ([29, 30, 54, 57] : List Nat).any (Nat.beq t)
noncomputable def t35 {R : Type} (sh : Sh) (x1 : Int) (k : o35 → Option R) : Option R :=
  bif Decidable.decide (x1 ≥ (48 : Int)) then
    bif Decidable.decide (x1 ≤ (57 : Int)) then
      k (Go.IntKind.wrap Go.IntKind.i64 (Go.IntKind.wrap Go.IntKind.u8 (x1 - (48 : Int))))
    else
      bif Decidable.decide (x1 ≥ (97 : Int)) then
        bif Decidable.decide (x1 ≤ (102 : Int)) then
          k (Go.IntKind.wrap Go.IntKind.i64 (Go.IntKind.wrap Go.IntKind.i64 (Go.IntKind.wrap Go.IntKind.u8 (x1 - (97 : Int))) + (10 : Int)))
        else
          k ((-1 : Int))
      else
        k ((-1 : Int))
  else
    bif Decidable.decide (x1 ≥ (97 : Int)) then
      bif Decidable.decide (x1 ≤ (102 : Int)) then
        k (Go.IntKind.wrap Go.IntKind.i64 (Go.IntKind.wrap Go.IntKind.i64 (Go.IntKind.wrap Go.IntKind.u8 (x1 - (97 : Int))) + (10 : Int)))
      else
        k ((-1 : Int))
    else
      k ((-1 : Int))
theorem t35_eq {R : Type} (sh : Sh) (hsh : ∀ {α R : Type} (x : α) (K : α → Option R), sh x K = K x) (x1 : Int) (K : CSt → Option R) : bodyK Try.prog (tabO sh hsh br35 ar35 []) (tabL []) ann35 false Try.f35 (enc35 x1) K = t35 sh x1 (retK35 K) := by kernel_rfl
theorem t35_law {R : Type} (x1 : Int) (K : o35 → Option R) : t35 sh0 x1 K = (t35 sh0 x1 some).bind K := by
  simp only [t35, sh0, cond_bind', two_bind, none_bind', Option.bind_assoc, Option.bind_some]
theorem ok35 : Sd35 (fun a => t35 sh0 a some) := by
  intro a b h
  refine call_ok (sh := sh0) (hsh := fun _ _ => rfl) (br := br35) (ar := ar35) (own := false) Try.mixed Try.func35 (by kernel_rfl) .nil (fun nt => .nil) ((t35_eq sh0 (fun _ _ => rfl) a _).trans ?_)
  rw [t35_law]
  simp only at h
  rw [h, Option.bind_some, retK35_eq]

/-! 20 erasure/erasureref25.Parse -/
abbrev i20 : Type := ByteArray
def enc20 : i20 → CSt := fun a => ([Go.Ev.SV.one (Go.Ev.SL.d (Go.Ev.DL.str a))], [])
def dec20 : (c : CSt) → Option { a : i20 // c = enc20 a }
  | ([Go.Ev.SV.one (Go.Ev.SL.d (Go.Ev.DL.str x1))], []) => some ⟨x1, rfl⟩
  | _ => none
abbrev o20 : Type := List Int × Int
def ret20 : o20 → CSt := fun b => ([Go.Ev.SV.agg (Go.Ev.pkS Go.IntKind.u8 b.1 (32 : Nat)), Go.Ev.SV.one (Go.Ev.SL.d (Go.Ev.DL.int Go.IntKind.i64 b.2))], [])
def retK20 {R : Type} (K : CSt → Option R) : o20 → Option R := fun b => K (([Go.Ev.SV.agg (Go.Ev.pkS Go.IntKind.u8 b.1 (32 : Nat)), Go.Ev.SV.one (Go.Ev.SL.d (Go.Ev.DL.int Go.IntKind.i64 b.2))], []))
theorem retK20_eq {R : Type} (K : CSt → Option R) (b : o20) : retK20 K b = K (ret20 b) := rfl
abbrev Sd20 (f : i20 → Option o20) : Prop := ∀ a b, f a = some b → CallOk Try.prog 20 (enc20 a) (ret20 b)
def ent20 (f : i20 → Option o20) : Ent := mkEnt 20 dec20 ret20 retK20 retK20_eq f
def ann20 : Nat → List Nat × List Nat := fun id => bif Nat.beq id 5 then ([0, 2, 4, 5], [2, 3, 4]) else ([], [])
def br20 : FuncId → Bool := fun (g : Nat) => ([30] : List Nat).any (Nat.beq g)
def ar20 : TypeId → Bool := fun (t : Nat) => ([29, 30, 54, 57] : List Nat).any (Nat.beq t)
abbrev iL20_5 : Type := ByteArray × Int × Rows × Rows
def encL20_5 : iL20_5 → CSt := fun a => ([Go.Ev.SV.one (Go.Ev.SL.d (Go.Ev.DL.str a.1)), Go.Ev.SV.one (Go.Ev.SL.ept (0 : Nat) (0 : Nat) (0 : Nat)), Go.Ev.SV.one (Go.Ev.SL.ept (1 : Nat) (0 : Nat) (0 : Nat)), Go.Ev.SV.one (Go.Ev.SL.d (Go.Ev.DL.int Go.IntKind.i64 a.2.1))], [Go.Ev.Obj.vec (5 : Nat) Bool.false a.2.2.1, Go.Ev.Obj.vec (5 : Nat) Bool.false a.2.2.2])
def decL20_5 : (c : CSt) → Option { a : iL20_5 // c = encL20_5 a }
  | ([Go.Ev.SV.one (Go.Ev.SL.d (Go.Ev.DL.str x1)), Go.Ev.SV.one (Go.Ev.SL.ept (0 : Nat) (0 : Nat) (0 : Nat)), Go.Ev.SV.one (Go.Ev.SL.ept (1 : Nat) (0 : Nat) (0 : Nat)), Go.Ev.SV.one (Go.Ev.SL.d (Go.Ev.DL.int Go.IntKind.i64 x2))], [Go.Ev.Obj.vec (5 : Nat) Bool.false x3, Go.Ev.Obj.vec (5 : Nat) Bool.false x4]) => some ⟨(x1, x2, x3, x4), rfl⟩
  | _ => none
abbrev oL20_5 : Type := (Int × Rows × Rows) ⊕ (Rows × Rows)
def retL20_5 : oL20_5 → Ex × CSt := two (fun b => (Go.Ev.Ex.ret, ([Go.Ev.SV.one (Go.Ev.SL.ept (0 : Nat) (0 : Nat) (0 : Nat)), Go.Ev.SV.one (Go.Ev.SL.d (Go.Ev.DL.int Go.IntKind.i64 b.1)), Go.Ev.SV.one (Go.Ev.SL.ept (1 : Nat) (0 : Nat) (0 : Nat))], [Go.Ev.Obj.vec (5 : Nat) Bool.false b.2.1, Go.Ev.Obj.vec (5 : Nat) Bool.false b.2.2]))) (fun b => (Go.Ev.Ex.exit (0 : Nat), ([Go.Ev.SV.one (Go.Ev.SL.ept (0 : Nat) (0 : Nat) (0 : Nat)), Go.Ev.SV.one Go.Ev.SL.un, Go.Ev.SV.one (Go.Ev.SL.ept (1 : Nat) (0 : Nat) (0 : Nat))], [Go.Ev.Obj.vec (5 : Nat) Bool.false b.1, Go.Ev.Obj.vec (5 : Nat) Bool.false b.2])))
def retKL20_5 {R : Type} (K : Ex → CSt → Option R) : oL20_5 → Option R := two (fun b => K (Go.Ev.Ex.ret) (([Go.Ev.SV.one (Go.Ev.SL.ept (0 : Nat) (0 : Nat) (0 : Nat)), Go.Ev.SV.one (Go.Ev.SL.d (Go.Ev.DL.int Go.IntKind.i64 b.1)), Go.Ev.SV.one (Go.Ev.SL.ept (1 : Nat) (0 : Nat) (0 : Nat))], [Go.Ev.Obj.vec (5 : Nat) Bool.false b.2.1, Go.Ev.Obj.vec (5 : Nat) Bool.false b.2.2]))) (fun b => K (Go.Ev.Ex.exit (0 : Nat)) (([Go.Ev.SV.one (Go.Ev.SL.ept (0 : Nat) (0 : Nat) (0 : Nat)), Go.Ev.SV.one Go.Ev.SL.un, Go.Ev.SV.one (Go.Ev.SL.ept (1 : Nat) (0 : Nat) (0 : Nat))], [Go.Ev.Obj.vec (5 : Nat) Bool.false b.1, Go.Ev.Obj.vec (5 : Nat) Bool.false b.2])))
theorem retKL20_5_eq {R : Type} (K : Ex → CSt → Option R) (b : oL20_5) : retKL20_5 K b = K (retL20_5 b).1 (retL20_5 b).2 := by
  unfold retKL20_5 retL20_5
  repeat' (first | rfl | cases b with | inl b => rfl | inr b => ?_)
def entL20_5 (l : iL20_5 → Option oL20_5) : LEnt := mkLEnt 5 decL20_5 retL20_5 retKL20_5 retKL20_5_eq l
abbrev SdL20_5 (l : iL20_5 → Option oL20_5) : Prop := ∀ nt a b, l a = some b → LoopAt Try.prog nt 0 ann20 Try.f20 5 (encL20_5 a) (retL20_5 b)
noncomputable def u20_5 {R : Type} (sh : Sh) (f35 : i35 → Option o35) (l20_5 : iL20_5 → Option oL20_5) (x1 : ByteArray) (x2 : Int) (x3 : Rows) (x4 : Rows) (k : oL20_5 → Option R) : Option R :=
  bif Decidable.decide (x2 < (64 : Int)) then
    bif Decidable.decide ((0 : Int) ≤ x2 ∧ x2 < (↑(ByteArray.size x1) : Int)) then
      sh ((↑(UInt8.toNat (List.getD (Array.toList (ByteArray.data x1)) (Int.toNat x2) (0 : UInt8))) : Int)) fun y5 =>
      (f35 (y5)).bind fun (r6 : Int) =>
      bif Decidable.decide (r6 < (0 : Int)) then
        bif Decidable.decide (List.length x3 = (32 : Nat)) then
          sh (List.replicate (32 : Nat) [Go.Ev.DL.int Go.IntKind.u8 (0 : Int)] : Rows) fun y7 =>
          k ((.inl ((2 : Int), y7, x4)))
        else none
      else
        bif Decidable.decide ((0 : Int) ≤ Go.IntKind.wrap Go.IntKind.i64 (Int.tdiv x2 (2 : Int)) ∧ Go.IntKind.wrap Go.IntKind.i64 (Int.tdiv x2 (2 : Int)) < (32 : Int)) then
          bif Decidable.decide (Int.toNat (Go.IntKind.wrap Go.IntKind.i64 (Int.tdiv x2 (2 : Int))) < List.length x4) then
            sh (Go.Ev.DL.getI (Go.Ev.cellAt x4 (Int.toNat (Go.IntKind.wrap Go.IntKind.i64 (Int.tdiv x2 (2 : Int)))) (0 : Nat))) fun y8 =>
            bif Decidable.decide ((0 : Int) ≤ x2 ∧ x2 < (↑(ByteArray.size x1) : Int)) then
              sh ((↑(UInt8.toNat (List.getD (Array.toList (ByteArray.data x1)) (Int.toNat x2) (0 : UInt8))) : Int)) fun y9 =>
              (f35 (y9)).bind fun (r10 : Int) =>
              sh (Go.IntKind.wrap Go.IntKind.u8 (Go.IntKind.wrap Go.IntKind.u8 (y8 * (16 : Int)) + Go.IntKind.wrap Go.IntKind.u8 r10)) fun y11 =>
              bif Decidable.decide ((0 : Int) ≤ Go.IntKind.wrap Go.IntKind.i64 (Int.tdiv x2 (2 : Int)) ∧ Go.IntKind.wrap Go.IntKind.i64 (Int.tdiv x2 (2 : Int)) < (32 : Int)) then
                bif Decidable.decide (Int.toNat (Go.IntKind.wrap Go.IntKind.i64 (Int.tdiv x2 (2 : Int))) < List.length x4) then
                  sh (List.set x4 (Int.toNat (Go.IntKind.wrap Go.IntKind.i64 (Int.tdiv x2 (2 : Int)))) [Go.Ev.DL.int Go.IntKind.u8 y11] : Rows) fun y12 =>
                  (l20_5 (x1, Go.IntKind.wrap Go.IntKind.i64 (x2 + (1 : Int)), x3, y12)).bind k
                else none
              else none
            else none
          else none
        else none
    else none
  else
    k ((.inr (x3, x4)))
theorem u20_5_eq {R : Type} (sh : Sh) (hsh : ∀ {α R : Type} (x : α) (K : α → Option R), sh x K = K x) (f35 : i35 → Option o35) (l20_5 : iL20_5 → Option oL20_5) (x1 : ByteArray) (x2 : Int) (x3 : Rows) (x4 : Rows) (K : Ex → CSt → Option R) : roundK Try.prog (tabO sh hsh br20 ar20 [ent35 f35]) (tabL [entL20_5 l20_5]) ann20 0 Try.f20 5 (encL20_5 (x1, x2, x3, x4)) K = u20_5 sh f35 l20_5 x1 x2 x3 x4 (retKL20_5 K) := by kernel_rfl
theorem u20_5_law {R : Type} (f35 : i35 → Option o35) (l20_5 : iL20_5 → Option oL20_5) (x1 : ByteArray) (x2 : Int) (x3 : Rows) (x4 : Rows) (K : oL20_5 → Option R) : u20_5 sh0 f35 l20_5 x1 x2 x3 x4 K = (u20_5 sh0 f35 l20_5 x1 x2 x3 x4 some).bind K := by
  simp only [u20_5, sh0, cond_bind', two_bind, none_bind', Option.bind_assoc, Option.bind_some]
theorem okL20_5 (f35 : i35 → Option o35) (l20_5 : iL20_5 → Option oL20_5) (hf35 : Sd35 f35) (hl20_5 : SdL20_5 l20_5) : SdL20_5 (fun a => u20_5 sh0 f35 l20_5 a.1 a.2.1 a.2.2.1 a.2.2.2 some) := by
  intro nt a b h
  refine round_ok (sh := sh0) (hsh := fun _ _ => rfl) (br := br20) (ar := ar20) Try.mixed (by kernel_rfl) (.cons (mkEnt_ok hf35) .nil) (.cons (mkLEnt_ok (hl20_5 nt)) .nil) ((u20_5_eq sh0 (fun _ _ => rfl) f35 l20_5  a.1 a.2.1 a.2.2.1 a.2.2.2 _).trans ?_)
  rw [u20_5_law]
  simp only at h
  rw [h, Option.bind_some, retKL20_5_eq]
noncomputable def t20 {R : Type} (sh : Sh) (l20_5 : iL20_5 → Option oL20_5) (x1 : ByteArray) (k : o20 → Option R) : Option R :=
  sh (List.replicate (32 : Nat) [Go.Ev.DL.int Go.IntKind.u8 (0 : Int)] : Rows) fun y1 =>
  sh (List.replicate (32 : Nat) [Go.Ev.DL.int Go.IntKind.u8 (0 : Int)] : Rows) fun y2 =>
  sh ((↑(ByteArray.size x1) : Int)) fun y3 =>
  bif y3 != (64 : Int) then
    bif Decidable.decide (List.length y2 = (32 : Nat)) then
      bif Decidable.decide (List.length y1 = (32 : Nat)) then
        sh (Go.Ev.colD (Go.Ev.mapD Go.IntKind.u8 (Go.Ev.colI y2 (32 : Nat))) : Rows) fun y4 =>
        bif Decidable.decide (List.length y4 = (32 : Nat)) then
          k ((Go.Ev.colI y4 (32 : Nat), (2 : Int)))
        else none
      else none
    else none
  else
    (l20_5 (x1, (0 : Int), y1, y2)).bind (two (fun (r13 : Int × Rows × Rows) =>
      bif Decidable.decide (List.length (Prod.fst r13.2) = (32 : Nat)) then
        k ((Go.Ev.colI (Prod.fst r13.2) (32 : Nat), Prod.fst r13))
      else none
    ) (fun (r14 : Rows × Rows) =>
      bif Decidable.decide (List.length (Prod.snd r14) = (32 : Nat)) then
        bif Decidable.decide (List.length (Prod.fst r14) = (32 : Nat)) then
          sh (Go.Ev.colD (Go.Ev.mapD Go.IntKind.u8 (Go.Ev.colI (Prod.snd r14) (32 : Nat))) : Rows) fun y15 =>
          bif Decidable.decide (List.length y15 = (32 : Nat)) then
            k ((Go.Ev.colI y15 (32 : Nat), (0 : Int)))
          else none
        else none
      else none
    ))
theorem t20_eq {R : Type} (sh : Sh) (hsh : ∀ {α R : Type} (x : α) (K : α → Option R), sh x K = K x) (l20_5 : iL20_5 → Option oL20_5) (x1 : ByteArray) (K : CSt → Option R) : bodyK Try.prog (tabO sh hsh br20 ar20 []) (tabL [entL20_5 l20_5]) ann20 false Try.f20 (enc20 x1) K = t20 sh l20_5 x1 (retK20 K) := by kernel_rfl
theorem t20_law {R : Type} (l20_5 : iL20_5 → Option oL20_5) (x1 : ByteArray) (K : o20 → Option R) : t20 sh0 l20_5 x1 K = (t20 sh0 l20_5 x1 some).bind K := by
  simp only [t20, sh0, cond_bind', two_bind, none_bind', Option.bind_assoc, Option.bind_some]
theorem ok20 (l20_5 : iL20_5 → Option oL20_5) (hl20_5 : SdL20_5 l20_5) : Sd20 (fun a => t20 sh0 l20_5 a some) := by
  intro a b h
  refine call_ok (sh := sh0) (hsh := fun _ _ => rfl) (br := br20) (ar := ar20) (own := false) Try.mixed Try.func20 (by kernel_rfl) .nil (fun nt => (.cons (mkLEnt_ok (hl20_5 nt)) .nil)) ((t20_eq sh0 (fun _ _ => rfl) l20_5 a _).trans ?_)
  rw [t20_law]
  simp only at h
  rw [h, Option.bind_some, retK20_eq]

/-! 7 erasure/erasurelaw25.DigestParses -/
abbrev i7 : Type := ByteArray × List Int × Int
def enc7 : i7 → CSt := fun a => ([Go.Ev.SV.one (Go.Ev.SL.d (Go.Ev.DL.str a.1)), Go.Ev.SV.agg (Go.Ev.pkS Go.IntKind.u8 a.2.1 (32 : Nat)), Go.Ev.SV.one (Go.Ev.SL.d (Go.Ev.DL.int Go.IntKind.i64 a.2.2))], [])
def dec7 : (c : CSt) → Option { a : i7 // c = enc7 a }
  | ([Go.Ev.SV.one (Go.Ev.SL.d (Go.Ev.DL.str x1)), Go.Ev.SV.agg [Go.Ev.SL.d (Go.Ev.DL.int Go.IntKind.u8 x2_0), Go.Ev.SL.d (Go.Ev.DL.int Go.IntKind.u8 x2_1), Go.Ev.SL.d (Go.Ev.DL.int Go.IntKind.u8 x2_2), Go.Ev.SL.d (Go.Ev.DL.int Go.IntKind.u8 x2_3), Go.Ev.SL.d (Go.Ev.DL.int Go.IntKind.u8 x2_4), Go.Ev.SL.d (Go.Ev.DL.int Go.IntKind.u8 x2_5), Go.Ev.SL.d (Go.Ev.DL.int Go.IntKind.u8 x2_6), Go.Ev.SL.d (Go.Ev.DL.int Go.IntKind.u8 x2_7), Go.Ev.SL.d (Go.Ev.DL.int Go.IntKind.u8 x2_8), Go.Ev.SL.d (Go.Ev.DL.int Go.IntKind.u8 x2_9), Go.Ev.SL.d (Go.Ev.DL.int Go.IntKind.u8 x2_10), Go.Ev.SL.d (Go.Ev.DL.int Go.IntKind.u8 x2_11), Go.Ev.SL.d (Go.Ev.DL.int Go.IntKind.u8 x2_12), Go.Ev.SL.d (Go.Ev.DL.int Go.IntKind.u8 x2_13), Go.Ev.SL.d (Go.Ev.DL.int Go.IntKind.u8 x2_14), Go.Ev.SL.d (Go.Ev.DL.int Go.IntKind.u8 x2_15), Go.Ev.SL.d (Go.Ev.DL.int Go.IntKind.u8 x2_16), Go.Ev.SL.d (Go.Ev.DL.int Go.IntKind.u8 x2_17), Go.Ev.SL.d (Go.Ev.DL.int Go.IntKind.u8 x2_18), Go.Ev.SL.d (Go.Ev.DL.int Go.IntKind.u8 x2_19), Go.Ev.SL.d (Go.Ev.DL.int Go.IntKind.u8 x2_20), Go.Ev.SL.d (Go.Ev.DL.int Go.IntKind.u8 x2_21), Go.Ev.SL.d (Go.Ev.DL.int Go.IntKind.u8 x2_22), Go.Ev.SL.d (Go.Ev.DL.int Go.IntKind.u8 x2_23), Go.Ev.SL.d (Go.Ev.DL.int Go.IntKind.u8 x2_24), Go.Ev.SL.d (Go.Ev.DL.int Go.IntKind.u8 x2_25), Go.Ev.SL.d (Go.Ev.DL.int Go.IntKind.u8 x2_26), Go.Ev.SL.d (Go.Ev.DL.int Go.IntKind.u8 x2_27), Go.Ev.SL.d (Go.Ev.DL.int Go.IntKind.u8 x2_28), Go.Ev.SL.d (Go.Ev.DL.int Go.IntKind.u8 x2_29), Go.Ev.SL.d (Go.Ev.DL.int Go.IntKind.u8 x2_30), Go.Ev.SL.d (Go.Ev.DL.int Go.IntKind.u8 x2_31)], Go.Ev.SV.one (Go.Ev.SL.d (Go.Ev.DL.int Go.IntKind.i64 x3))], []) => some ⟨(x1, [x2_0, x2_1, x2_2, x2_3, x2_4, x2_5, x2_6, x2_7, x2_8, x2_9, x2_10, x2_11, x2_12, x2_13, x2_14, x2_15, x2_16, x2_17, x2_18, x2_19, x2_20, x2_21, x2_22, x2_23, x2_24, x2_25, x2_26, x2_27, x2_28, x2_29, x2_30, x2_31], x3), rfl⟩
  | _ => none
abbrev o7 : Type := Bool
def ret7 : o7 → CSt := fun b => ([Go.Ev.SV.one (Go.Ev.SL.d (Go.Ev.DL.bool b))], [])
def retK7 {R : Type} (K : CSt → Option R) : o7 → Option R := fun b => K (([Go.Ev.SV.one (Go.Ev.SL.d (Go.Ev.DL.bool b))], []))
theorem retK7_eq {R : Type} (K : CSt → Option R) (b : o7) : retK7 K b = K (ret7 b) := rfl
abbrev Sd7 (f : i7 → Option o7) : Prop := ∀ a b, f a = some b → CallOk Try.prog 7 (enc7 a) (ret7 b)
def ent7 (f : i7 → Option o7) : Ent := mkEnt 7 dec7 ret7 retK7 retK7_eq f
def ann7 : Nat → List Nat × List Nat := fun id => ([], [])
def br7 : FuncId → Bool := fun (g : Nat) => ([30] : List Nat).any (Nat.beq g)
def ar7 : TypeId → Bool := fun (t : Nat) => ([29, 30, 54, 57] : List Nat).any (Nat.beq t)
noncomputable def t7 {R : Type} (sh : Sh) (f14 : i14 → Option o14) (f18 : i18 → Option o18) (f20 : i20 → Option o20) (f19 : i19 → Option o19) (x1 : ByteArray) (x2 : List Int) (x3 : Int) (k : o7 → Option R) : Option R :=
  sh (Go.Ev.colD (Go.Ev.mapD Go.IntKind.u8 (Go.Ev.pkL x2 (32 : Nat))) : Rows) fun y1 =>
  sh ((↑(ByteArray.size x1) : Int)) fun y2 =>
  bif Decidable.decide (y2 > (200 : Int)) then
    (f14 ()).bind fun (r3 : Bool) =>
    k (r3)
  else
    (f18 (x1)).bind fun (r4 : List Int × Int) =>
    sh (List.replicate (32 : Nat) [Go.Ev.DL.int Go.IntKind.u8 (0 : Int)] : Rows) fun y5 =>
    bif Decidable.decide (List.length y5 = (32 : Nat)) then
      sh (Go.Ev.colD (Go.Ev.mapD Go.IntKind.u8 (Go.Ev.pkL (Prod.fst r4) (32 : Nat))) : Rows) fun y6 =>
      (f20 (x1)).bind fun (r7 : List Int × Int) =>
      sh (List.replicate (32 : Nat) [Go.Ev.DL.int Go.IntKind.u8 (0 : Int)] : Rows) fun y8 =>
      bif Decidable.decide (List.length y8 = (32 : Nat)) then
        sh (Go.Ev.colD (Go.Ev.mapD Go.IntKind.u8 (Go.Ev.pkL (Prod.fst r7) (32 : Nat))) : Rows) fun y9 =>
        bif Decidable.decide (List.length y6 = (32 : Nat)) then
          bif Decidable.decide (List.length y9 = (32 : Nat)) then
            bif !Go.Ev.eqI (Go.Ev.colI y6 (32 : Nat)) (Go.Ev.colI y9 (32 : Nat)) (32 : Nat) then
              k (Bool.false)
            else
              bif Prod.snd r4 != Prod.snd r7 then
                k (Bool.false)
              else
                bif Decidable.decide (x3 < (0 : Int)) then
                  (f14 ()).bind fun (r10 : Bool) =>
                  k (r10)
                else
                  bif Decidable.decide (x3 ≥ (64 : Int)) then
                    (f14 ()).bind fun (r11 : Bool) =>
                    k (r11)
                  else
                    bif Go.Ev.strEq x1 { data := #[] } then
                      (f14 ()).bind fun (r12 : Bool) =>
                      k (r12)
                    else
                      bif Decidable.decide (List.length y1 = (32 : Nat)) then
                        (f19 (Go.Ev.colI y1 (32 : Nat))).bind fun (r13 : ByteArray) =>
                        bif Decidable.decide ((0 : Int) ≤ x3 ∧ x3 ≤ (↑(ByteArray.size r13) : Int)) then
                          sh (ByteArray.extract r13 (0 : Nat) (Int.toNat x3)) fun y14 =>
                          bif Decidable.decide ((0 : Int) ≤ (1 : Int) ∧ (1 : Int) ≤ (↑(ByteArray.size x1) : Int)) then
                            sh (ByteArray.extract x1 (0 : Nat) (1 : Nat)) fun y15 =>
                            bif Decidable.decide ((↑(ByteArray.size y14 + ByteArray.size y15) : Int) ≤ (9223372036854775807 : Int)) then
                              sh (y14 ++ y15) fun y16 =>
                              bif Decidable.decide ((0 : Int) ≤ Go.IntKind.wrap Go.IntKind.i64 (x3 + (1 : Int)) ∧ Go.IntKind.wrap Go.IntKind.i64 (x3 + (1 : Int)) ≤ (↑(ByteArray.size r13) : Int)) then
                                sh (ByteArray.extract r13 (Int.toNat (Go.IntKind.wrap Go.IntKind.i64 (x3 + (1 : Int)))) (ByteArray.size r13)) fun y17 =>
                                bif Decidable.decide ((↑(ByteArray.size y16 + ByteArray.size y17) : Int) ≤ (9223372036854775807 : Int)) then
                                  sh (y16 ++ y17) fun y18 =>
                                  (f18 (y18)).bind fun (r19 : List Int × Int) =>
                                  sh (List.replicate (32 : Nat) [Go.Ev.DL.int Go.IntKind.u8 (0 : Int)] : Rows) fun y20 =>
                                  bif Decidable.decide (List.length y20 = (32 : Nat)) then
                                    sh (Go.Ev.colD (Go.Ev.mapD Go.IntKind.u8 (Go.Ev.pkL (Prod.fst r19) (32 : Nat))) : Rows) fun y21 =>
                                    (f20 (y18)).bind fun (r22 : List Int × Int) =>
                                    sh (List.replicate (32 : Nat) [Go.Ev.DL.int Go.IntKind.u8 (0 : Int)] : Rows) fun y23 =>
                                    bif Decidable.decide (List.length y23 = (32 : Nat)) then
                                      sh (Go.Ev.colD (Go.Ev.mapD Go.IntKind.u8 (Go.Ev.pkL (Prod.fst r22) (32 : Nat))) : Rows) fun y24 =>
                                      bif Decidable.decide (List.length y21 = (32 : Nat)) then
                                        bif Decidable.decide (List.length y24 = (32 : Nat)) then
                                          bif Go.Ev.eqI (Go.Ev.colI y21 (32 : Nat)) (Go.Ev.colI y24 (32 : Nat)) (32 : Nat) then
                                            bif Prod.snd r19 == Prod.snd r22 then
                                              (f14 ()).bind fun (r25 : Bool) =>
                                              k (r25)
                                            else
                                              k (Bool.false)
                                          else
                                            k (Bool.false)
                                        else none
                                      else none
                                    else none
                                  else none
                                else none
                              else none
                            else none
                          else none
                        else none
                      else none
          else none
        else none
      else none
    else none
theorem t7_eq {R : Type} (sh : Sh) (hsh : ∀ {α R : Type} (x : α) (K : α → Option R), sh x K = K x) (f14 : i14 → Option o14) (f18 : i18 → Option o18) (f20 : i20 → Option o20) (f19 : i19 → Option o19) (x1 : ByteArray) (x2 : List Int) (x3 : Int) (K : CSt → Option R) : bodyK Try.prog (tabO sh hsh br7 ar7 [ent14 f14, ent18 f18, ent20 f20, ent19 f19]) (tabL []) ann7 false Try.f7 (enc7 (x1, x2, x3)) K = t7 sh f14 f18 f20 f19 x1 x2 x3 (retK7 K) := by kernel_rfl
theorem t7_law {R : Type} (f14 : i14 → Option o14) (f18 : i18 → Option o18) (f20 : i20 → Option o20) (f19 : i19 → Option o19) (x1 : ByteArray) (x2 : List Int) (x3 : Int) (K : o7 → Option R) : t7 sh0 f14 f18 f20 f19 x1 x2 x3 K = (t7 sh0 f14 f18 f20 f19 x1 x2 x3 some).bind K := by
  simp only [t7, sh0, cond_bind', two_bind, none_bind', Option.bind_assoc, Option.bind_some]
theorem ok7 (f14 : i14 → Option o14) (f18 : i18 → Option o18) (f20 : i20 → Option o20) (f19 : i19 → Option o19) (hf14 : Sd14 f14) (hf18 : Sd18 f18) (hf20 : Sd20 f20) (hf19 : Sd19 f19) : Sd7 (fun a => t7 sh0 f14 f18 f20 f19 a.1 a.2.1 a.2.2 some) := by
  intro a b h
  refine call_ok (sh := sh0) (hsh := fun _ _ => rfl) (br := br7) (ar := ar7) (own := false) Try.mixed Try.func7 (by kernel_rfl) (.cons (mkEnt_ok hf14) (.cons (mkEnt_ok hf18) (.cons (mkEnt_ok hf20) (.cons (mkEnt_ok hf19) .nil)))) (fun nt => .nil) ((t7_eq sh0 (fun _ _ => rfl) f14 f18 f20 f19 a.1 a.2.1 a.2.2 _).trans ?_)
  rw [t7_law]
  simp only at h
  rw [h, Option.bind_some, retK7_eq]

/-! 21 erasure/digest.Pair -/
abbrev i21 : Type := Int × List Int × List Int
def enc21 : i21 → CSt := fun a => ([Go.Ev.SV.one (Go.Ev.SL.d (Go.Ev.DL.int Go.IntKind.u64 a.1)), Go.Ev.SV.agg (Go.Ev.pkS Go.IntKind.u8 a.2.1 (32 : Nat)), Go.Ev.SV.agg (Go.Ev.pkS Go.IntKind.u8 a.2.2 (32 : Nat))], [])
def dec21 : (c : CSt) → Option { a : i21 // c = enc21 a }
  | ([Go.Ev.SV.one (Go.Ev.SL.d (Go.Ev.DL.int Go.IntKind.u64 x1)), Go.Ev.SV.agg [Go.Ev.SL.d (Go.Ev.DL.int Go.IntKind.u8 x2_0), Go.Ev.SL.d (Go.Ev.DL.int Go.IntKind.u8 x2_1), Go.Ev.SL.d (Go.Ev.DL.int Go.IntKind.u8 x2_2), Go.Ev.SL.d (Go.Ev.DL.int Go.IntKind.u8 x2_3), Go.Ev.SL.d (Go.Ev.DL.int Go.IntKind.u8 x2_4), Go.Ev.SL.d (Go.Ev.DL.int Go.IntKind.u8 x2_5), Go.Ev.SL.d (Go.Ev.DL.int Go.IntKind.u8 x2_6), Go.Ev.SL.d (Go.Ev.DL.int Go.IntKind.u8 x2_7), Go.Ev.SL.d (Go.Ev.DL.int Go.IntKind.u8 x2_8), Go.Ev.SL.d (Go.Ev.DL.int Go.IntKind.u8 x2_9), Go.Ev.SL.d (Go.Ev.DL.int Go.IntKind.u8 x2_10), Go.Ev.SL.d (Go.Ev.DL.int Go.IntKind.u8 x2_11), Go.Ev.SL.d (Go.Ev.DL.int Go.IntKind.u8 x2_12), Go.Ev.SL.d (Go.Ev.DL.int Go.IntKind.u8 x2_13), Go.Ev.SL.d (Go.Ev.DL.int Go.IntKind.u8 x2_14), Go.Ev.SL.d (Go.Ev.DL.int Go.IntKind.u8 x2_15), Go.Ev.SL.d (Go.Ev.DL.int Go.IntKind.u8 x2_16), Go.Ev.SL.d (Go.Ev.DL.int Go.IntKind.u8 x2_17), Go.Ev.SL.d (Go.Ev.DL.int Go.IntKind.u8 x2_18), Go.Ev.SL.d (Go.Ev.DL.int Go.IntKind.u8 x2_19), Go.Ev.SL.d (Go.Ev.DL.int Go.IntKind.u8 x2_20), Go.Ev.SL.d (Go.Ev.DL.int Go.IntKind.u8 x2_21), Go.Ev.SL.d (Go.Ev.DL.int Go.IntKind.u8 x2_22), Go.Ev.SL.d (Go.Ev.DL.int Go.IntKind.u8 x2_23), Go.Ev.SL.d (Go.Ev.DL.int Go.IntKind.u8 x2_24), Go.Ev.SL.d (Go.Ev.DL.int Go.IntKind.u8 x2_25), Go.Ev.SL.d (Go.Ev.DL.int Go.IntKind.u8 x2_26), Go.Ev.SL.d (Go.Ev.DL.int Go.IntKind.u8 x2_27), Go.Ev.SL.d (Go.Ev.DL.int Go.IntKind.u8 x2_28), Go.Ev.SL.d (Go.Ev.DL.int Go.IntKind.u8 x2_29), Go.Ev.SL.d (Go.Ev.DL.int Go.IntKind.u8 x2_30), Go.Ev.SL.d (Go.Ev.DL.int Go.IntKind.u8 x2_31)], Go.Ev.SV.agg [Go.Ev.SL.d (Go.Ev.DL.int Go.IntKind.u8 x3_0), Go.Ev.SL.d (Go.Ev.DL.int Go.IntKind.u8 x3_1), Go.Ev.SL.d (Go.Ev.DL.int Go.IntKind.u8 x3_2), Go.Ev.SL.d (Go.Ev.DL.int Go.IntKind.u8 x3_3), Go.Ev.SL.d (Go.Ev.DL.int Go.IntKind.u8 x3_4), Go.Ev.SL.d (Go.Ev.DL.int Go.IntKind.u8 x3_5), Go.Ev.SL.d (Go.Ev.DL.int Go.IntKind.u8 x3_6), Go.Ev.SL.d (Go.Ev.DL.int Go.IntKind.u8 x3_7), Go.Ev.SL.d (Go.Ev.DL.int Go.IntKind.u8 x3_8), Go.Ev.SL.d (Go.Ev.DL.int Go.IntKind.u8 x3_9), Go.Ev.SL.d (Go.Ev.DL.int Go.IntKind.u8 x3_10), Go.Ev.SL.d (Go.Ev.DL.int Go.IntKind.u8 x3_11), Go.Ev.SL.d (Go.Ev.DL.int Go.IntKind.u8 x3_12), Go.Ev.SL.d (Go.Ev.DL.int Go.IntKind.u8 x3_13), Go.Ev.SL.d (Go.Ev.DL.int Go.IntKind.u8 x3_14), Go.Ev.SL.d (Go.Ev.DL.int Go.IntKind.u8 x3_15), Go.Ev.SL.d (Go.Ev.DL.int Go.IntKind.u8 x3_16), Go.Ev.SL.d (Go.Ev.DL.int Go.IntKind.u8 x3_17), Go.Ev.SL.d (Go.Ev.DL.int Go.IntKind.u8 x3_18), Go.Ev.SL.d (Go.Ev.DL.int Go.IntKind.u8 x3_19), Go.Ev.SL.d (Go.Ev.DL.int Go.IntKind.u8 x3_20), Go.Ev.SL.d (Go.Ev.DL.int Go.IntKind.u8 x3_21), Go.Ev.SL.d (Go.Ev.DL.int Go.IntKind.u8 x3_22), Go.Ev.SL.d (Go.Ev.DL.int Go.IntKind.u8 x3_23), Go.Ev.SL.d (Go.Ev.DL.int Go.IntKind.u8 x3_24), Go.Ev.SL.d (Go.Ev.DL.int Go.IntKind.u8 x3_25), Go.Ev.SL.d (Go.Ev.DL.int Go.IntKind.u8 x3_26), Go.Ev.SL.d (Go.Ev.DL.int Go.IntKind.u8 x3_27), Go.Ev.SL.d (Go.Ev.DL.int Go.IntKind.u8 x3_28), Go.Ev.SL.d (Go.Ev.DL.int Go.IntKind.u8 x3_29), Go.Ev.SL.d (Go.Ev.DL.int Go.IntKind.u8 x3_30), Go.Ev.SL.d (Go.Ev.DL.int Go.IntKind.u8 x3_31)]], []) => some ⟨(x1, [x2_0, x2_1, x2_2, x2_3, x2_4, x2_5, x2_6, x2_7, x2_8, x2_9, x2_10, x2_11, x2_12, x2_13, x2_14, x2_15, x2_16, x2_17, x2_18, x2_19, x2_20, x2_21, x2_22, x2_23, x2_24, x2_25, x2_26, x2_27, x2_28, x2_29, x2_30, x2_31], [x3_0, x3_1, x3_2, x3_3, x3_4, x3_5, x3_6, x3_7, x3_8, x3_9, x3_10, x3_11, x3_12, x3_13, x3_14, x3_15, x3_16, x3_17, x3_18, x3_19, x3_20, x3_21, x3_22, x3_23, x3_24, x3_25, x3_26, x3_27, x3_28, x3_29, x3_30, x3_31]), rfl⟩
  | _ => none
abbrev o21 : Type := List Int
def ret21 : o21 → CSt := fun b => ([Go.Ev.SV.agg (Go.Ev.pkS Go.IntKind.u8 b (32 : Nat))], [])
def retK21 {R : Type} (K : CSt → Option R) : o21 → Option R := fun b => K (([Go.Ev.SV.agg (Go.Ev.pkS Go.IntKind.u8 b (32 : Nat))], []))
theorem retK21_eq {R : Type} (K : CSt → Option R) (b : o21) : retK21 K b = K (ret21 b) := rfl
abbrev Sd21 (f : i21 → Option o21) : Prop := ∀ a b, f a = some b → CallOk Try.prog 21 (enc21 a) (ret21 b)
def ent21 (f : i21 → Option o21) : Ent := mkEnt 21 dec21 ret21 retK21 retK21_eq f
def ann21 : Nat → List Nat × List Nat := fun id => ([], [])
def br21 : FuncId → Bool := fun (g : Nat) => ([30] : List Nat).any (Nat.beq g)
def ar21 : TypeId → Bool := fun (t : Nat) => ([29, 30, 54, 57] : List Nat).any (Nat.beq t)
noncomputable def t21 {R : Type} (sh : Sh) (f15 : i15 → Option o15) (x1 : Int) (x2 : List Int) (x3 : List Int) (k : o21 → Option R) : Option R :=
  sh (Go.Ev.colD (Go.Ev.mapD Go.IntKind.u8 (Go.Ev.pkL x2 (32 : Nat))) : Rows) fun y1 =>
  sh (Go.Ev.colD (Go.Ev.mapD Go.IntKind.u8 (Go.Ev.pkL x3 (32 : Nat))) : Rows) fun y2 =>
  sh (List.replicate (32 : Nat) [Go.Ev.DL.int Go.IntKind.u8 (0 : Int)] : Rows) fun y3 =>
  sh (List.replicate (64 : Nat) [Go.Ev.DL.int Go.IntKind.u8 (0 : Int)] : Rows) fun y4 =>
  bif Bool.true && Decidable.decide (List.length y4 = (64 : Nat)) then
    bif Decidable.decide (List.length y1 = (32 : Nat)) then
      bif Decidable.decide ((32 : Nat) ≤ List.length y4) then
        sh ((↑(Min.min (List.length y1) (32 : Nat)) : Int)) fun y5 =>
        sh ([] ++ List.take (Min.min (List.length y1) (32 : Nat)) y1 ++ List.drop ((0 : Nat) + Min.min (List.length y1) (32 : Nat)) y4 : Rows) fun y6 =>
        bif Bool.true && Decidable.decide (List.length y6 = (64 : Nat)) then
          bif Decidable.decide (List.length y2 = (32 : Nat)) then
            bif Decidable.decide ((64 : Nat) ≤ List.length y6) then
              sh ((↑(Min.min (List.length y2) (32 : Nat)) : Int)) fun y7 =>
              sh (List.take (32 : Nat) y6 ++ List.take (Min.min (List.length y2) (32 : Nat)) y2 ++ List.drop ((32 : Nat) + Min.min (List.length y2) (32 : Nat)) y6 : Rows) fun y8 =>
              bif Decidable.decide (List.length y8 = (64 : Nat)) then
                (f15 (x1, y8)).bind fun (r9 : List Int) =>
                bif Decidable.decide (List.length y3 = (32 : Nat)) then
                  sh (Go.Ev.colD (Go.Ev.mapD Go.IntKind.u8 (Go.Ev.pkL r9 (32 : Nat))) : Rows) fun y10 =>
                  bif Decidable.decide (List.length y10 = (32 : Nat)) then
                    k (Go.Ev.colI y10 (32 : Nat))
                  else none
                else none
              else none
            else none
          else none
        else none
      else none
    else none
  else none
theorem t21_eq {R : Type} (sh : Sh) (hsh : ∀ {α R : Type} (x : α) (K : α → Option R), sh x K = K x) (f15 : i15 → Option o15) (x1 : Int) (x2 : List Int) (x3 : List Int) (K : CSt → Option R) : bodyK Try.prog (tabO sh hsh br21 ar21 [ent15 f15]) (tabL []) ann21 false Try.f21 (enc21 (x1, x2, x3)) K = t21 sh f15 x1 x2 x3 (retK21 K) := by kernel_rfl
theorem t21_law {R : Type} (f15 : i15 → Option o15) (x1 : Int) (x2 : List Int) (x3 : List Int) (K : o21 → Option R) : t21 sh0 f15 x1 x2 x3 K = (t21 sh0 f15 x1 x2 x3 some).bind K := by
  simp only [t21, sh0, cond_bind', two_bind, none_bind', Option.bind_assoc, Option.bind_some]
theorem ok21 (f15 : i15 → Option o15) (hf15 : Sd15 f15) : Sd21 (fun a => t21 sh0 f15 a.1 a.2.1 a.2.2 some) := by
  intro a b h
  refine call_ok (sh := sh0) (hsh := fun _ _ => rfl) (br := br21) (ar := ar21) (own := false) Try.mixed Try.func21 (by kernel_rfl) (.cons (mkEnt_ok hf15) .nil) (fun nt => .nil) ((t21_eq sh0 (fun _ _ => rfl) f15 a.1 a.2.1 a.2.2 _).trans ?_)
  rw [t21_law]
  simp only at h
  rw [h, Option.bind_some, retK21_eq]

/-! 23 erasure/erasureref25.Bytes -/
abbrev i23 : Type := List Int
def enc23 : i23 → CSt := fun a => ([Go.Ev.SV.agg (Go.Ev.pkS Go.IntKind.u8 a (32 : Nat))], [])
def dec23 : (c : CSt) → Option { a : i23 // c = enc23 a }
  | ([Go.Ev.SV.agg [Go.Ev.SL.d (Go.Ev.DL.int Go.IntKind.u8 x1_0), Go.Ev.SL.d (Go.Ev.DL.int Go.IntKind.u8 x1_1), Go.Ev.SL.d (Go.Ev.DL.int Go.IntKind.u8 x1_2), Go.Ev.SL.d (Go.Ev.DL.int Go.IntKind.u8 x1_3), Go.Ev.SL.d (Go.Ev.DL.int Go.IntKind.u8 x1_4), Go.Ev.SL.d (Go.Ev.DL.int Go.IntKind.u8 x1_5), Go.Ev.SL.d (Go.Ev.DL.int Go.IntKind.u8 x1_6), Go.Ev.SL.d (Go.Ev.DL.int Go.IntKind.u8 x1_7), Go.Ev.SL.d (Go.Ev.DL.int Go.IntKind.u8 x1_8), Go.Ev.SL.d (Go.Ev.DL.int Go.IntKind.u8 x1_9), Go.Ev.SL.d (Go.Ev.DL.int Go.IntKind.u8 x1_10), Go.Ev.SL.d (Go.Ev.DL.int Go.IntKind.u8 x1_11), Go.Ev.SL.d (Go.Ev.DL.int Go.IntKind.u8 x1_12), Go.Ev.SL.d (Go.Ev.DL.int Go.IntKind.u8 x1_13), Go.Ev.SL.d (Go.Ev.DL.int Go.IntKind.u8 x1_14), Go.Ev.SL.d (Go.Ev.DL.int Go.IntKind.u8 x1_15), Go.Ev.SL.d (Go.Ev.DL.int Go.IntKind.u8 x1_16), Go.Ev.SL.d (Go.Ev.DL.int Go.IntKind.u8 x1_17), Go.Ev.SL.d (Go.Ev.DL.int Go.IntKind.u8 x1_18), Go.Ev.SL.d (Go.Ev.DL.int Go.IntKind.u8 x1_19), Go.Ev.SL.d (Go.Ev.DL.int Go.IntKind.u8 x1_20), Go.Ev.SL.d (Go.Ev.DL.int Go.IntKind.u8 x1_21), Go.Ev.SL.d (Go.Ev.DL.int Go.IntKind.u8 x1_22), Go.Ev.SL.d (Go.Ev.DL.int Go.IntKind.u8 x1_23), Go.Ev.SL.d (Go.Ev.DL.int Go.IntKind.u8 x1_24), Go.Ev.SL.d (Go.Ev.DL.int Go.IntKind.u8 x1_25), Go.Ev.SL.d (Go.Ev.DL.int Go.IntKind.u8 x1_26), Go.Ev.SL.d (Go.Ev.DL.int Go.IntKind.u8 x1_27), Go.Ev.SL.d (Go.Ev.DL.int Go.IntKind.u8 x1_28), Go.Ev.SL.d (Go.Ev.DL.int Go.IntKind.u8 x1_29), Go.Ev.SL.d (Go.Ev.DL.int Go.IntKind.u8 x1_30), Go.Ev.SL.d (Go.Ev.DL.int Go.IntKind.u8 x1_31)]], []) => some ⟨[x1_0, x1_1, x1_2, x1_3, x1_4, x1_5, x1_6, x1_7, x1_8, x1_9, x1_10, x1_11, x1_12, x1_13, x1_14, x1_15, x1_16, x1_17, x1_18, x1_19, x1_20, x1_21, x1_22, x1_23, x1_24, x1_25, x1_26, x1_27, x1_28, x1_29, x1_30, x1_31], rfl⟩
  | _ => none
abbrev o23 : Type := Rows
def ret23 : o23 → CSt := fun b => ([Go.Ev.SV.one (Go.Ev.SL.vr (0 : Nat))], [Go.Ev.Obj.vec (5 : Nat) Bool.false b])
def retK23 {R : Type} (K : CSt → Option R) : o23 → Option R := fun b => K (([Go.Ev.SV.one (Go.Ev.SL.vr (0 : Nat))], [Go.Ev.Obj.vec (5 : Nat) Bool.false b]))
theorem retK23_eq {R : Type} (K : CSt → Option R) (b : o23) : retK23 K b = K (ret23 b) := rfl
abbrev Sd23 (f : i23 → Option o23) : Prop := ∀ a b, f a = some b → CallOk Try.prog 23 (enc23 a) (ret23 b)
def ent23 (f : i23 → Option o23) : Ent := mkEnt 23 dec23 ret23 retK23 retK23_eq f
def ann23 : Nat → List Nat × List Nat := fun id => bif Nat.beq id 3 then ([1, 3, 4], [3]) else ([], [])
def br23 : FuncId → Bool := fun (g : Nat) => ([30] : List Nat).any (Nat.beq g)
def ar23 : TypeId → Bool := fun (t : Nat) => ([29, 30, 54, 57] : List Nat).any (Nat.beq t)
abbrev iL23_3 : Type := Int × Rows × Rows
def encL23_3 : iL23_3 → CSt := fun a => ([Go.Ev.SV.one (Go.Ev.SL.ept (0 : Nat) (0 : Nat) (0 : Nat)), Go.Ev.SV.one (Go.Ev.SL.vr (1 : Nat)), Go.Ev.SV.one (Go.Ev.SL.d (Go.Ev.DL.int Go.IntKind.i64 a.1))], [Go.Ev.Obj.vec (5 : Nat) Bool.false a.2.1, Go.Ev.Obj.vec (5 : Nat) Bool.false a.2.2])
def decL23_3 : (c : CSt) → Option { a : iL23_3 // c = encL23_3 a }
  | ([Go.Ev.SV.one (Go.Ev.SL.ept (0 : Nat) (0 : Nat) (0 : Nat)), Go.Ev.SV.one (Go.Ev.SL.vr (1 : Nat)), Go.Ev.SV.one (Go.Ev.SL.d (Go.Ev.DL.int Go.IntKind.i64 x1))], [Go.Ev.Obj.vec (5 : Nat) Bool.false x2, Go.Ev.Obj.vec (5 : Nat) Bool.false x3]) => some ⟨(x1, x2, x3), rfl⟩
  | _ => none
abbrev oL23_3 : Type := Rows
def retL23_3 : oL23_3 → Ex × CSt := fun b => (Go.Ev.Ex.exit (0 : Nat), ([Go.Ev.SV.one (Go.Ev.SL.vr (0 : Nat))], [Go.Ev.Obj.vec (5 : Nat) Bool.false b]))
def retKL23_3 {R : Type} (K : Ex → CSt → Option R) : oL23_3 → Option R := fun b => K (Go.Ev.Ex.exit (0 : Nat)) (([Go.Ev.SV.one (Go.Ev.SL.vr (0 : Nat))], [Go.Ev.Obj.vec (5 : Nat) Bool.false b]))
theorem retKL23_3_eq {R : Type} (K : Ex → CSt → Option R) (b : oL23_3) : retKL23_3 K b = K (retL23_3 b).1 (retL23_3 b).2 := rfl
def entL23_3 (l : iL23_3 → Option oL23_3) : LEnt := mkLEnt 3 decL23_3 retL23_3 retKL23_3 retKL23_3_eq l
abbrev SdL23_3 (l : iL23_3 → Option oL23_3) : Prop := ∀ nt a b, l a = some b → LoopAt Try.prog nt 0 ann23 Try.f23 3 (encL23_3 a) (retL23_3 b)
noncomputable def u23_3 {R : Type} (sh : Sh) (l23_3 : iL23_3 → Option oL23_3) (x1 : Int) (x2 : Rows) (x3 : Rows) (k : oL23_3 → Option R) : Option R :=
  bif Decidable.decide (x1 < (32 : Int)) then
    bif Decidable.decide ((0 : Int) ≤ x1 ∧ x1 < (32 : Int)) then
      bif Decidable.decide (Int.toNat x1 < List.length x2) then
        sh (Go.Ev.DL.getI (Go.Ev.cellAt x2 (Int.toNat x1) (0 : Nat))) fun y4 =>
        sh ([[Go.Ev.DL.int Go.IntKind.u8 y4]] : Rows) fun y5 =>
        bif Go.Ev.roomE Go.Proofs.Try.prog (5 : Nat) (List.length x3 + List.length y5) then
          sh (x3 ++ y5 : Rows) fun y6 =>
          (l23_3 (Go.IntKind.wrap Go.IntKind.i64 (x1 + (1 : Int)), x2, y6)).bind k
        else none
      else none
    else none
  else
    k (x3)
theorem u23_3_eq {R : Type} (sh : Sh) (hsh : ∀ {α R : Type} (x : α) (K : α → Option R), sh x K = K x) (l23_3 : iL23_3 → Option oL23_3) (x1 : Int) (x2 : Rows) (x3 : Rows) (K : Ex → CSt → Option R) : roundK Try.prog (tabO sh hsh br23 ar23 []) (tabL [entL23_3 l23_3]) ann23 0 Try.f23 3 (encL23_3 (x1, x2, x3)) K = u23_3 sh l23_3 x1 x2 x3 (retKL23_3 K) := by kernel_rfl
theorem u23_3_law {R : Type} (l23_3 : iL23_3 → Option oL23_3) (x1 : Int) (x2 : Rows) (x3 : Rows) (K : oL23_3 → Option R) : u23_3 sh0 l23_3 x1 x2 x3 K = (u23_3 sh0 l23_3 x1 x2 x3 some).bind K := by
  simp only [u23_3, sh0, cond_bind', two_bind, none_bind', Option.bind_assoc, Option.bind_some]
theorem okL23_3 (l23_3 : iL23_3 → Option oL23_3) (hl23_3 : SdL23_3 l23_3) : SdL23_3 (fun a => u23_3 sh0 l23_3 a.1 a.2.1 a.2.2 some) := by
  intro nt a b h
  refine round_ok (sh := sh0) (hsh := fun _ _ => rfl) (br := br23) (ar := ar23) Try.mixed (by kernel_rfl) .nil (.cons (mkLEnt_ok (hl23_3 nt)) .nil) ((u23_3_eq sh0 (fun _ _ => rfl) l23_3  a.1 a.2.1 a.2.2 _).trans ?_)
  rw [u23_3_law]
  simp only at h
  rw [h, Option.bind_some, retKL23_3_eq]
noncomputable def t23 {R : Type} (sh : Sh) (l23_3 : iL23_3 → Option oL23_3) (x1 : List Int) (k : o23 → Option R) : Option R :=
  sh (Go.Ev.colD (Go.Ev.mapD Go.IntKind.u8 (Go.Ev.pkL x1 (32 : Nat))) : Rows) fun y1 =>
  sh ([] : Rows) fun y2 =>
  sh ([] : Rows) fun y3 =>
  (l23_3 ((0 : Int), y1, y3)).bind fun (r7 : Rows) =>
  k (r7)
theorem t23_eq {R : Type} (sh : Sh) (hsh : ∀ {α R : Type} (x : α) (K : α → Option R), sh x K = K x) (l23_3 : iL23_3 → Option oL23_3) (x1 : List Int) (K : CSt → Option R) : bodyK Try.prog (tabO sh hsh br23 ar23 []) (tabL [entL23_3 l23_3]) ann23 true Try.f23 (enc23 x1) K = t23 sh l23_3 x1 (retK23 K) := by kernel_rfl
theorem t23_law {R : Type} (l23_3 : iL23_3 → Option oL23_3) (x1 : List Int) (K : o23 → Option R) : t23 sh0 l23_3 x1 K = (t23 sh0 l23_3 x1 some).bind K := by
  simp only [t23, sh0, cond_bind', two_bind, none_bind', Option.bind_assoc, Option.bind_some]
theorem ok23 (l23_3 : iL23_3 → Option oL23_3) (hl23_3 : SdL23_3 l23_3) : Sd23 (fun a => t23 sh0 l23_3 a some) := by
  intro a b h
  refine call_ok (sh := sh0) (hsh := fun _ _ => rfl) (br := br23) (ar := ar23) (own := true) Try.mixed Try.func23 (by kernel_rfl) .nil (fun nt => (.cons (mkLEnt_ok (hl23_3 nt)) .nil)) ((t23_eq sh0 (fun _ _ => rfl) l23_3 a _).trans ?_)
  rw [t23_law]
  simp only at h
  rw [h, Option.bind_some, retK23_eq]

/-! 22 erasure/erasureref25.Pair -/
abbrev i22 : Type := Int × List Int × List Int
def enc22 : i22 → CSt := fun a => ([Go.Ev.SV.one (Go.Ev.SL.d (Go.Ev.DL.int Go.IntKind.u64 a.1)), Go.Ev.SV.agg (Go.Ev.pkS Go.IntKind.u8 a.2.1 (32 : Nat)), Go.Ev.SV.agg (Go.Ev.pkS Go.IntKind.u8 a.2.2 (32 : Nat))], [])
def dec22 : (c : CSt) → Option { a : i22 // c = enc22 a }
  | ([Go.Ev.SV.one (Go.Ev.SL.d (Go.Ev.DL.int Go.IntKind.u64 x1)), Go.Ev.SV.agg [Go.Ev.SL.d (Go.Ev.DL.int Go.IntKind.u8 x2_0), Go.Ev.SL.d (Go.Ev.DL.int Go.IntKind.u8 x2_1), Go.Ev.SL.d (Go.Ev.DL.int Go.IntKind.u8 x2_2), Go.Ev.SL.d (Go.Ev.DL.int Go.IntKind.u8 x2_3), Go.Ev.SL.d (Go.Ev.DL.int Go.IntKind.u8 x2_4), Go.Ev.SL.d (Go.Ev.DL.int Go.IntKind.u8 x2_5), Go.Ev.SL.d (Go.Ev.DL.int Go.IntKind.u8 x2_6), Go.Ev.SL.d (Go.Ev.DL.int Go.IntKind.u8 x2_7), Go.Ev.SL.d (Go.Ev.DL.int Go.IntKind.u8 x2_8), Go.Ev.SL.d (Go.Ev.DL.int Go.IntKind.u8 x2_9), Go.Ev.SL.d (Go.Ev.DL.int Go.IntKind.u8 x2_10), Go.Ev.SL.d (Go.Ev.DL.int Go.IntKind.u8 x2_11), Go.Ev.SL.d (Go.Ev.DL.int Go.IntKind.u8 x2_12), Go.Ev.SL.d (Go.Ev.DL.int Go.IntKind.u8 x2_13), Go.Ev.SL.d (Go.Ev.DL.int Go.IntKind.u8 x2_14), Go.Ev.SL.d (Go.Ev.DL.int Go.IntKind.u8 x2_15), Go.Ev.SL.d (Go.Ev.DL.int Go.IntKind.u8 x2_16), Go.Ev.SL.d (Go.Ev.DL.int Go.IntKind.u8 x2_17), Go.Ev.SL.d (Go.Ev.DL.int Go.IntKind.u8 x2_18), Go.Ev.SL.d (Go.Ev.DL.int Go.IntKind.u8 x2_19), Go.Ev.SL.d (Go.Ev.DL.int Go.IntKind.u8 x2_20), Go.Ev.SL.d (Go.Ev.DL.int Go.IntKind.u8 x2_21), Go.Ev.SL.d (Go.Ev.DL.int Go.IntKind.u8 x2_22), Go.Ev.SL.d (Go.Ev.DL.int Go.IntKind.u8 x2_23), Go.Ev.SL.d (Go.Ev.DL.int Go.IntKind.u8 x2_24), Go.Ev.SL.d (Go.Ev.DL.int Go.IntKind.u8 x2_25), Go.Ev.SL.d (Go.Ev.DL.int Go.IntKind.u8 x2_26), Go.Ev.SL.d (Go.Ev.DL.int Go.IntKind.u8 x2_27), Go.Ev.SL.d (Go.Ev.DL.int Go.IntKind.u8 x2_28), Go.Ev.SL.d (Go.Ev.DL.int Go.IntKind.u8 x2_29), Go.Ev.SL.d (Go.Ev.DL.int Go.IntKind.u8 x2_30), Go.Ev.SL.d (Go.Ev.DL.int Go.IntKind.u8 x2_31)], Go.Ev.SV.agg [Go.Ev.SL.d (Go.Ev.DL.int Go.IntKind.u8 x3_0), Go.Ev.SL.d (Go.Ev.DL.int Go.IntKind.u8 x3_1), Go.Ev.SL.d (Go.Ev.DL.int Go.IntKind.u8 x3_2), Go.Ev.SL.d (Go.Ev.DL.int Go.IntKind.u8 x3_3), Go.Ev.SL.d (Go.Ev.DL.int Go.IntKind.u8 x3_4), Go.Ev.SL.d (Go.Ev.DL.int Go.IntKind.u8 x3_5), Go.Ev.SL.d (Go.Ev.DL.int Go.IntKind.u8 x3_6), Go.Ev.SL.d (Go.Ev.DL.int Go.IntKind.u8 x3_7), Go.Ev.SL.d (Go.Ev.DL.int Go.IntKind.u8 x3_8), Go.Ev.SL.d (Go.Ev.DL.int Go.IntKind.u8 x3_9), Go.Ev.SL.d (Go.Ev.DL.int Go.IntKind.u8 x3_10), Go.Ev.SL.d (Go.Ev.DL.int Go.IntKind.u8 x3_11), Go.Ev.SL.d (Go.Ev.DL.int Go.IntKind.u8 x3_12), Go.Ev.SL.d (Go.Ev.DL.int Go.IntKind.u8 x3_13), Go.Ev.SL.d (Go.Ev.DL.int Go.IntKind.u8 x3_14), Go.Ev.SL.d (Go.Ev.DL.int Go.IntKind.u8 x3_15), Go.Ev.SL.d (Go.Ev.DL.int Go.IntKind.u8 x3_16), Go.Ev.SL.d (Go.Ev.DL.int Go.IntKind.u8 x3_17), Go.Ev.SL.d (Go.Ev.DL.int Go.IntKind.u8 x3_18), Go.Ev.SL.d (Go.Ev.DL.int Go.IntKind.u8 x3_19), Go.Ev.SL.d (Go.Ev.DL.int Go.IntKind.u8 x3_20), Go.Ev.SL.d (Go.Ev.DL.int Go.IntKind.u8 x3_21), Go.Ev.SL.d (Go.Ev.DL.int Go.IntKind.u8 x3_22), Go.Ev.SL.d (Go.Ev.DL.int Go.IntKind.u8 x3_23), Go.Ev.SL.d (Go.Ev.DL.int Go.IntKind.u8 x3_24), Go.Ev.SL.d (Go.Ev.DL.int Go.IntKind.u8 x3_25), Go.Ev.SL.d (Go.Ev.DL.int Go.IntKind.u8 x3_26), Go.Ev.SL.d (Go.Ev.DL.int Go.IntKind.u8 x3_27), Go.Ev.SL.d (Go.Ev.DL.int Go.IntKind.u8 x3_28), Go.Ev.SL.d (Go.Ev.DL.int Go.IntKind.u8 x3_29), Go.Ev.SL.d (Go.Ev.DL.int Go.IntKind.u8 x3_30), Go.Ev.SL.d (Go.Ev.DL.int Go.IntKind.u8 x3_31)]], []) => some ⟨(x1, [x2_0, x2_1, x2_2, x2_3, x2_4, x2_5, x2_6, x2_7, x2_8, x2_9, x2_10, x2_11, x2_12, x2_13, x2_14, x2_15, x2_16, x2_17, x2_18, x2_19, x2_20, x2_21, x2_22, x2_23, x2_24, x2_25, x2_26, x2_27, x2_28, x2_29, x2_30, x2_31], [x3_0, x3_1, x3_2, x3_3, x3_4, x3_5, x3_6, x3_7, x3_8, x3_9, x3_10, x3_11, x3_12, x3_13, x3_14, x3_15, x3_16, x3_17, x3_18, x3_19, x3_20, x3_21, x3_22, x3_23, x3_24, x3_25, x3_26, x3_27, x3_28, x3_29, x3_30, x3_31]), rfl⟩
  | _ => none
abbrev o22 : Type := List Int
def ret22 : o22 → CSt := fun b => ([Go.Ev.SV.agg (Go.Ev.pkS Go.IntKind.u8 b (32 : Nat))], [])
def retK22 {R : Type} (K : CSt → Option R) : o22 → Option R := fun b => K (([Go.Ev.SV.agg (Go.Ev.pkS Go.IntKind.u8 b (32 : Nat))], []))
theorem retK22_eq {R : Type} (K : CSt → Option R) (b : o22) : retK22 K b = K (ret22 b) := rfl
abbrev Sd22 (f : i22 → Option o22) : Prop := ∀ a b, f a = some b → CallOk Try.prog 22 (enc22 a) (ret22 b)
def ent22 (f : i22 → Option o22) : Ent := mkEnt 22 dec22 ret22 retK22 retK22_eq f
def ann22 : Nat → List Nat × List Nat := fun id => ([], [])
def br22 : FuncId → Bool := fun (g : Nat) => ([30] : List Nat).any (Nat.beq g)
def ar22 : TypeId → Bool := fun (t : Nat) => ([29, 30, 54, 57] : List Nat).any (Nat.beq t)
noncomputable def t22 {R : Type} (sh : Sh) (f23 : i23 → Option o23) (f16 : i16 → Option o16) (x1 : Int) (x2 : List Int) (x3 : List Int) (k : o22 → Option R) : Option R :=
  sh (Go.Ev.colD (Go.Ev.mapD Go.IntKind.u8 (Go.Ev.pkL x2 (32 : Nat))) : Rows) fun y1 =>
  sh (Go.Ev.colD (Go.Ev.mapD Go.IntKind.u8 (Go.Ev.pkL x3 (32 : Nat))) : Rows) fun y2 =>
  sh (List.replicate (32 : Nat) [Go.Ev.DL.int Go.IntKind.u8 (0 : Int)] : Rows) fun y3 =>
  bif Decidable.decide (List.length y1 = (32 : Nat)) then
    (f23 (Go.Ev.colI y1 (32 : Nat))).bind fun (r4 : Rows) =>
    bif Decidable.decide (List.length y2 = (32 : Nat)) then
      (f23 (Go.Ev.colI y2 (32 : Nat))).bind fun (r5 : Rows) =>
      bif Go.Ev.roomE Go.Proofs.Try.prog (5 : Nat) (List.length r4 + List.length r5) then
        sh (r4 ++ r5 : Rows) fun y6 =>
        (f16 (x1, y6)).bind fun (r7 : List Int) =>
        bif Decidable.decide (List.length y3 = (32 : Nat)) then
          sh (Go.Ev.colD (Go.Ev.mapD Go.IntKind.u8 (Go.Ev.pkL r7 (32 : Nat))) : Rows) fun y8 =>
          bif Decidable.decide (List.length y8 = (32 : Nat)) then
            k (Go.Ev.colI y8 (32 : Nat))
          else none
        else none
      else none
    else none
  else none
theorem t22_eq {R : Type} (sh : Sh) (hsh : ∀ {α R : Type} (x : α) (K : α → Option R), sh x K = K x) (f23 : i23 → Option o23) (f16 : i16 → Option o16) (x1 : Int) (x2 : List Int) (x3 : List Int) (K : CSt → Option R) : bodyK Try.prog (tabO sh hsh br22 ar22 [ent23 f23, ent16 f16]) (tabL []) ann22 false Try.f22 (enc22 (x1, x2, x3)) K = t22 sh f23 f16 x1 x2 x3 (retK22 K) := by kernel_rfl
theorem t22_law {R : Type} (f23 : i23 → Option o23) (f16 : i16 → Option o16) (x1 : Int) (x2 : List Int) (x3 : List Int) (K : o22 → Option R) : t22 sh0 f23 f16 x1 x2 x3 K = (t22 sh0 f23 f16 x1 x2 x3 some).bind K := by
  simp only [t22, sh0, cond_bind', two_bind, none_bind', Option.bind_assoc, Option.bind_some]
theorem ok22 (f23 : i23 → Option o23) (f16 : i16 → Option o16) (hf23 : Sd23 f23) (hf16 : Sd16 f16) : Sd22 (fun a => t22 sh0 f23 f16 a.1 a.2.1 a.2.2 some) := by
  intro a b h
  refine call_ok (sh := sh0) (hsh := fun _ _ => rfl) (br := br22) (ar := ar22) (own := false) Try.mixed Try.func22 (by kernel_rfl) (.cons (mkEnt_ok hf23) (.cons (mkEnt_ok hf16) .nil)) (fun nt => .nil) ((t22_eq sh0 (fun _ _ => rfl) f23 f16 a.1 a.2.1 a.2.2 _).trans ?_)
  rw [t22_law]
  simp only at h
  rw [h, Option.bind_some, retK22_eq]

/-! 8 erasure/erasurelaw25.DigestPairs -/
abbrev i8 : Type := Int × List Int × List Int
def enc8 : i8 → CSt := fun a => ([Go.Ev.SV.one (Go.Ev.SL.d (Go.Ev.DL.int Go.IntKind.u64 a.1)), Go.Ev.SV.agg (Go.Ev.pkS Go.IntKind.u8 a.2.1 (32 : Nat)), Go.Ev.SV.agg (Go.Ev.pkS Go.IntKind.u8 a.2.2 (32 : Nat))], [])
def dec8 : (c : CSt) → Option { a : i8 // c = enc8 a }
  | ([Go.Ev.SV.one (Go.Ev.SL.d (Go.Ev.DL.int Go.IntKind.u64 x1)), Go.Ev.SV.agg [Go.Ev.SL.d (Go.Ev.DL.int Go.IntKind.u8 x2_0), Go.Ev.SL.d (Go.Ev.DL.int Go.IntKind.u8 x2_1), Go.Ev.SL.d (Go.Ev.DL.int Go.IntKind.u8 x2_2), Go.Ev.SL.d (Go.Ev.DL.int Go.IntKind.u8 x2_3), Go.Ev.SL.d (Go.Ev.DL.int Go.IntKind.u8 x2_4), Go.Ev.SL.d (Go.Ev.DL.int Go.IntKind.u8 x2_5), Go.Ev.SL.d (Go.Ev.DL.int Go.IntKind.u8 x2_6), Go.Ev.SL.d (Go.Ev.DL.int Go.IntKind.u8 x2_7), Go.Ev.SL.d (Go.Ev.DL.int Go.IntKind.u8 x2_8), Go.Ev.SL.d (Go.Ev.DL.int Go.IntKind.u8 x2_9), Go.Ev.SL.d (Go.Ev.DL.int Go.IntKind.u8 x2_10), Go.Ev.SL.d (Go.Ev.DL.int Go.IntKind.u8 x2_11), Go.Ev.SL.d (Go.Ev.DL.int Go.IntKind.u8 x2_12), Go.Ev.SL.d (Go.Ev.DL.int Go.IntKind.u8 x2_13), Go.Ev.SL.d (Go.Ev.DL.int Go.IntKind.u8 x2_14), Go.Ev.SL.d (Go.Ev.DL.int Go.IntKind.u8 x2_15), Go.Ev.SL.d (Go.Ev.DL.int Go.IntKind.u8 x2_16), Go.Ev.SL.d (Go.Ev.DL.int Go.IntKind.u8 x2_17), Go.Ev.SL.d (Go.Ev.DL.int Go.IntKind.u8 x2_18), Go.Ev.SL.d (Go.Ev.DL.int Go.IntKind.u8 x2_19), Go.Ev.SL.d (Go.Ev.DL.int Go.IntKind.u8 x2_20), Go.Ev.SL.d (Go.Ev.DL.int Go.IntKind.u8 x2_21), Go.Ev.SL.d (Go.Ev.DL.int Go.IntKind.u8 x2_22), Go.Ev.SL.d (Go.Ev.DL.int Go.IntKind.u8 x2_23), Go.Ev.SL.d (Go.Ev.DL.int Go.IntKind.u8 x2_24), Go.Ev.SL.d (Go.Ev.DL.int Go.IntKind.u8 x2_25), Go.Ev.SL.d (Go.Ev.DL.int Go.IntKind.u8 x2_26), Go.Ev.SL.d (Go.Ev.DL.int Go.IntKind.u8 x2_27), Go.Ev.SL.d (Go.Ev.DL.int Go.IntKind.u8 x2_28), Go.Ev.SL.d (Go.Ev.DL.int Go.IntKind.u8 x2_29), Go.Ev.SL.d (Go.Ev.DL.int Go.IntKind.u8 x2_30), Go.Ev.SL.d (Go.Ev.DL.int Go.IntKind.u8 x2_31)], Go.Ev.SV.agg [Go.Ev.SL.d (Go.Ev.DL.int Go.IntKind.u8 x3_0), Go.Ev.SL.d (Go.Ev.DL.int Go.IntKind.u8 x3_1), Go.Ev.SL.d (Go.Ev.DL.int Go.IntKind.u8 x3_2), Go.Ev.SL.d (Go.Ev.DL.int Go.IntKind.u8 x3_3), Go.Ev.SL.d (Go.Ev.DL.int Go.IntKind.u8 x3_4), Go.Ev.SL.d (Go.Ev.DL.int Go.IntKind.u8 x3_5), Go.Ev.SL.d (Go.Ev.DL.int Go.IntKind.u8 x3_6), Go.Ev.SL.d (Go.Ev.DL.int Go.IntKind.u8 x3_7), Go.Ev.SL.d (Go.Ev.DL.int Go.IntKind.u8 x3_8), Go.Ev.SL.d (Go.Ev.DL.int Go.IntKind.u8 x3_9), Go.Ev.SL.d (Go.Ev.DL.int Go.IntKind.u8 x3_10), Go.Ev.SL.d (Go.Ev.DL.int Go.IntKind.u8 x3_11), Go.Ev.SL.d (Go.Ev.DL.int Go.IntKind.u8 x3_12), Go.Ev.SL.d (Go.Ev.DL.int Go.IntKind.u8 x3_13), Go.Ev.SL.d (Go.Ev.DL.int Go.IntKind.u8 x3_14), Go.Ev.SL.d (Go.Ev.DL.int Go.IntKind.u8 x3_15), Go.Ev.SL.d (Go.Ev.DL.int Go.IntKind.u8 x3_16), Go.Ev.SL.d (Go.Ev.DL.int Go.IntKind.u8 x3_17), Go.Ev.SL.d (Go.Ev.DL.int Go.IntKind.u8 x3_18), Go.Ev.SL.d (Go.Ev.DL.int Go.IntKind.u8 x3_19), Go.Ev.SL.d (Go.Ev.DL.int Go.IntKind.u8 x3_20), Go.Ev.SL.d (Go.Ev.DL.int Go.IntKind.u8 x3_21), Go.Ev.SL.d (Go.Ev.DL.int Go.IntKind.u8 x3_22), Go.Ev.SL.d (Go.Ev.DL.int Go.IntKind.u8 x3_23), Go.Ev.SL.d (Go.Ev.DL.int Go.IntKind.u8 x3_24), Go.Ev.SL.d (Go.Ev.DL.int Go.IntKind.u8 x3_25), Go.Ev.SL.d (Go.Ev.DL.int Go.IntKind.u8 x3_26), Go.Ev.SL.d (Go.Ev.DL.int Go.IntKind.u8 x3_27), Go.Ev.SL.d (Go.Ev.DL.int Go.IntKind.u8 x3_28), Go.Ev.SL.d (Go.Ev.DL.int Go.IntKind.u8 x3_29), Go.Ev.SL.d (Go.Ev.DL.int Go.IntKind.u8 x3_30), Go.Ev.SL.d (Go.Ev.DL.int Go.IntKind.u8 x3_31)]], []) => some ⟨(x1, [x2_0, x2_1, x2_2, x2_3, x2_4, x2_5, x2_6, x2_7, x2_8, x2_9, x2_10, x2_11, x2_12, x2_13, x2_14, x2_15, x2_16, x2_17, x2_18, x2_19, x2_20, x2_21, x2_22, x2_23, x2_24, x2_25, x2_26, x2_27, x2_28, x2_29, x2_30, x2_31], [x3_0, x3_1, x3_2, x3_3, x3_4, x3_5, x3_6, x3_7, x3_8, x3_9, x3_10, x3_11, x3_12, x3_13, x3_14, x3_15, x3_16, x3_17, x3_18, x3_19, x3_20, x3_21, x3_22, x3_23, x3_24, x3_25, x3_26, x3_27, x3_28, x3_29, x3_30, x3_31]), rfl⟩
  | _ => none
abbrev o8 : Type := Bool
def ret8 : o8 → CSt := fun b => ([Go.Ev.SV.one (Go.Ev.SL.d (Go.Ev.DL.bool b))], [])
def retK8 {R : Type} (K : CSt → Option R) : o8 → Option R := fun b => K (([Go.Ev.SV.one (Go.Ev.SL.d (Go.Ev.DL.bool b))], []))
theorem retK8_eq {R : Type} (K : CSt → Option R) (b : o8) : retK8 K b = K (ret8 b) := rfl
abbrev Sd8 (f : i8 → Option o8) : Prop := ∀ a b, f a = some b → CallOk Try.prog 8 (enc8 a) (ret8 b)
def ent8 (f : i8 → Option o8) : Ent := mkEnt 8 dec8 ret8 retK8 retK8_eq f
def ann8 : Nat → List Nat × List Nat := fun id => ([], [])
def br8 : FuncId → Bool := fun (g : Nat) => ([30] : List Nat).any (Nat.beq g)
def ar8 : TypeId → Bool := fun (t : Nat) => ([29, 30, 54, 57] : List Nat).any (Nat.beq t)
noncomputable def t8 {R : Type} (sh : Sh) (f21 : i21 → Option o21) (f22 : i22 → Option o22) (f23 : i23 → Option o23) (f15 : i15 → Option o15) (f14 : i14 → Option o14) (x1 : Int) (x2 : List Int) (x3 : List Int) (k : o8 → Option R) : Option R :=
  sh (Go.Ev.colD (Go.Ev.mapD Go.IntKind.u8 (Go.Ev.pkL x2 (32 : Nat))) : Rows) fun y1 =>
  sh (Go.Ev.colD (Go.Ev.mapD Go.IntKind.u8 (Go.Ev.pkL x3 (32 : Nat))) : Rows) fun y2 =>
  bif Decidable.decide (List.length y1 = (32 : Nat)) then
    bif Decidable.decide (List.length y2 = (32 : Nat)) then
      (f21 (x1, Go.Ev.colI y1 (32 : Nat), Go.Ev.colI y2 (32 : Nat))).bind fun (r3 : List Int) =>
      sh (List.replicate (32 : Nat) [Go.Ev.DL.int Go.IntKind.u8 (0 : Int)] : Rows) fun y4 =>
      bif Decidable.decide (List.length y4 = (32 : Nat)) then
        sh (Go.Ev.colD (Go.Ev.mapD Go.IntKind.u8 (Go.Ev.pkL r3 (32 : Nat))) : Rows) fun y5 =>
        bif Decidable.decide (List.length y5 = (32 : Nat)) then
          bif Decidable.decide (List.length y1 = (32 : Nat)) then
            bif Decidable.decide (List.length y2 = (32 : Nat)) then
              (f22 (x1, Go.Ev.colI y1 (32 : Nat), Go.Ev.colI y2 (32 : Nat))).bind fun (r6 : List Int) =>
              bif Go.Ev.eqI (Go.Ev.colI y5 (32 : Nat)) (Go.Ev.pkL r6 (32 : Nat)) (32 : Nat) then
                bif Decidable.decide (List.length y5 = (32 : Nat)) then
                  bif Decidable.decide (List.length y1 = (32 : Nat)) then
                    (f23 (Go.Ev.colI y1 (32 : Nat))).bind fun (r7 : Rows) =>
                    bif Decidable.decide (List.length y2 = (32 : Nat)) then
                      (f23 (Go.Ev.colI y2 (32 : Nat))).bind fun (r8 : Rows) =>
                      bif Go.Ev.roomE Go.Proofs.Try.prog (5 : Nat) (List.length r7 + List.length r8) then
                        sh (r7 ++ r8 : Rows) fun y9 =>
                        (f15 (x1, y9)).bind fun (r10 : List Int) =>
                        bif Go.Ev.eqI (Go.Ev.colI y5 (32 : Nat)) (Go.Ev.pkL r10 (32 : Nat)) (32 : Nat) then
                          (f14 ()).bind fun (r11 : Bool) =>
                          k (r11)
                        else
                          k (Bool.false)
                      else none
                    else none
                  else none
                else none
              else
                k (Bool.false)
            else none
          else none
        else none
      else none
    else none
  else none
theorem t8_eq {R : Type} (sh : Sh) (hsh : ∀ {α R : Type} (x : α) (K : α → Option R), sh x K = K x) (f21 : i21 → Option o21) (f22 : i22 → Option o22) (f23 : i23 → Option o23) (f15 : i15 → Option o15) (f14 : i14 → Option o14) (x1 : Int) (x2 : List Int) (x3 : List Int) (K : CSt → Option R) : bodyK Try.prog (tabO sh hsh br8 ar8 [ent21 f21, ent22 f22, ent23 f23, ent15 f15, ent14 f14]) (tabL []) ann8 false Try.f8 (enc8 (x1, x2, x3)) K = t8 sh f21 f22 f23 f15 f14 x1 x2 x3 (retK8 K) := by kernel_rfl
theorem t8_law {R : Type} (f21 : i21 → Option o21) (f22 : i22 → Option o22) (f23 : i23 → Option o23) (f15 : i15 → Option o15) (f14 : i14 → Option o14) (x1 : Int) (x2 : List Int) (x3 : List Int) (K : o8 → Option R) : t8 sh0 f21 f22 f23 f15 f14 x1 x2 x3 K = (t8 sh0 f21 f22 f23 f15 f14 x1 x2 x3 some).bind K := by
  simp only [t8, sh0, cond_bind', two_bind, none_bind', Option.bind_assoc, Option.bind_some]
theorem ok8 (f21 : i21 → Option o21) (f22 : i22 → Option o22) (f23 : i23 → Option o23) (f15 : i15 → Option o15) (f14 : i14 → Option o14) (hf21 : Sd21 f21) (hf22 : Sd22 f22) (hf23 : Sd23 f23) (hf15 : Sd15 f15) (hf14 : Sd14 f14) : Sd8 (fun a => t8 sh0 f21 f22 f23 f15 f14 a.1 a.2.1 a.2.2 some) := by
  intro a b h
  refine call_ok (sh := sh0) (hsh := fun _ _ => rfl) (br := br8) (ar := ar8) (own := false) Try.mixed Try.func8 (by kernel_rfl) (.cons (mkEnt_ok hf21) (.cons (mkEnt_ok hf22) (.cons (mkEnt_ok hf23) (.cons (mkEnt_ok hf15) (.cons (mkEnt_ok hf14) .nil))))) (fun nt => .nil) ((t8_eq sh0 (fun _ _ => rfl) f21 f22 f23 f15 f14 a.1 a.2.1 a.2.2 _).trans ?_)
  rw [t8_law]
  simp only at h
  rw [h, Option.bind_some, retK8_eq]

/-! 24 erasure/digest.Keyed -/
abbrev i24 : Type := Int × List Int × Rows
def enc24 : i24 → CSt := fun a => ([Go.Ev.SV.one (Go.Ev.SL.d (Go.Ev.DL.int Go.IntKind.u64 a.1)), Go.Ev.SV.agg (Go.Ev.pkS Go.IntKind.u8 a.2.1 (32 : Nat)), Go.Ev.SV.one (Go.Ev.SL.d (Go.Ev.DL.lst (5 : Nat) a.2.2))], [])
def dec24 : (c : CSt) → Option { a : i24 // c = enc24 a }
  | ([Go.Ev.SV.one (Go.Ev.SL.d (Go.Ev.DL.int Go.IntKind.u64 x1)), Go.Ev.SV.agg [Go.Ev.SL.d (Go.Ev.DL.int Go.IntKind.u8 x2_0), Go.Ev.SL.d (Go.Ev.DL.int Go.IntKind.u8 x2_1), Go.Ev.SL.d (Go.Ev.DL.int Go.IntKind.u8 x2_2), Go.Ev.SL.d (Go.Ev.DL.int Go.IntKind.u8 x2_3), Go.Ev.SL.d (Go.Ev.DL.int Go.IntKind.u8 x2_4), Go.Ev.SL.d (Go.Ev.DL.int Go.IntKind.u8 x2_5), Go.Ev.SL.d (Go.Ev.DL.int Go.IntKind.u8 x2_6), Go.Ev.SL.d (Go.Ev.DL.int Go.IntKind.u8 x2_7), Go.Ev.SL.d (Go.Ev.DL.int Go.IntKind.u8 x2_8), Go.Ev.SL.d (Go.Ev.DL.int Go.IntKind.u8 x2_9), Go.Ev.SL.d (Go.Ev.DL.int Go.IntKind.u8 x2_10), Go.Ev.SL.d (Go.Ev.DL.int Go.IntKind.u8 x2_11), Go.Ev.SL.d (Go.Ev.DL.int Go.IntKind.u8 x2_12), Go.Ev.SL.d (Go.Ev.DL.int Go.IntKind.u8 x2_13), Go.Ev.SL.d (Go.Ev.DL.int Go.IntKind.u8 x2_14), Go.Ev.SL.d (Go.Ev.DL.int Go.IntKind.u8 x2_15), Go.Ev.SL.d (Go.Ev.DL.int Go.IntKind.u8 x2_16), Go.Ev.SL.d (Go.Ev.DL.int Go.IntKind.u8 x2_17), Go.Ev.SL.d (Go.Ev.DL.int Go.IntKind.u8 x2_18), Go.Ev.SL.d (Go.Ev.DL.int Go.IntKind.u8 x2_19), Go.Ev.SL.d (Go.Ev.DL.int Go.IntKind.u8 x2_20), Go.Ev.SL.d (Go.Ev.DL.int Go.IntKind.u8 x2_21), Go.Ev.SL.d (Go.Ev.DL.int Go.IntKind.u8 x2_22), Go.Ev.SL.d (Go.Ev.DL.int Go.IntKind.u8 x2_23), Go.Ev.SL.d (Go.Ev.DL.int Go.IntKind.u8 x2_24), Go.Ev.SL.d (Go.Ev.DL.int Go.IntKind.u8 x2_25), Go.Ev.SL.d (Go.Ev.DL.int Go.IntKind.u8 x2_26), Go.Ev.SL.d (Go.Ev.DL.int Go.IntKind.u8 x2_27), Go.Ev.SL.d (Go.Ev.DL.int Go.IntKind.u8 x2_28), Go.Ev.SL.d (Go.Ev.DL.int Go.IntKind.u8 x2_29), Go.Ev.SL.d (Go.Ev.DL.int Go.IntKind.u8 x2_30), Go.Ev.SL.d (Go.Ev.DL.int Go.IntKind.u8 x2_31)], Go.Ev.SV.one (Go.Ev.SL.d (Go.Ev.DL.lst (5 : Nat) x3))], []) => some ⟨(x1, [x2_0, x2_1, x2_2, x2_3, x2_4, x2_5, x2_6, x2_7, x2_8, x2_9, x2_10, x2_11, x2_12, x2_13, x2_14, x2_15, x2_16, x2_17, x2_18, x2_19, x2_20, x2_21, x2_22, x2_23, x2_24, x2_25, x2_26, x2_27, x2_28, x2_29, x2_30, x2_31], x3), rfl⟩
  | _ => none
abbrev o24 : Type := List Int
def ret24 : o24 → CSt := fun b => ([Go.Ev.SV.agg (Go.Ev.pkS Go.IntKind.u8 b (32 : Nat))], [])
def retK24 {R : Type} (K : CSt → Option R) : o24 → Option R := fun b => K (([Go.Ev.SV.agg (Go.Ev.pkS Go.IntKind.u8 b (32 : Nat))], []))
theorem retK24_eq {R : Type} (K : CSt → Option R) (b : o24) : retK24 K b = K (ret24 b) := rfl
abbrev Sd24 (f : i24 → Option o24) : Prop := ∀ a b, f a = some b → CallOk Try.prog 24 (enc24 a) (ret24 b)
def ent24 (f : i24 → Option o24) : Ent := mkEnt 24 dec24 ret24 retK24 retK24_eq f
def ann24 : Nat → List Nat × List Nat := fun id => ([], [])
def br24 : FuncId → Bool := fun (g : Nat) => ([30] : List Nat).any (Nat.beq g)
def ar24 : TypeId → Bool := fun (t : Nat) => ([29, 30, 54, 57] : List Nat).any (Nat.beq t)
noncomputable def t24 {R : Type} (sh : Sh) (f15 : i15 → Option o15) (x1 : Int) (x2 : List Int) (x3 : Rows) (k : o24 → Option R) : Option R :=
  sh (Go.Ev.colD (Go.Ev.mapD Go.IntKind.u8 (Go.Ev.pkL x2 (32 : Nat))) : Rows) fun y1 =>
  sh (List.replicate (32 : Nat) [Go.Ev.DL.int Go.IntKind.u8 (0 : Int)] : Rows) fun y2 =>
  sh ((↑(List.length x3) : Int)) fun y3 =>
  bif Decidable.decide ((0 : Int) ≤ (0 : Int) ∧ (0 : Int) ≤ Go.IntKind.wrap Go.IntKind.i64 ((32 : Int) + y3)) && Go.Ev.roomE Go.Proofs.Try.prog (5 : Nat) (Int.toNat (Go.IntKind.wrap Go.IntKind.i64 ((32 : Int) + y3))) then
    sh ([] : Rows) fun y4 =>
    bif Decidable.decide (List.length y1 = (32 : Nat)) then
      bif Go.Ev.roomE Go.Proofs.Try.prog (5 : Nat) (List.length y4 + List.length y1) then
        sh (y4 ++ y1 : Rows) fun y5 =>
        bif Go.Ev.roomE Go.Proofs.Try.prog (5 : Nat) (List.length y5 + List.length x3) then
          sh (y5 ++ x3 : Rows) fun y6 =>
          (f15 (x1, y6)).bind fun (r7 : List Int) =>
          bif Decidable.decide (List.length y2 = (32 : Nat)) then
            sh (Go.Ev.colD (Go.Ev.mapD Go.IntKind.u8 (Go.Ev.pkL r7 (32 : Nat))) : Rows) fun y8 =>
            bif Decidable.decide (List.length y8 = (32 : Nat)) then
              k (Go.Ev.colI y8 (32 : Nat))
            else none
          else none
        else none
      else none
    else none
  else none
theorem t24_eq {R : Type} (sh : Sh) (hsh : ∀ {α R : Type} (x : α) (K : α → Option R), sh x K = K x) (f15 : i15 → Option o15) (x1 : Int) (x2 : List Int) (x3 : Rows) (K : CSt → Option R) : bodyK Try.prog (tabO sh hsh br24 ar24 [ent15 f15]) (tabL []) ann24 false Try.f24 (enc24 (x1, x2, x3)) K = t24 sh f15 x1 x2 x3 (retK24 K) := by kernel_rfl
theorem t24_law {R : Type} (f15 : i15 → Option o15) (x1 : Int) (x2 : List Int) (x3 : Rows) (K : o24 → Option R) : t24 sh0 f15 x1 x2 x3 K = (t24 sh0 f15 x1 x2 x3 some).bind K := by
  simp only [t24, sh0, cond_bind', two_bind, none_bind', Option.bind_assoc, Option.bind_some]
theorem ok24 (f15 : i15 → Option o15) (hf15 : Sd15 f15) : Sd24 (fun a => t24 sh0 f15 a.1 a.2.1 a.2.2 some) := by
  intro a b h
  refine call_ok (sh := sh0) (hsh := fun _ _ => rfl) (br := br24) (ar := ar24) (own := false) Try.mixed Try.func24 (by kernel_rfl) (.cons (mkEnt_ok hf15) .nil) (fun nt => .nil) ((t24_eq sh0 (fun _ _ => rfl) f15 a.1 a.2.1 a.2.2 _).trans ?_)
  rw [t24_law]
  simp only at h
  rw [h, Option.bind_some, retK24_eq]

/-! 25 erasure/erasureref25.Keyed -/
abbrev i25 : Type := Int × List Int × Rows
def enc25 : i25 → CSt := fun a => ([Go.Ev.SV.one (Go.Ev.SL.d (Go.Ev.DL.int Go.IntKind.u64 a.1)), Go.Ev.SV.agg (Go.Ev.pkS Go.IntKind.u8 a.2.1 (32 : Nat)), Go.Ev.SV.one (Go.Ev.SL.d (Go.Ev.DL.lst (5 : Nat) a.2.2))], [])
def dec25 : (c : CSt) → Option { a : i25 // c = enc25 a }
  | ([Go.Ev.SV.one (Go.Ev.SL.d (Go.Ev.DL.int Go.IntKind.u64 x1)), Go.Ev.SV.agg [Go.Ev.SL.d (Go.Ev.DL.int Go.IntKind.u8 x2_0), Go.Ev.SL.d (Go.Ev.DL.int Go.IntKind.u8 x2_1), Go.Ev.SL.d (Go.Ev.DL.int Go.IntKind.u8 x2_2), Go.Ev.SL.d (Go.Ev.DL.int Go.IntKind.u8 x2_3), Go.Ev.SL.d (Go.Ev.DL.int Go.IntKind.u8 x2_4), Go.Ev.SL.d (Go.Ev.DL.int Go.IntKind.u8 x2_5), Go.Ev.SL.d (Go.Ev.DL.int Go.IntKind.u8 x2_6), Go.Ev.SL.d (Go.Ev.DL.int Go.IntKind.u8 x2_7), Go.Ev.SL.d (Go.Ev.DL.int Go.IntKind.u8 x2_8), Go.Ev.SL.d (Go.Ev.DL.int Go.IntKind.u8 x2_9), Go.Ev.SL.d (Go.Ev.DL.int Go.IntKind.u8 x2_10), Go.Ev.SL.d (Go.Ev.DL.int Go.IntKind.u8 x2_11), Go.Ev.SL.d (Go.Ev.DL.int Go.IntKind.u8 x2_12), Go.Ev.SL.d (Go.Ev.DL.int Go.IntKind.u8 x2_13), Go.Ev.SL.d (Go.Ev.DL.int Go.IntKind.u8 x2_14), Go.Ev.SL.d (Go.Ev.DL.int Go.IntKind.u8 x2_15), Go.Ev.SL.d (Go.Ev.DL.int Go.IntKind.u8 x2_16), Go.Ev.SL.d (Go.Ev.DL.int Go.IntKind.u8 x2_17), Go.Ev.SL.d (Go.Ev.DL.int Go.IntKind.u8 x2_18), Go.Ev.SL.d (Go.Ev.DL.int Go.IntKind.u8 x2_19), Go.Ev.SL.d (Go.Ev.DL.int Go.IntKind.u8 x2_20), Go.Ev.SL.d (Go.Ev.DL.int Go.IntKind.u8 x2_21), Go.Ev.SL.d (Go.Ev.DL.int Go.IntKind.u8 x2_22), Go.Ev.SL.d (Go.Ev.DL.int Go.IntKind.u8 x2_23), Go.Ev.SL.d (Go.Ev.DL.int Go.IntKind.u8 x2_24), Go.Ev.SL.d (Go.Ev.DL.int Go.IntKind.u8 x2_25), Go.Ev.SL.d (Go.Ev.DL.int Go.IntKind.u8 x2_26), Go.Ev.SL.d (Go.Ev.DL.int Go.IntKind.u8 x2_27), Go.Ev.SL.d (Go.Ev.DL.int Go.IntKind.u8 x2_28), Go.Ev.SL.d (Go.Ev.DL.int Go.IntKind.u8 x2_29), Go.Ev.SL.d (Go.Ev.DL.int Go.IntKind.u8 x2_30), Go.Ev.SL.d (Go.Ev.DL.int Go.IntKind.u8 x2_31)], Go.Ev.SV.one (Go.Ev.SL.d (Go.Ev.DL.lst (5 : Nat) x3))], []) => some ⟨(x1, [x2_0, x2_1, x2_2, x2_3, x2_4, x2_5, x2_6, x2_7, x2_8, x2_9, x2_10, x2_11, x2_12, x2_13, x2_14, x2_15, x2_16, x2_17, x2_18, x2_19, x2_20, x2_21, x2_22, x2_23, x2_24, x2_25, x2_26, x2_27, x2_28, x2_29, x2_30, x2_31], x3), rfl⟩
  | _ => none
abbrev o25 : Type := List Int
def ret25 : o25 → CSt := fun b => ([Go.Ev.SV.agg (Go.Ev.pkS Go.IntKind.u8 b (32 : Nat))], [])
def retK25 {R : Type} (K : CSt → Option R) : o25 → Option R := fun b => K (([Go.Ev.SV.agg (Go.Ev.pkS Go.IntKind.u8 b (32 : Nat))], []))
theorem retK25_eq {R : Type} (K : CSt → Option R) (b : o25) : retK25 K b = K (ret25 b) := rfl
abbrev Sd25 (f : i25 → Option o25) : Prop := ∀ a b, f a = some b → CallOk Try.prog 25 (enc25 a) (ret25 b)
def ent25 (f : i25 → Option o25) : Ent := mkEnt 25 dec25 ret25 retK25 retK25_eq f
def ann25 : Nat → List Nat × List Nat := fun id => ([], [])
def br25 : FuncId → Bool := fun (g : Nat) => ([30] : List Nat).any (Nat.beq g)
def ar25 : TypeId → Bool := fun (t : Nat) => ([29, 30, 54, 57] : List Nat).any (Nat.beq t)
noncomputable def t25 {R : Type} (sh : Sh) (f23 : i23 → Option o23) (f16 : i16 → Option o16) (x1 : Int) (x2 : List Int) (x3 : Rows) (k : o25 → Option R) : Option R :=
  sh (Go.Ev.colD (Go.Ev.mapD Go.IntKind.u8 (Go.Ev.pkL x2 (32 : Nat))) : Rows) fun y1 =>
  sh (List.replicate (32 : Nat) [Go.Ev.DL.int Go.IntKind.u8 (0 : Int)] : Rows) fun y2 =>
  bif Decidable.decide (List.length y1 = (32 : Nat)) then
    (f23 (Go.Ev.colI y1 (32 : Nat))).bind fun (r3 : Rows) =>
    bif Go.Ev.roomE Go.Proofs.Try.prog (5 : Nat) (List.length r3 + List.length x3) then
      sh (r3 ++ x3 : Rows) fun y4 =>
      (f16 (x1, y4)).bind fun (r5 : List Int) =>
      bif Decidable.decide (List.length y2 = (32 : Nat)) then
        sh (Go.Ev.colD (Go.Ev.mapD Go.IntKind.u8 (Go.Ev.pkL r5 (32 : Nat))) : Rows) fun y6 =>
        bif Decidable.decide (List.length y6 = (32 : Nat)) then
          k (Go.Ev.colI y6 (32 : Nat))
        else none
      else none
    else none
  else none
theorem t25_eq {R : Type} (sh : Sh) (hsh : ∀ {α R : Type} (x : α) (K : α → Option R), sh x K = K x) (f23 : i23 → Option o23) (f16 : i16 → Option o16) (x1 : Int) (x2 : List Int) (x3 : Rows) (K : CSt → Option R) : bodyK Try.prog (tabO sh hsh br25 ar25 [ent23 f23, ent16 f16]) (tabL []) ann25 false Try.f25 (enc25 (x1, x2, x3)) K = t25 sh f23 f16 x1 x2 x3 (retK25 K) := by kernel_rfl
theorem t25_law {R : Type} (f23 : i23 → Option o23) (f16 : i16 → Option o16) (x1 : Int) (x2 : List Int) (x3 : Rows) (K : o25 → Option R) : t25 sh0 f23 f16 x1 x2 x3 K = (t25 sh0 f23 f16 x1 x2 x3 some).bind K := by
  simp only [t25, sh0, cond_bind', two_bind, none_bind', Option.bind_assoc, Option.bind_some]
theorem ok25 (f23 : i23 → Option o23) (f16 : i16 → Option o16) (hf23 : Sd23 f23) (hf16 : Sd16 f16) : Sd25 (fun a => t25 sh0 f23 f16 a.1 a.2.1 a.2.2 some) := by
  intro a b h
  refine call_ok (sh := sh0) (hsh := fun _ _ => rfl) (br := br25) (ar := ar25) (own := false) Try.mixed Try.func25 (by kernel_rfl) (.cons (mkEnt_ok hf23) (.cons (mkEnt_ok hf16) .nil)) (fun nt => .nil) ((t25_eq sh0 (fun _ _ => rfl) f23 f16 a.1 a.2.1 a.2.2 _).trans ?_)
  rw [t25_law]
  simp only at h
  rw [h, Option.bind_some, retK25_eq]

/-! 9 erasure/erasurelaw25.DigestKeyed -/
abbrev i9 : Type := Int × List Int × Rows
def enc9 : i9 → CSt := fun a => ([Go.Ev.SV.one (Go.Ev.SL.d (Go.Ev.DL.int Go.IntKind.u64 a.1)), Go.Ev.SV.agg (Go.Ev.pkS Go.IntKind.u8 a.2.1 (32 : Nat)), Go.Ev.SV.one (Go.Ev.SL.d (Go.Ev.DL.lst (5 : Nat) a.2.2))], [])
def dec9 : (c : CSt) → Option { a : i9 // c = enc9 a }
  | ([Go.Ev.SV.one (Go.Ev.SL.d (Go.Ev.DL.int Go.IntKind.u64 x1)), Go.Ev.SV.agg [Go.Ev.SL.d (Go.Ev.DL.int Go.IntKind.u8 x2_0), Go.Ev.SL.d (Go.Ev.DL.int Go.IntKind.u8 x2_1), Go.Ev.SL.d (Go.Ev.DL.int Go.IntKind.u8 x2_2), Go.Ev.SL.d (Go.Ev.DL.int Go.IntKind.u8 x2_3), Go.Ev.SL.d (Go.Ev.DL.int Go.IntKind.u8 x2_4), Go.Ev.SL.d (Go.Ev.DL.int Go.IntKind.u8 x2_5), Go.Ev.SL.d (Go.Ev.DL.int Go.IntKind.u8 x2_6), Go.Ev.SL.d (Go.Ev.DL.int Go.IntKind.u8 x2_7), Go.Ev.SL.d (Go.Ev.DL.int Go.IntKind.u8 x2_8), Go.Ev.SL.d (Go.Ev.DL.int Go.IntKind.u8 x2_9), Go.Ev.SL.d (Go.Ev.DL.int Go.IntKind.u8 x2_10), Go.Ev.SL.d (Go.Ev.DL.int Go.IntKind.u8 x2_11), Go.Ev.SL.d (Go.Ev.DL.int Go.IntKind.u8 x2_12), Go.Ev.SL.d (Go.Ev.DL.int Go.IntKind.u8 x2_13), Go.Ev.SL.d (Go.Ev.DL.int Go.IntKind.u8 x2_14), Go.Ev.SL.d (Go.Ev.DL.int Go.IntKind.u8 x2_15), Go.Ev.SL.d (Go.Ev.DL.int Go.IntKind.u8 x2_16), Go.Ev.SL.d (Go.Ev.DL.int Go.IntKind.u8 x2_17), Go.Ev.SL.d (Go.Ev.DL.int Go.IntKind.u8 x2_18), Go.Ev.SL.d (Go.Ev.DL.int Go.IntKind.u8 x2_19), Go.Ev.SL.d (Go.Ev.DL.int Go.IntKind.u8 x2_20), Go.Ev.SL.d (Go.Ev.DL.int Go.IntKind.u8 x2_21), Go.Ev.SL.d (Go.Ev.DL.int Go.IntKind.u8 x2_22), Go.Ev.SL.d (Go.Ev.DL.int Go.IntKind.u8 x2_23), Go.Ev.SL.d (Go.Ev.DL.int Go.IntKind.u8 x2_24), Go.Ev.SL.d (Go.Ev.DL.int Go.IntKind.u8 x2_25), Go.Ev.SL.d (Go.Ev.DL.int Go.IntKind.u8 x2_26), Go.Ev.SL.d (Go.Ev.DL.int Go.IntKind.u8 x2_27), Go.Ev.SL.d (Go.Ev.DL.int Go.IntKind.u8 x2_28), Go.Ev.SL.d (Go.Ev.DL.int Go.IntKind.u8 x2_29), Go.Ev.SL.d (Go.Ev.DL.int Go.IntKind.u8 x2_30), Go.Ev.SL.d (Go.Ev.DL.int Go.IntKind.u8 x2_31)], Go.Ev.SV.one (Go.Ev.SL.d (Go.Ev.DL.lst (5 : Nat) x3))], []) => some ⟨(x1, [x2_0, x2_1, x2_2, x2_3, x2_4, x2_5, x2_6, x2_7, x2_8, x2_9, x2_10, x2_11, x2_12, x2_13, x2_14, x2_15, x2_16, x2_17, x2_18, x2_19, x2_20, x2_21, x2_22, x2_23, x2_24, x2_25, x2_26, x2_27, x2_28, x2_29, x2_30, x2_31], x3), rfl⟩
  | _ => none
abbrev o9 : Type := Bool
def ret9 : o9 → CSt := fun b => ([Go.Ev.SV.one (Go.Ev.SL.d (Go.Ev.DL.bool b))], [])
def retK9 {R : Type} (K : CSt → Option R) : o9 → Option R := fun b => K (([Go.Ev.SV.one (Go.Ev.SL.d (Go.Ev.DL.bool b))], []))
theorem retK9_eq {R : Type} (K : CSt → Option R) (b : o9) : retK9 K b = K (ret9 b) := rfl
abbrev Sd9 (f : i9 → Option o9) : Prop := ∀ a b, f a = some b → CallOk Try.prog 9 (enc9 a) (ret9 b)
def ent9 (f : i9 → Option o9) : Ent := mkEnt 9 dec9 ret9 retK9 retK9_eq f
def ann9 : Nat → List Nat × List Nat := fun id => ([], [])
def br9 : FuncId → Bool := fun (g : Nat) => ([30] : List Nat).any (Nat.beq g)
def ar9 : TypeId → Bool := fun (t : Nat) => ([29, 30, 54, 57] : List Nat).any (Nat.beq t)
noncomputable def t9 {R : Type} (sh : Sh) (f14 : i14 → Option o14) (f24 : i24 → Option o24) (f25 : i25 → Option o25) (x1 : Int) (x2 : List Int) (x3 : Rows) (k : o9 → Option R) : Option R :=
  sh (Go.Ev.colD (Go.Ev.mapD Go.IntKind.u8 (Go.Ev.pkL x2 (32 : Nat))) : Rows) fun y1 =>
  sh ((↑(List.length x3) : Int)) fun y2 =>
  bif Decidable.decide (y2 > (300 : Int)) then
    (f14 ()).bind fun (r3 : Bool) =>
    k (r3)
  else
    sh (Go.Ev.strOfBytes x3) fun y4 =>
    bif Decidable.decide (List.length y1 = (32 : Nat)) then
      (f24 (x1, Go.Ev.colI y1 (32 : Nat), x3)).bind fun (r5 : List Int) =>
      sh (List.replicate (32 : Nat) [Go.Ev.DL.int Go.IntKind.u8 (0 : Int)] : Rows) fun y6 =>
      bif Decidable.decide (List.length y6 = (32 : Nat)) then
        sh (Go.Ev.colD (Go.Ev.mapD Go.IntKind.u8 (Go.Ev.pkL r5 (32 : Nat))) : Rows) fun y7 =>
        bif Decidable.decide (List.length y7 = (32 : Nat)) then
          bif Decidable.decide (List.length y1 = (32 : Nat)) then
            (f25 (x1, Go.Ev.colI y1 (32 : Nat), x3)).bind fun (r8 : List Int) =>
            bif Go.Ev.eqI (Go.Ev.colI y7 (32 : Nat)) (Go.Ev.pkL r8 (32 : Nat)) (32 : Nat) then
              sh (Go.Ev.strOfBytes x3) fun y9 =>
              bif Go.Ev.strEq y9 y4 then
                (f14 ()).bind fun (r10 : Bool) =>
                k (r10)
              else
                k (Bool.false)
            else
              k (Bool.false)
          else none
        else none
      else none
    else none
theorem t9_eq {R : Type} (sh : Sh) (hsh : ∀ {α R : Type} (x : α) (K : α → Option R), sh x K = K x) (f14 : i14 → Option o14) (f24 : i24 → Option o24) (f25 : i25 → Option o25) (x1 : Int) (x2 : List Int) (x3 : Rows) (K : CSt → Option R) : bodyK Try.prog (tabO sh hsh br9 ar9 [ent14 f14, ent24 f24, ent25 f25]) (tabL []) ann9 false Try.f9 (enc9 (x1, x2, x3)) K = t9 sh f14 f24 f25 x1 x2 x3 (retK9 K) := by kernel_rfl
theorem t9_law {R : Type} (f14 : i14 → Option o14) (f24 : i24 → Option o24) (f25 : i25 → Option o25) (x1 : Int) (x2 : List Int) (x3 : Rows) (K : o9 → Option R) : t9 sh0 f14 f24 f25 x1 x2 x3 K = (t9 sh0 f14 f24 f25 x1 x2 x3 some).bind K := by
  simp only [t9, sh0, cond_bind', two_bind, none_bind', Option.bind_assoc, Option.bind_some]
theorem ok9 (f14 : i14 → Option o14) (f24 : i24 → Option o24) (f25 : i25 → Option o25) (hf14 : Sd14 f14) (hf24 : Sd24 f24) (hf25 : Sd25 f25) : Sd9 (fun a => t9 sh0 f14 f24 f25 a.1 a.2.1 a.2.2 some) := by
  intro a b h
  refine call_ok (sh := sh0) (hsh := fun _ _ => rfl) (br := br9) (ar := ar9) (own := false) Try.mixed Try.func9 (by kernel_rfl) (.cons (mkEnt_ok hf14) (.cons (mkEnt_ok hf24) (.cons (mkEnt_ok hf25) .nil))) (fun nt => .nil) ((t9_eq sh0 (fun _ _ => rfl) f14 f24 f25 a.1 a.2.1 a.2.2 _).trans ?_)
  rw [t9_law]
  simp only at h
  rw [h, Option.bind_some, retK9_eq]

/-! 26 erasure/digest.Expand -/
abbrev i26 : Type := Int × List Int × Int
def enc26 : i26 → CSt := fun a => ([Go.Ev.SV.one (Go.Ev.SL.d (Go.Ev.DL.int Go.IntKind.u64 a.1)), Go.Ev.SV.agg (Go.Ev.pkS Go.IntKind.u8 a.2.1 (32 : Nat)), Go.Ev.SV.one (Go.Ev.SL.d (Go.Ev.DL.int Go.IntKind.i64 a.2.2))], [])
def dec26 : (c : CSt) → Option { a : i26 // c = enc26 a }
  | ([Go.Ev.SV.one (Go.Ev.SL.d (Go.Ev.DL.int Go.IntKind.u64 x1)), Go.Ev.SV.agg [Go.Ev.SL.d (Go.Ev.DL.int Go.IntKind.u8 x2_0), Go.Ev.SL.d (Go.Ev.DL.int Go.IntKind.u8 x2_1), Go.Ev.SL.d (Go.Ev.DL.int Go.IntKind.u8 x2_2), Go.Ev.SL.d (Go.Ev.DL.int Go.IntKind.u8 x2_3), Go.Ev.SL.d (Go.Ev.DL.int Go.IntKind.u8 x2_4), Go.Ev.SL.d (Go.Ev.DL.int Go.IntKind.u8 x2_5), Go.Ev.SL.d (Go.Ev.DL.int Go.IntKind.u8 x2_6), Go.Ev.SL.d (Go.Ev.DL.int Go.IntKind.u8 x2_7), Go.Ev.SL.d (Go.Ev.DL.int Go.IntKind.u8 x2_8), Go.Ev.SL.d (Go.Ev.DL.int Go.IntKind.u8 x2_9), Go.Ev.SL.d (Go.Ev.DL.int Go.IntKind.u8 x2_10), Go.Ev.SL.d (Go.Ev.DL.int Go.IntKind.u8 x2_11), Go.Ev.SL.d (Go.Ev.DL.int Go.IntKind.u8 x2_12), Go.Ev.SL.d (Go.Ev.DL.int Go.IntKind.u8 x2_13), Go.Ev.SL.d (Go.Ev.DL.int Go.IntKind.u8 x2_14), Go.Ev.SL.d (Go.Ev.DL.int Go.IntKind.u8 x2_15), Go.Ev.SL.d (Go.Ev.DL.int Go.IntKind.u8 x2_16), Go.Ev.SL.d (Go.Ev.DL.int Go.IntKind.u8 x2_17), Go.Ev.SL.d (Go.Ev.DL.int Go.IntKind.u8 x2_18), Go.Ev.SL.d (Go.Ev.DL.int Go.IntKind.u8 x2_19), Go.Ev.SL.d (Go.Ev.DL.int Go.IntKind.u8 x2_20), Go.Ev.SL.d (Go.Ev.DL.int Go.IntKind.u8 x2_21), Go.Ev.SL.d (Go.Ev.DL.int Go.IntKind.u8 x2_22), Go.Ev.SL.d (Go.Ev.DL.int Go.IntKind.u8 x2_23), Go.Ev.SL.d (Go.Ev.DL.int Go.IntKind.u8 x2_24), Go.Ev.SL.d (Go.Ev.DL.int Go.IntKind.u8 x2_25), Go.Ev.SL.d (Go.Ev.DL.int Go.IntKind.u8 x2_26), Go.Ev.SL.d (Go.Ev.DL.int Go.IntKind.u8 x2_27), Go.Ev.SL.d (Go.Ev.DL.int Go.IntKind.u8 x2_28), Go.Ev.SL.d (Go.Ev.DL.int Go.IntKind.u8 x2_29), Go.Ev.SL.d (Go.Ev.DL.int Go.IntKind.u8 x2_30), Go.Ev.SL.d (Go.Ev.DL.int Go.IntKind.u8 x2_31)], Go.Ev.SV.one (Go.Ev.SL.d (Go.Ev.DL.int Go.IntKind.i64 x3))], []) => some ⟨(x1, [x2_0, x2_1, x2_2, x2_3, x2_4, x2_5, x2_6, x2_7, x2_8, x2_9, x2_10, x2_11, x2_12, x2_13, x2_14, x2_15, x2_16, x2_17, x2_18, x2_19, x2_20, x2_21, x2_22, x2_23, x2_24, x2_25, x2_26, x2_27, x2_28, x2_29, x2_30, x2_31], x3), rfl⟩
  | _ => none
abbrev o26 : Type := Int × Rows
def ret26 : o26 → CSt := fun b => ([Go.Ev.SV.one (Go.Ev.SL.vr (0 : Nat)), Go.Ev.SV.one (Go.Ev.SL.d (Go.Ev.DL.int Go.IntKind.i64 b.1))], [Go.Ev.Obj.vec (5 : Nat) Bool.false b.2])
def retK26 {R : Type} (K : CSt → Option R) : o26 → Option R := fun b => K (([Go.Ev.SV.one (Go.Ev.SL.vr (0 : Nat)), Go.Ev.SV.one (Go.Ev.SL.d (Go.Ev.DL.int Go.IntKind.i64 b.1))], [Go.Ev.Obj.vec (5 : Nat) Bool.false b.2]))
theorem retK26_eq {R : Type} (K : CSt → Option R) (b : o26) : retK26 K b = K (ret26 b) := rfl
abbrev Sd26 (f : i26 → Option o26) : Prop := ∀ a b, f a = some b → CallOk Try.prog 26 (enc26 a) (ret26 b)
def ent26 (f : i26 → Option o26) : Ent := mkEnt 26 dec26 ret26 retK26 retK26_eq f
def ann26 : Nat → List Nat × List Nat := fun id => ([], [])
def br26 : FuncId → Bool := fun (g : Nat) => ([30] : List Nat).any (Nat.beq g)
def ar26 : TypeId → Bool := fun (t : Nat) => ([29, 30, 54, 57] : List Nat).any (Nat.beq t)
noncomputable def t26 {R : Type} (sh : Sh) (f31 : i31 → Option o31) (f30 : i30 → Option o30) (x1 : Int) (x2 : List Int) (x3 : Int) (k : o26 → Option R) : Option R :=
  sh (Go.Ev.colD (Go.Ev.mapD Go.IntKind.u8 (Go.Ev.pkL x2 (32 : Nat))) : Rows) fun y1 =>
  sh ([] : Rows) fun y2 =>
  bif Decidable.decide (x3 < (0 : Int)) then
    sh ([] : Rows) fun y3 =>
    k (((1 : Int), y3))
  else
    bif Decidable.decide (x3 > (4096 : Int)) then
      sh ([] : Rows) fun y4 =>
      k (((1 : Int), y4))
    else
      bif Decidable.decide ((0 : Int) ≤ x3 ∧ x3 ≤ x3) && Go.Ev.roomE Go.Proofs.Try.prog (5 : Nat) (Int.toNat x3) then
        sh (List.replicate (Int.toNat x3) [Go.Ev.DL.int Go.IntKind.u8 (0 : Int)] : Rows) fun y5 =>
        bif Decidable.decide (List.length y1 = (32 : Nat)) then
          (f31 (x1, y1)).bind fun (r6 : Int × Int × Int × Int × Int) =>
          (f30 (Prod.fst r6, Prod.fst r6.2, Prod.fst (Prod.snd r6).2, Prod.fst (Prod.snd (Prod.snd r6)).2, Prod.snd (Prod.snd (Prod.snd r6)).2, y5)).bind fun (r7 : Rows) =>
          k (((0 : Int), r7))
        else none
      else none
theorem t26_eq {R : Type} (sh : Sh) (hsh : ∀ {α R : Type} (x : α) (K : α → Option R), sh x K = K x) (f31 : i31 → Option o31) (f30 : i30 → Option o30) (x1 : Int) (x2 : List Int) (x3 : Int) (K : CSt → Option R) : bodyK Try.prog (tabO sh hsh br26 ar26 [ent31 f31, ent30 f30]) (tabL []) ann26 true Try.f26 (enc26 (x1, x2, x3)) K = t26 sh f31 f30 x1 x2 x3 (retK26 K) := by kernel_rfl
theorem t26_law {R : Type} (f31 : i31 → Option o31) (f30 : i30 → Option o30) (x1 : Int) (x2 : List Int) (x3 : Int) (K : o26 → Option R) : t26 sh0 f31 f30 x1 x2 x3 K = (t26 sh0 f31 f30 x1 x2 x3 some).bind K := by
  simp only [t26, sh0, cond_bind', two_bind, none_bind', Option.bind_assoc, Option.bind_some]
theorem ok26 (f31 : i31 → Option o31) (f30 : i30 → Option o30) (hf31 : Sd31 f31) (hf30 : Sd30 f30) : Sd26 (fun a => t26 sh0 f31 f30 a.1 a.2.1 a.2.2 some) := by
  intro a b h
  refine call_ok (sh := sh0) (hsh := fun _ _ => rfl) (br := br26) (ar := ar26) (own := true) Try.mixed Try.func26 (by kernel_rfl) (.cons (mkEnt_ok hf31) (.cons (mkEnt_ok hf30) .nil)) (fun nt => .nil) ((t26_eq sh0 (fun _ _ => rfl) f31 f30 a.1 a.2.1 a.2.2 _).trans ?_)
  rw [t26_law]
  simp only at h
  rw [h, Option.bind_some, retK26_eq]

/-! 27 erasure/erasureref25.Expand -/
abbrev i27 : Type := Int × List Int × Int
def enc27 : i27 → CSt := fun a => ([Go.Ev.SV.one (Go.Ev.SL.d (Go.Ev.DL.int Go.IntKind.u64 a.1)), Go.Ev.SV.agg (Go.Ev.pkS Go.IntKind.u8 a.2.1 (32 : Nat)), Go.Ev.SV.one (Go.Ev.SL.d (Go.Ev.DL.int Go.IntKind.i64 a.2.2))], [])
def dec27 : (c : CSt) → Option { a : i27 // c = enc27 a }
  | ([Go.Ev.SV.one (Go.Ev.SL.d (Go.Ev.DL.int Go.IntKind.u64 x1)), Go.Ev.SV.agg [Go.Ev.SL.d (Go.Ev.DL.int Go.IntKind.u8 x2_0), Go.Ev.SL.d (Go.Ev.DL.int Go.IntKind.u8 x2_1), Go.Ev.SL.d (Go.Ev.DL.int Go.IntKind.u8 x2_2), Go.Ev.SL.d (Go.Ev.DL.int Go.IntKind.u8 x2_3), Go.Ev.SL.d (Go.Ev.DL.int Go.IntKind.u8 x2_4), Go.Ev.SL.d (Go.Ev.DL.int Go.IntKind.u8 x2_5), Go.Ev.SL.d (Go.Ev.DL.int Go.IntKind.u8 x2_6), Go.Ev.SL.d (Go.Ev.DL.int Go.IntKind.u8 x2_7), Go.Ev.SL.d (Go.Ev.DL.int Go.IntKind.u8 x2_8), Go.Ev.SL.d (Go.Ev.DL.int Go.IntKind.u8 x2_9), Go.Ev.SL.d (Go.Ev.DL.int Go.IntKind.u8 x2_10), Go.Ev.SL.d (Go.Ev.DL.int Go.IntKind.u8 x2_11), Go.Ev.SL.d (Go.Ev.DL.int Go.IntKind.u8 x2_12), Go.Ev.SL.d (Go.Ev.DL.int Go.IntKind.u8 x2_13), Go.Ev.SL.d (Go.Ev.DL.int Go.IntKind.u8 x2_14), Go.Ev.SL.d (Go.Ev.DL.int Go.IntKind.u8 x2_15), Go.Ev.SL.d (Go.Ev.DL.int Go.IntKind.u8 x2_16), Go.Ev.SL.d (Go.Ev.DL.int Go.IntKind.u8 x2_17), Go.Ev.SL.d (Go.Ev.DL.int Go.IntKind.u8 x2_18), Go.Ev.SL.d (Go.Ev.DL.int Go.IntKind.u8 x2_19), Go.Ev.SL.d (Go.Ev.DL.int Go.IntKind.u8 x2_20), Go.Ev.SL.d (Go.Ev.DL.int Go.IntKind.u8 x2_21), Go.Ev.SL.d (Go.Ev.DL.int Go.IntKind.u8 x2_22), Go.Ev.SL.d (Go.Ev.DL.int Go.IntKind.u8 x2_23), Go.Ev.SL.d (Go.Ev.DL.int Go.IntKind.u8 x2_24), Go.Ev.SL.d (Go.Ev.DL.int Go.IntKind.u8 x2_25), Go.Ev.SL.d (Go.Ev.DL.int Go.IntKind.u8 x2_26), Go.Ev.SL.d (Go.Ev.DL.int Go.IntKind.u8 x2_27), Go.Ev.SL.d (Go.Ev.DL.int Go.IntKind.u8 x2_28), Go.Ev.SL.d (Go.Ev.DL.int Go.IntKind.u8 x2_29), Go.Ev.SL.d (Go.Ev.DL.int Go.IntKind.u8 x2_30), Go.Ev.SL.d (Go.Ev.DL.int Go.IntKind.u8 x2_31)], Go.Ev.SV.one (Go.Ev.SL.d (Go.Ev.DL.int Go.IntKind.i64 x3))], []) => some ⟨(x1, [x2_0, x2_1, x2_2, x2_3, x2_4, x2_5, x2_6, x2_7, x2_8, x2_9, x2_10, x2_11, x2_12, x2_13, x2_14, x2_15, x2_16, x2_17, x2_18, x2_19, x2_20, x2_21, x2_22, x2_23, x2_24, x2_25, x2_26, x2_27, x2_28, x2_29, x2_30, x2_31], x3), rfl⟩
  | _ => none
abbrev o27 : Type := (Int × Rows) ⊕ (Rows × Int)
def ret27 : o27 → CSt := two (fun b => ([Go.Ev.SV.one (Go.Ev.SL.vr (0 : Nat)), Go.Ev.SV.one (Go.Ev.SL.d (Go.Ev.DL.int Go.IntKind.i64 b.1))], [Go.Ev.Obj.vec (5 : Nat) Bool.false b.2])) (fun b => ([Go.Ev.SV.one (Go.Ev.SL.d (Go.Ev.DL.lst (5 : Nat) b.1)), Go.Ev.SV.one (Go.Ev.SL.d (Go.Ev.DL.int Go.IntKind.i64 b.2))], []))
def retK27 {R : Type} (K : CSt → Option R) : o27 → Option R := two (fun b => K (([Go.Ev.SV.one (Go.Ev.SL.vr (0 : Nat)), Go.Ev.SV.one (Go.Ev.SL.d (Go.Ev.DL.int Go.IntKind.i64 b.1))], [Go.Ev.Obj.vec (5 : Nat) Bool.false b.2]))) (fun b => K (([Go.Ev.SV.one (Go.Ev.SL.d (Go.Ev.DL.lst (5 : Nat) b.1)), Go.Ev.SV.one (Go.Ev.SL.d (Go.Ev.DL.int Go.IntKind.i64 b.2))], [])))
theorem retK27_eq {R : Type} (K : CSt → Option R) (b : o27) : retK27 K b = K (ret27 b) := by
  unfold retK27 ret27
  repeat' (first | rfl | cases b with | inl b => rfl | inr b => ?_)
abbrev Sd27 (f : i27 → Option o27) : Prop := ∀ a b, f a = some b → CallOk Try.prog 27 (enc27 a) (ret27 b)
def ent27 (f : i27 → Option o27) : Ent := mkEnt 27 dec27 ret27 retK27 retK27_eq f
def ann27 : Nat → List Nat × List Nat := fun id => ([], [])
def br27 : FuncId → Bool := fun (g : Nat) => ([30] : List Nat).any (Nat.beq g)
def ar27 : TypeId → Bool := fun (t : Nat) => ([29, 30, 54, 57] : List Nat).any (Nat.beq t)
noncomputable def t27 {R : Type} (sh : Sh) (f23 : i23 → Option o23) (f33 : i33 → Option o33) (f32 : i32 → Option o32) (x1 : Int) (x2 : List Int) (x3 : Int) (k : o27 → Option R) : Option R :=
  sh (Go.Ev.colD (Go.Ev.mapD Go.IntKind.u8 (Go.Ev.pkL x2 (32 : Nat))) : Rows) fun y1 =>
  sh ([] : Rows) fun y2 =>
  bif Decidable.decide (x3 < (0 : Int)) then
    sh ([] : Rows) fun y3 =>
    k ((.inl ((1 : Int), y3)))
  else
    bif Decidable.decide (x3 > (4096 : Int)) then
      sh ([] : Rows) fun y4 =>
      k ((.inl ((1 : Int), y4)))
    else
      bif Decidable.decide (List.length y1 = (32 : Nat)) then
        (f23 (Go.Ev.colI y1 (32 : Nat))).bind fun (r5 : Rows) =>
        (f33 (x1, r5)).bind fun (r6 : Int × Int × Int × Int × Int) =>
        (f32 (Prod.fst r6, Prod.fst r6.2, Prod.fst (Prod.snd r6).2, Prod.fst (Prod.snd (Prod.snd r6)).2, Prod.snd (Prod.snd (Prod.snd r6)).2, x3)).bind fun (r7 : Rows) =>
        k ((.inr (r7, (0 : Int))))
      else none
theorem t27_eq {R : Type} (sh : Sh) (hsh : ∀ {α R : Type} (x : α) (K : α → Option R), sh x K = K x) (f23 : i23 → Option o23) (f33 : i33 → Option o33) (f32 : i32 → Option o32) (x1 : Int) (x2 : List Int) (x3 : Int) (K : CSt → Option R) : bodyK Try.prog (tabO sh hsh br27 ar27 [ent23 f23, ent33 f33, ent32 f32]) (tabL []) ann27 true Try.f27 (enc27 (x1, x2, x3)) K = t27 sh f23 f33 f32 x1 x2 x3 (retK27 K) := by kernel_rfl
theorem t27_law {R : Type} (f23 : i23 → Option o23) (f33 : i33 → Option o33) (f32 : i32 → Option o32) (x1 : Int) (x2 : List Int) (x3 : Int) (K : o27 → Option R) : t27 sh0 f23 f33 f32 x1 x2 x3 K = (t27 sh0 f23 f33 f32 x1 x2 x3 some).bind K := by
  simp only [t27, sh0, cond_bind', two_bind, none_bind', Option.bind_assoc, Option.bind_some]
theorem ok27 (f23 : i23 → Option o23) (f33 : i33 → Option o33) (f32 : i32 → Option o32) (hf23 : Sd23 f23) (hf33 : Sd33 f33) (hf32 : Sd32 f32) : Sd27 (fun a => t27 sh0 f23 f33 f32 a.1 a.2.1 a.2.2 some) := by
  intro a b h
  refine call_ok (sh := sh0) (hsh := fun _ _ => rfl) (br := br27) (ar := ar27) (own := true) Try.mixed Try.func27 (by kernel_rfl) (.cons (mkEnt_ok hf23) (.cons (mkEnt_ok hf33) (.cons (mkEnt_ok hf32) .nil))) (fun nt => .nil) ((t27_eq sh0 (fun _ _ => rfl) f23 f33 f32 a.1 a.2.1 a.2.2 _).trans ?_)
  rw [t27_law]
  simp only at h
  rw [h, Option.bind_some, retK27_eq]

/-! 10 erasure/erasurelaw25.DigestExpands -/
abbrev i10 : Type := Int × List Int × Int
def enc10 : i10 → CSt := fun a => ([Go.Ev.SV.one (Go.Ev.SL.d (Go.Ev.DL.int Go.IntKind.u64 a.1)), Go.Ev.SV.agg (Go.Ev.pkS Go.IntKind.u8 a.2.1 (32 : Nat)), Go.Ev.SV.one (Go.Ev.SL.d (Go.Ev.DL.int Go.IntKind.i64 a.2.2))], [])
def dec10 : (c : CSt) → Option { a : i10 // c = enc10 a }
  | ([Go.Ev.SV.one (Go.Ev.SL.d (Go.Ev.DL.int Go.IntKind.u64 x1)), Go.Ev.SV.agg [Go.Ev.SL.d (Go.Ev.DL.int Go.IntKind.u8 x2_0), Go.Ev.SL.d (Go.Ev.DL.int Go.IntKind.u8 x2_1), Go.Ev.SL.d (Go.Ev.DL.int Go.IntKind.u8 x2_2), Go.Ev.SL.d (Go.Ev.DL.int Go.IntKind.u8 x2_3), Go.Ev.SL.d (Go.Ev.DL.int Go.IntKind.u8 x2_4), Go.Ev.SL.d (Go.Ev.DL.int Go.IntKind.u8 x2_5), Go.Ev.SL.d (Go.Ev.DL.int Go.IntKind.u8 x2_6), Go.Ev.SL.d (Go.Ev.DL.int Go.IntKind.u8 x2_7), Go.Ev.SL.d (Go.Ev.DL.int Go.IntKind.u8 x2_8), Go.Ev.SL.d (Go.Ev.DL.int Go.IntKind.u8 x2_9), Go.Ev.SL.d (Go.Ev.DL.int Go.IntKind.u8 x2_10), Go.Ev.SL.d (Go.Ev.DL.int Go.IntKind.u8 x2_11), Go.Ev.SL.d (Go.Ev.DL.int Go.IntKind.u8 x2_12), Go.Ev.SL.d (Go.Ev.DL.int Go.IntKind.u8 x2_13), Go.Ev.SL.d (Go.Ev.DL.int Go.IntKind.u8 x2_14), Go.Ev.SL.d (Go.Ev.DL.int Go.IntKind.u8 x2_15), Go.Ev.SL.d (Go.Ev.DL.int Go.IntKind.u8 x2_16), Go.Ev.SL.d (Go.Ev.DL.int Go.IntKind.u8 x2_17), Go.Ev.SL.d (Go.Ev.DL.int Go.IntKind.u8 x2_18), Go.Ev.SL.d (Go.Ev.DL.int Go.IntKind.u8 x2_19), Go.Ev.SL.d (Go.Ev.DL.int Go.IntKind.u8 x2_20), Go.Ev.SL.d (Go.Ev.DL.int Go.IntKind.u8 x2_21), Go.Ev.SL.d (Go.Ev.DL.int Go.IntKind.u8 x2_22), Go.Ev.SL.d (Go.Ev.DL.int Go.IntKind.u8 x2_23), Go.Ev.SL.d (Go.Ev.DL.int Go.IntKind.u8 x2_24), Go.Ev.SL.d (Go.Ev.DL.int Go.IntKind.u8 x2_25), Go.Ev.SL.d (Go.Ev.DL.int Go.IntKind.u8 x2_26), Go.Ev.SL.d (Go.Ev.DL.int Go.IntKind.u8 x2_27), Go.Ev.SL.d (Go.Ev.DL.int Go.IntKind.u8 x2_28), Go.Ev.SL.d (Go.Ev.DL.int Go.IntKind.u8 x2_29), Go.Ev.SL.d (Go.Ev.DL.int Go.IntKind.u8 x2_30), Go.Ev.SL.d (Go.Ev.DL.int Go.IntKind.u8 x2_31)], Go.Ev.SV.one (Go.Ev.SL.d (Go.Ev.DL.int Go.IntKind.i64 x3))], []) => some ⟨(x1, [x2_0, x2_1, x2_2, x2_3, x2_4, x2_5, x2_6, x2_7, x2_8, x2_9, x2_10, x2_11, x2_12, x2_13, x2_14, x2_15, x2_16, x2_17, x2_18, x2_19, x2_20, x2_21, x2_22, x2_23, x2_24, x2_25, x2_26, x2_27, x2_28, x2_29, x2_30, x2_31], x3), rfl⟩
  | _ => none
abbrev o10 : Type := Bool
def ret10 : o10 → CSt := fun b => ([Go.Ev.SV.one (Go.Ev.SL.d (Go.Ev.DL.bool b))], [])
def retK10 {R : Type} (K : CSt → Option R) : o10 → Option R := fun b => K (([Go.Ev.SV.one (Go.Ev.SL.d (Go.Ev.DL.bool b))], []))
theorem retK10_eq {R : Type} (K : CSt → Option R) (b : o10) : retK10 K b = K (ret10 b) := rfl
abbrev Sd10 (f : i10 → Option o10) : Prop := ∀ a b, f a = some b → CallOk Try.prog 10 (enc10 a) (ret10 b)
def ent10 (f : i10 → Option o10) : Ent := mkEnt 10 dec10 ret10 retK10 retK10_eq f
def ann10 : Nat → List Nat × List Nat := fun id => ([], [])
def br10 : FuncId → Bool := fun (g : Nat) => ([30] : List Nat).any (Nat.beq g)
def ar10 : TypeId → Bool := fun (t : Nat) => ([29, 30, 54, 57] : List Nat).any (Nat.beq t)
noncomputable def t10 {R : Type} (sh : Sh) (f26 : i26 → Option o26) (f27 : i27 → Option o27) (f14 : i14 → Option o14) (x1 : Int) (x2 : List Int) (x3 : Int) (k : o10 → Option R) : Option R :=
  sh (Go.Ev.colD (Go.Ev.mapD Go.IntKind.u8 (Go.Ev.pkL x2 (32 : Nat))) : Rows) fun y1 =>
  bif Decidable.decide (List.length y1 = (32 : Nat)) then
    (f26 (x1, Go.Ev.colI y1 (32 : Nat), x3)).bind fun (r2 : Int × Rows) =>
    bif Decidable.decide (List.length y1 = (32 : Nat)) then
      (f27 (x1, Go.Ev.colI y1 (32 : Nat), x3)).bind (two (fun (r3 : Int × Rows) =>
        sh (Go.Ev.strOfBytes (Prod.snd r2)) fun y4 =>
        sh (Go.Ev.strOfBytes (Prod.snd r3)) fun y5 =>
        bif Go.Ev.strEq y4 y5 then
          bif Prod.fst r2 == Prod.fst r3 then
            (f14 ()).bind fun (r6 : Bool) =>
            k (r6)
          else
            k (Bool.false)
        else
          k (Bool.false)
      ) (fun (r7 : Rows × Int) =>
        sh (Go.Ev.strOfBytes (Prod.snd r2)) fun y8 =>
        sh (Go.Ev.strOfBytes (Prod.fst r7)) fun y9 =>
        bif Go.Ev.strEq y8 y9 then
          bif Prod.fst r2 == Prod.snd r7 then
            (f14 ()).bind fun (r10 : Bool) =>
            k (r10)
          else
            k (Bool.false)
        else
          k (Bool.false)
      ))
    else none
  else none
theorem t10_eq {R : Type} (sh : Sh) (hsh : ∀ {α R : Type} (x : α) (K : α → Option R), sh x K = K x) (f26 : i26 → Option o26) (f27 : i27 → Option o27) (f14 : i14 → Option o14) (x1 : Int) (x2 : List Int) (x3 : Int) (K : CSt → Option R) : bodyK Try.prog (tabO sh hsh br10 ar10 [ent26 f26, ent27 f27, ent14 f14]) (tabL []) ann10 false Try.f10 (enc10 (x1, x2, x3)) K = t10 sh f26 f27 f14 x1 x2 x3 (retK10 K) := by kernel_rfl
theorem t10_law {R : Type} (f26 : i26 → Option o26) (f27 : i27 → Option o27) (f14 : i14 → Option o14) (x1 : Int) (x2 : List Int) (x3 : Int) (K : o10 → Option R) : t10 sh0 f26 f27 f14 x1 x2 x3 K = (t10 sh0 f26 f27 f14 x1 x2 x3 some).bind K := by
  simp only [t10, sh0, cond_bind', two_bind, none_bind', Option.bind_assoc, Option.bind_some]
theorem ok10 (f26 : i26 → Option o26) (f27 : i27 → Option o27) (f14 : i14 → Option o14) (hf26 : Sd26 f26) (hf27 : Sd27 f27) (hf14 : Sd14 f14) : Sd10 (fun a => t10 sh0 f26 f27 f14 a.1 a.2.1 a.2.2 some) := by
  intro a b h
  refine call_ok (sh := sh0) (hsh := fun _ _ => rfl) (br := br10) (ar := ar10) (own := false) Try.mixed Try.func10 (by kernel_rfl) (.cons (mkEnt_ok hf26) (.cons (mkEnt_ok hf27) (.cons (mkEnt_ok hf14) .nil))) (fun nt => .nil) ((t10_eq sh0 (fun _ _ => rfl) f26 f27 f14 a.1 a.2.1 a.2.2 _).trans ?_)
  rw [t10_law]
  simp only at h
  rw [h, Option.bind_some, retK10_eq]

/-! 11 erasure/erasurelaw25.DigestContinues -/
abbrev i11 : Type := Int × List Int × Int
def enc11 : i11 → CSt := fun a => ([Go.Ev.SV.one (Go.Ev.SL.d (Go.Ev.DL.int Go.IntKind.u64 a.1)), Go.Ev.SV.agg (Go.Ev.pkS Go.IntKind.u8 a.2.1 (32 : Nat)), Go.Ev.SV.one (Go.Ev.SL.d (Go.Ev.DL.int Go.IntKind.i64 a.2.2))], [])
def dec11 : (c : CSt) → Option { a : i11 // c = enc11 a }
  | ([Go.Ev.SV.one (Go.Ev.SL.d (Go.Ev.DL.int Go.IntKind.u64 x1)), Go.Ev.SV.agg [Go.Ev.SL.d (Go.Ev.DL.int Go.IntKind.u8 x2_0), Go.Ev.SL.d (Go.Ev.DL.int Go.IntKind.u8 x2_1), Go.Ev.SL.d (Go.Ev.DL.int Go.IntKind.u8 x2_2), Go.Ev.SL.d (Go.Ev.DL.int Go.IntKind.u8 x2_3), Go.Ev.SL.d (Go.Ev.DL.int Go.IntKind.u8 x2_4), Go.Ev.SL.d (Go.Ev.DL.int Go.IntKind.u8 x2_5), Go.Ev.SL.d (Go.Ev.DL.int Go.IntKind.u8 x2_6), Go.Ev.SL.d (Go.Ev.DL.int Go.IntKind.u8 x2_7), Go.Ev.SL.d (Go.Ev.DL.int Go.IntKind.u8 x2_8), Go.Ev.SL.d (Go.Ev.DL.int Go.IntKind.u8 x2_9), Go.Ev.SL.d (Go.Ev.DL.int Go.IntKind.u8 x2_10), Go.Ev.SL.d (Go.Ev.DL.int Go.IntKind.u8 x2_11), Go.Ev.SL.d (Go.Ev.DL.int Go.IntKind.u8 x2_12), Go.Ev.SL.d (Go.Ev.DL.int Go.IntKind.u8 x2_13), Go.Ev.SL.d (Go.Ev.DL.int Go.IntKind.u8 x2_14), Go.Ev.SL.d (Go.Ev.DL.int Go.IntKind.u8 x2_15), Go.Ev.SL.d (Go.Ev.DL.int Go.IntKind.u8 x2_16), Go.Ev.SL.d (Go.Ev.DL.int Go.IntKind.u8 x2_17), Go.Ev.SL.d (Go.Ev.DL.int Go.IntKind.u8 x2_18), Go.Ev.SL.d (Go.Ev.DL.int Go.IntKind.u8 x2_19), Go.Ev.SL.d (Go.Ev.DL.int Go.IntKind.u8 x2_20), Go.Ev.SL.d (Go.Ev.DL.int Go.IntKind.u8 x2_21), Go.Ev.SL.d (Go.Ev.DL.int Go.IntKind.u8 x2_22), Go.Ev.SL.d (Go.Ev.DL.int Go.IntKind.u8 x2_23), Go.Ev.SL.d (Go.Ev.DL.int Go.IntKind.u8 x2_24), Go.Ev.SL.d (Go.Ev.DL.int Go.IntKind.u8 x2_25), Go.Ev.SL.d (Go.Ev.DL.int Go.IntKind.u8 x2_26), Go.Ev.SL.d (Go.Ev.DL.int Go.IntKind.u8 x2_27), Go.Ev.SL.d (Go.Ev.DL.int Go.IntKind.u8 x2_28), Go.Ev.SL.d (Go.Ev.DL.int Go.IntKind.u8 x2_29), Go.Ev.SL.d (Go.Ev.DL.int Go.IntKind.u8 x2_30), Go.Ev.SL.d (Go.Ev.DL.int Go.IntKind.u8 x2_31)], Go.Ev.SV.one (Go.Ev.SL.d (Go.Ev.DL.int Go.IntKind.i64 x3))], []) => some ⟨(x1, [x2_0, x2_1, x2_2, x2_3, x2_4, x2_5, x2_6, x2_7, x2_8, x2_9, x2_10, x2_11, x2_12, x2_13, x2_14, x2_15, x2_16, x2_17, x2_18, x2_19, x2_20, x2_21, x2_22, x2_23, x2_24, x2_25, x2_26, x2_27, x2_28, x2_29, x2_30, x2_31], x3), rfl⟩
  | _ => none
abbrev o11 : Type := Bool
def ret11 : o11 → CSt := fun b => ([Go.Ev.SV.one (Go.Ev.SL.d (Go.Ev.DL.bool b))], [])
def retK11 {R : Type} (K : CSt → Option R) : o11 → Option R := fun b => K (([Go.Ev.SV.one (Go.Ev.SL.d (Go.Ev.DL.bool b))], []))
theorem retK11_eq {R : Type} (K : CSt → Option R) (b : o11) : retK11 K b = K (ret11 b) := rfl
abbrev Sd11 (f : i11 → Option o11) : Prop := ∀ a b, f a = some b → CallOk Try.prog 11 (enc11 a) (ret11 b)
def ent11 (f : i11 → Option o11) : Ent := mkEnt 11 dec11 ret11 retK11 retK11_eq f
def ann11 : Nat → List Nat × List Nat := fun id => ([], [])
def br11 : FuncId → Bool := fun (g : Nat) => ([30] : List Nat).any (Nat.beq g)
def ar11 : TypeId → Bool := fun (t : Nat) => ([29, 30, 54, 57] : List Nat).any (Nat.beq t)
noncomputable def t11 {R : Type} (sh : Sh) (f14 : i14 → Option o14) (f26 : i26 → Option o26) (f23 : i23 → Option o23) (f15 : i15 → Option o15) (x1 : Int) (x2 : List Int) (x3 : Int) (k : o11 → Option R) : Option R :=
  sh (Go.Ev.colD (Go.Ev.mapD Go.IntKind.u8 (Go.Ev.pkL x2 (32 : Nat))) : Rows) fun y1 =>
  bif Decidable.decide (x3 < (0 : Int)) then
    (f14 ()).bind fun (r2 : Bool) =>
    k (r2)
  else
    bif Decidable.decide (x3 > (500 : Int)) then
      (f14 ()).bind fun (r3 : Bool) =>
      k (r3)
    else
      bif Decidable.decide (List.length y1 = (32 : Nat)) then
        (f26 (x1, Go.Ev.colI y1 (32 : Nat), x3)).bind fun (r4 : Int × Rows) =>
        bif Decidable.decide (List.length y1 = (32 : Nat)) then
          (f26 (x1, Go.Ev.colI y1 (32 : Nat), Go.IntKind.wrap Go.IntKind.i64 (x3 + (32 : Int)))).bind fun (r5 : Int × Rows) =>
          bif Decidable.decide (List.length y1 = (32 : Nat)) then
            (f23 (Go.Ev.colI y1 (32 : Nat))).bind fun (r6 : Rows) =>
            (f15 (x1, r6)).bind fun (r7 : List Int) =>
            sh (List.replicate (32 : Nat) [Go.Ev.DL.int Go.IntKind.u8 (0 : Int)] : Rows) fun y8 =>
            bif Decidable.decide (List.length y8 = (32 : Nat)) then
              sh (Go.Ev.colD (Go.Ev.mapD Go.IntKind.u8 (Go.Ev.pkL r7 (32 : Nat))) : Rows) fun y9 =>
              bif Prod.fst r4 == (0 : Int) then
                bif Prod.fst r5 == (0 : Int) then
                  sh ((↑(List.length (Prod.snd r4)) : Int)) fun y10 =>
                  bif y10 == x3 then
                    sh ((↑(List.length (Prod.snd r5)) : Int)) fun y11 =>
                    bif y11 == Go.IntKind.wrap Go.IntKind.i64 (x3 + (32 : Int)) then
                      bif Decidable.decide ((0 : Int) ≤ x3 ∧ x3 ≤ (↑(List.length (Prod.snd r5)) : Int)) then
                        sh (Go.Ev.strOfBytes (List.take (Int.toNat x3 - (0 : Nat)) (List.drop (0 : Nat) (Prod.snd r5)))) fun y12 =>
                        sh (Go.Ev.strOfBytes (Prod.snd r4)) fun y13 =>
                        bif Go.Ev.strEq y12 y13 then
                          bif Decidable.decide ((0 : Int) ≤ (32 : Int) ∧ (32 : Int) ≤ (↑(List.length (Prod.snd r5)) : Int)) then
                            sh (Go.Ev.strOfBytes (List.take ((32 : Nat) - (0 : Nat)) (List.drop (0 : Nat) (Prod.snd r5)))) fun y14 =>
                            bif Decidable.decide (List.length y9 = (32 : Nat)) then
                              (f23 (Go.Ev.colI y9 (32 : Nat))).bind fun (r15 : Rows) =>
                              sh (Go.Ev.strOfBytes r15) fun y16 =>
                              bif Go.Ev.strEq y14 y16 then
                                (f14 ()).bind fun (r17 : Bool) =>
                                k (r17)
                              else
                                k (Bool.false)
                            else none
                          else none
                        else
                          k (Bool.false)
                      else none
                    else
                      k (Bool.false)
                  else
                    k (Bool.false)
                else
                  k (Bool.false)
              else
                k (Bool.false)
            else none
          else none
        else none
      else none
theorem t11_eq {R : Type} (sh : Sh) (hsh : ∀ {α R : Type} (x : α) (K : α → Option R), sh x K = K x) (f14 : i14 → Option o14) (f26 : i26 → Option o26) (f23 : i23 → Option o23) (f15 : i15 → Option o15) (x1 : Int) (x2 : List Int) (x3 : Int) (K : CSt → Option R) : bodyK Try.prog (tabO sh hsh br11 ar11 [ent14 f14, ent26 f26, ent23 f23, ent15 f15]) (tabL []) ann11 false Try.f11 (enc11 (x1, x2, x3)) K = t11 sh f14 f26 f23 f15 x1 x2 x3 (retK11 K) := by kernel_rfl
theorem t11_law {R : Type} (f14 : i14 → Option o14) (f26 : i26 → Option o26) (f23 : i23 → Option o23) (f15 : i15 → Option o15) (x1 : Int) (x2 : List Int) (x3 : Int) (K : o11 → Option R) : t11 sh0 f14 f26 f23 f15 x1 x2 x3 K = (t11 sh0 f14 f26 f23 f15 x1 x2 x3 some).bind K := by
  simp only [t11, sh0, cond_bind', two_bind, none_bind', Option.bind_assoc, Option.bind_some]
theorem ok11 (f14 : i14 → Option o14) (f26 : i26 → Option o26) (f23 : i23 → Option o23) (f15 : i15 → Option o15) (hf14 : Sd14 f14) (hf26 : Sd26 f26) (hf23 : Sd23 f23) (hf15 : Sd15 f15) : Sd11 (fun a => t11 sh0 f14 f26 f23 f15 a.1 a.2.1 a.2.2 some) := by
  intro a b h
  refine call_ok (sh := sh0) (hsh := fun _ _ => rfl) (br := br11) (ar := ar11) (own := false) Try.mixed Try.func11 (by kernel_rfl) (.cons (mkEnt_ok hf14) (.cons (mkEnt_ok hf26) (.cons (mkEnt_ok hf23) (.cons (mkEnt_ok hf15) .nil)))) (fun nt => .nil) ((t11_eq sh0 (fun _ _ => rfl) f14 f26 f23 f15 a.1 a.2.1 a.2.2 _).trans ?_)
  rw [t11_law]
  simp only at h
  rw [h, Option.bind_some, retK11_eq]

end Go.Proofs.DgG
