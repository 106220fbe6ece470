/- Printed by a tool of mine: plain functions, their equations and contracts. -/
import Derived.Test.YtjmpecjcnmdnaaaG2
set_option linter.unusedVariables false
set_option linter.unusedSimpArgs false

namespace Go.Proofs.SmG
open Go Go.Ev
/-! 48 erasure/signature.halves[[]byte] -/
abbrev i48 : Type := Rows
def enc48 : i48 → CSt := fun a => ([Go.Ev.SV.one (Go.Ev.SL.d (Go.Ev.DL.lst (5 : Nat) a))], [])
def dec48 : (c : CSt) → Option { a : i48 // c = enc48 a }
  | ([Go.Ev.SV.one (Go.Ev.SL.d (Go.Ev.DL.lst (5 : Nat) x1))], []) => some ⟨x1, rfl⟩
  | _ => none
abbrev o48 : Type := Rows
def ret48 : o48 → CSt := fun b => ([Go.Ev.SV.one (Go.Ev.SL.vr (0 : Nat))], [Go.Ev.Obj.vec (3 : Nat) Bool.false b])
def retK48 {R : Type} (K : CSt → Option R) : o48 → Option R := fun b => K (([Go.Ev.SV.one (Go.Ev.SL.vr (0 : Nat))], [Go.Ev.Obj.vec (3 : Nat) Bool.false b]))
theorem retK48_eq {R : Type} (K : CSt → Option R) (b : o48) : retK48 K b = K (ret48 b) := rfl
abbrev Sd48 (f : i48 → Option o48) : Prop := ∀ a b, f a = some b → CallOk Try.prog 48 (enc48 a) (ret48 b)
def ent48 (f : i48 → Option o48) : Ent := mkEnt 48 dec48 ret48 retK48 retK48_eq f
def ann48 : Nat → List Nat × List Nat := fun id => bif Nat.beq id 3 then ([0, 3, 4], [3]) else ([], [])
def br48 : FuncId → Bool := fun (g : Nat) => ([67, 72] : List Nat).any (Nat.beq g)
def ar48 : TypeId → Bool := fun (t : Nat) => ([24, 25, 79, 82] : List Nat).any (Nat.beq t)
abbrev iL48_3 : Type := Rows × Int × Rows
def encL48_3 : iL48_3 → CSt := fun a => ([Go.Ev.SV.one (Go.Ev.SL.d (Go.Ev.DL.lst (5 : Nat) a.1)), Go.Ev.SV.one (Go.Ev.SL.vr (0 : Nat)), Go.Ev.SV.one (Go.Ev.SL.d (Go.Ev.DL.int Go.IntKind.i64 a.2.1))], [Go.Ev.Obj.vec (3 : Nat) Bool.false a.2.2])
def decL48_3 : (c : CSt) → Option { a : iL48_3 // c = encL48_3 a }
  | ([Go.Ev.SV.one (Go.Ev.SL.d (Go.Ev.DL.lst (5 : Nat) x1)), Go.Ev.SV.one (Go.Ev.SL.vr (0 : Nat)), Go.Ev.SV.one (Go.Ev.SL.d (Go.Ev.DL.int Go.IntKind.i64 x2))], [Go.Ev.Obj.vec (3 : Nat) Bool.false x3]) => some ⟨(x1, x2, x3), rfl⟩
  | _ => none
abbrev oL48_3 : Type := Rows
def retL48_3 : oL48_3 → Ex × CSt := fun b => (Go.Ev.Ex.exit (0 : Nat), ([Go.Ev.SV.one (Go.Ev.SL.vr (0 : Nat))], [Go.Ev.Obj.vec (3 : Nat) Bool.false b]))
def retKL48_3 {R : Type} (K : Ex → CSt → Option R) : oL48_3 → Option R := fun b => K (Go.Ev.Ex.exit (0 : Nat)) (([Go.Ev.SV.one (Go.Ev.SL.vr (0 : Nat))], [Go.Ev.Obj.vec (3 : Nat) Bool.false b]))
theorem retKL48_3_eq {R : Type} (K : Ex → CSt → Option R) (b : oL48_3) : retKL48_3 K b = K (retL48_3 b).1 (retL48_3 b).2 := rfl
def entL48_3 (l : iL48_3 → Option oL48_3) : LEnt := mkLEnt 3 decL48_3 retL48_3 retKL48_3 retKL48_3_eq l
abbrev SdL48_3 (l : iL48_3 → Option oL48_3) : Prop := ∀ nt a b, l a = some b → LoopAt Try.prog nt 0 ann48 Try.f48 3 (encL48_3 a) (retL48_3 b)
noncomputable def u48_3 {R : Type} (sh : Sh) (l48_3 : iL48_3 → Option oL48_3) (x1 : Rows) (x2 : Int) (x3 : Rows) (k : oL48_3 → Option R) : Option R :=
  sh ((↑(List.length x1) : Int)) fun y4 =>
  bif Decidable.decide (x2 < y4) then
    bif Decidable.decide ((0 : Int) ≤ x2 ∧ x2 < (↑(List.length x1) : Int)) then
      sh (Go.Ev.DL.getI (Go.Ev.cellAt x1 (Int.toNat x2) (0 : Nat))) fun y5 =>
      bif Decidable.decide ((0 : Int) ≤ x2 ∧ x2 < (↑(List.length x1) : Int)) then
        sh (Go.Ev.DL.getI (Go.Ev.cellAt x1 (Int.toNat x2) (0 : Nat))) fun y6 =>
        sh (Go.IntKind.wrap Go.IntKind.u8 (↑(BitVec.toNat (BitVec.ofInt (8 : Nat) y6 &&& BitVec.ofInt (8 : Nat) (15 : Int))) : Int)) fun y7 =>
        sh ([[Go.Ev.DL.int Go.IntKind.i64 (Go.IntKind.wrap Go.IntKind.i64 (Int.fdiv y5 (16 : Int)))], [Go.Ev.DL.int Go.IntKind.i64 (Go.IntKind.wrap Go.IntKind.i64 y7)]] : Rows) fun y8 =>
        bif Go.Ev.roomE Go.Proofs.Try.prog (3 : Nat) (List.length x3 + List.length y8) then
          sh (x3 ++ y8 : Rows) fun y9 =>
          (l48_3 (x1, Go.IntKind.wrap Go.IntKind.i64 (x2 + (1 : Int)), y9)).bind k
        else none
      else none
    else none
  else
    k (x3)
theorem u48_3_eq {R : Type} (sh : Sh) (hsh : ∀ {α R : Type} (x : α) (K : α → Option R), sh x K = K x) (l48_3 : iL48_3 → Option oL48_3) (x1 : Rows) (x2 : Int) (x3 : Rows) (K : Ex → CSt → Option R) : roundK Try.prog (tabO sh hsh br48 ar48 []) (tabL [entL48_3 l48_3]) ann48 0 Try.f48 3 (encL48_3 (x1, x2, x3)) K = u48_3 sh l48_3 x1 x2 x3 (retKL48_3 K) := by kernel_rfl
theorem u48_3_law {R : Type} (l48_3 : iL48_3 → Option oL48_3) (x1 : Rows) (x2 : Int) (x3 : Rows) (K : oL48_3 → Option R) : u48_3 sh0 l48_3 x1 x2 x3 K = (u48_3 sh0 l48_3 x1 x2 x3 some).bind K := by
  simp only [u48_3, sh0, cond_bind', two_bind, none_bind', Option.bind_assoc, Option.bind_some]
theorem okL48_3 (l48_3 : iL48_3 → Option oL48_3) (hl48_3 : SdL48_3 l48_3) : SdL48_3 (fun a => u48_3 sh0 l48_3 a.1 a.2.1 a.2.2 some) := by
  intro nt a b h
  refine round_ok (sh := sh0) (hsh := fun _ _ => rfl) (br := br48) (ar := ar48) Try.mixed (by kernel_rfl) .nil (.cons (mkLEnt_ok (hl48_3 nt)) .nil) ((u48_3_eq sh0 (fun _ _ => rfl) l48_3  a.1 a.2.1 a.2.2 _).trans ?_)
  rw [u48_3_law]
  simp only at h
  rw [h, Option.bind_some, retKL48_3_eq]
noncomputable def t48 {R : Type} (sh : Sh) (l48_3 : iL48_3 → Option oL48_3) (x1 : Rows) (k : o48 → Option R) : Option R :=
  sh ([] : Rows) fun y1 =>
  sh ((↑(List.length x1) : Int)) fun y2 =>
  bif Decidable.decide ((0 : Int) ≤ (0 : Int) ∧ (0 : Int) ≤ Go.IntKind.wrap Go.IntKind.i64 ((2 : Int) * y2)) && Go.Ev.roomE Go.Proofs.Try.prog (3 : Nat) (Int.toNat (Go.IntKind.wrap Go.IntKind.i64 ((2 : Int) * y2))) then
    sh ([] : Rows) fun y3 =>
    (l48_3 (x1, (0 : Int), y3)).bind fun (r10 : Rows) =>
    k (r10)
  else none
theorem t48_eq {R : Type} (sh : Sh) (hsh : ∀ {α R : Type} (x : α) (K : α → Option R), sh x K = K x) (l48_3 : iL48_3 → Option oL48_3) (x1 : Rows) (K : CSt → Option R) : bodyK Try.prog (tabO sh hsh br48 ar48 []) (tabL [entL48_3 l48_3]) ann48 true Try.f48 (enc48 x1) K = t48 sh l48_3 x1 (retK48 K) := by kernel_rfl
theorem t48_law {R : Type} (l48_3 : iL48_3 → Option oL48_3) (x1 : Rows) (K : o48 → Option R) : t48 sh0 l48_3 x1 K = (t48 sh0 l48_3 x1 some).bind K := by
  simp only [t48, sh0, cond_bind', two_bind, none_bind', Option.bind_assoc, Option.bind_some]
theorem ok48 (l48_3 : iL48_3 → Option oL48_3) (hl48_3 : SdL48_3 l48_3) : Sd48 (fun a => t48 sh0 l48_3 a some) := by
  intro a b h
  refine call_ok (sh := sh0) (hsh := fun _ _ => rfl) (br := br48) (ar := ar48) (own := true) Try.mixed Try.func48 (by kernel_rfl) .nil (fun nt => (.cons (mkLEnt_ok (hl48_3 nt)) .nil)) ((t48_eq sh0 (fun _ _ => rfl) l48_3 a _).trans ?_)
  rw [t48_law]
  simp only at h
  rw [h, Option.bind_some, retK48_eq]

/-! 29 erasure/signature.Digits -/
abbrev i29 : Type := Rows
def enc29 : i29 → CSt := fun a => ([Go.Ev.SV.one (Go.Ev.SL.d (Go.Ev.DL.lst (5 : Nat) a))], [])
def dec29 : (c : CSt) → Option { a : i29 // c = enc29 a }
  | ([Go.Ev.SV.one (Go.Ev.SL.d (Go.Ev.DL.lst (5 : Nat) x1))], []) => some ⟨x1, rfl⟩
  | _ => none
abbrev o29 : Type := Rows
def ret29 : o29 → CSt := fun b => ([Go.Ev.SV.one (Go.Ev.SL.d (Go.Ev.DL.lst (3 : Nat) b))], [])
def retK29 {R : Type} (K : CSt → Option R) : o29 → Option R := fun b => K (([Go.Ev.SV.one (Go.Ev.SL.d (Go.Ev.DL.lst (3 : Nat) b))], []))
theorem retK29_eq {R : Type} (K : CSt → Option R) (b : o29) : retK29 K b = K (ret29 b) := rfl
abbrev Sd29 (f : i29 → Option o29) : Prop := ∀ a b, f a = some b → CallOk Try.prog 29 (enc29 a) (ret29 b)
def ent29 (f : i29 → Option o29) : Ent := mkEnt 29 dec29 ret29 retK29 retK29_eq f
def ann29 : Nat → List Nat × List Nat := fun id => bif Nat.beq id 5 then ([4, 5, 6], [4, 5]) else ([], [])
def br29 : FuncId → Bool := fun (g : Nat) => ([67, 72] : List Nat).any (Nat.beq g)
def ar29 : TypeId → Bool := fun (t : Nat) => ([24, 25, 79, 82] : List Nat).any (Nat.beq t)
abbrev iL29_5 : Type := Int × Int × Rows
def encL29_5 : iL29_5 → CSt := fun a => ([Go.Ev.SV.one (Go.Ev.SL.vr (0 : Nat)), Go.Ev.SV.one (Go.Ev.SL.d (Go.Ev.DL.int Go.IntKind.i64 a.1)), Go.Ev.SV.one (Go.Ev.SL.d (Go.Ev.DL.int Go.IntKind.i64 a.2.1))], [Go.Ev.Obj.vec (3 : Nat) Bool.false a.2.2])
def decL29_5 : (c : CSt) → Option { a : iL29_5 // c = encL29_5 a }
  | ([Go.Ev.SV.one (Go.Ev.SL.vr (0 : Nat)), Go.Ev.SV.one (Go.Ev.SL.d (Go.Ev.DL.int Go.IntKind.i64 x1)), Go.Ev.SV.one (Go.Ev.SL.d (Go.Ev.DL.int Go.IntKind.i64 x2))], [Go.Ev.Obj.vec (3 : Nat) Bool.false x3]) => some ⟨(x1, x2, x3), rfl⟩
  | _ => none
abbrev oL29_5 : Type := Int × Rows
def retL29_5 : oL29_5 → Ex × CSt := fun b => (Go.Ev.Ex.exit (0 : Nat), ([Go.Ev.SV.one (Go.Ev.SL.vr (0 : Nat)), Go.Ev.SV.one (Go.Ev.SL.d (Go.Ev.DL.int Go.IntKind.i64 b.1))], [Go.Ev.Obj.vec (3 : Nat) Bool.false b.2]))
def retKL29_5 {R : Type} (K : Ex → CSt → Option R) : oL29_5 → Option R := fun b => K (Go.Ev.Ex.exit (0 : Nat)) (([Go.Ev.SV.one (Go.Ev.SL.vr (0 : Nat)), Go.Ev.SV.one (Go.Ev.SL.d (Go.Ev.DL.int Go.IntKind.i64 b.1))], [Go.Ev.Obj.vec (3 : Nat) Bool.false b.2]))
theorem retKL29_5_eq {R : Type} (K : Ex → CSt → Option R) (b : oL29_5) : retKL29_5 K b = K (retL29_5 b).1 (retL29_5 b).2 := rfl
def entL29_5 (l : iL29_5 → Option oL29_5) : LEnt := mkLEnt 5 decL29_5 retL29_5 retKL29_5 retKL29_5_eq l
abbrev SdL29_5 (l : iL29_5 → Option oL29_5) : Prop := ∀ nt a b, l a = some b → LoopAt Try.prog nt 0 ann29 Try.f29 5 (encL29_5 a) (retL29_5 b)
noncomputable def u29_5 {R : Type} (sh : Sh) (l29_5 : iL29_5 → Option oL29_5) (x1 : Int) (x2 : Int) (x3 : Rows) (k : oL29_5 → Option R) : Option R :=
  bif Decidable.decide (x2 < (32 : Int)) then
    bif Decidable.decide ((0 : Int) ≤ x2 ∧ x2 < (↑(List.length x3) : Int)) then
      bif Decidable.decide (Int.toNat x2 < List.length x3) then
        sh (Go.Ev.DL.getI (Go.Ev.cellAt x3 (Int.toNat x2) (0 : Nat))) fun y6 =>
        sh (Go.IntKind.wrap Go.IntKind.i64 (x1 + Go.IntKind.wrap Go.IntKind.i64 ((15 : Int) - y6))) fun y7 =>
        (l29_5 (y7, Go.IntKind.wrap Go.IntKind.i64 (x2 + (1 : Int)), x3)).bind k
      else none
    else none
  else
    k ((x1, x3))
theorem u29_5_eq {R : Type} (sh : Sh) (hsh : ∀ {α R : Type} (x : α) (K : α → Option R), sh x K = K x) (l29_5 : iL29_5 → Option oL29_5) (x1 : Int) (x2 : Int) (x3 : Rows) (K : Ex → CSt → Option R) : roundK Try.prog (tabO sh hsh br29 ar29 []) (tabL [entL29_5 l29_5]) ann29 0 Try.f29 5 (encL29_5 (x1, x2, x3)) K = u29_5 sh l29_5 x1 x2 x3 (retKL29_5 K) := by kernel_rfl
theorem u29_5_law {R : Type} (l29_5 : iL29_5 → Option oL29_5) (x1 : Int) (x2 : Int) (x3 : Rows) (K : oL29_5 → Option R) : u29_5 sh0 l29_5 x1 x2 x3 K = (u29_5 sh0 l29_5 x1 x2 x3 some).bind K := by
  simp only [u29_5, sh0, cond_bind', two_bind, none_bind', Option.bind_assoc, Option.bind_some]
theorem okL29_5 (l29_5 : iL29_5 → Option oL29_5) (hl29_5 : SdL29_5 l29_5) : SdL29_5 (fun a => u29_5 sh0 l29_5 a.1 a.2.1 a.2.2 some) := by
  intro nt a b h
  refine round_ok (sh := sh0) (hsh := fun _ _ => rfl) (br := br29) (ar := ar29) Try.mixed (by kernel_rfl) .nil (.cons (mkLEnt_ok (hl29_5 nt)) .nil) ((u29_5_eq sh0 (fun _ _ => rfl) l29_5  a.1 a.2.1 a.2.2 _).trans ?_)
  rw [u29_5_law]
  simp only at h
  rw [h, Option.bind_some, retKL29_5_eq]
noncomputable def t29 {R : Type} (sh : Sh) (f47 : i47 → Option o47) (f48 : i48 → Option o48) (l29_5 : iL29_5 → Option oL29_5) (x1 : Rows) (k : o29 → Option R) : Option R :=
  sh ([] : Rows) fun y1 =>
  (f47 ((390 : Int), x1)).bind fun (r2 : List Int) =>
  sh (List.replicate (32 : Nat) [Go.Ev.DL.int Go.IntKind.u8 (0 : Int)] : Rows) fun y3 =>
  bif Decidable.decide (List.length y3 = (32 : Nat)) then
    sh (Go.Ev.colD (Go.Ev.mapD Go.IntKind.u8 (Go.Ev.pkL r2 (32 : Nat))) : Rows) fun y4 =>
    bif Bool.true && Decidable.decide (List.length y4 = (32 : Nat)) then
      (f48 (List.take (16 : Nat) (List.drop (0 : Nat) y4))).bind fun (r5 : Rows) =>
      (l29_5 ((0 : Int), (0 : Int), r5)).bind fun (r8 : Int × Rows) =>
      sh (Go.IntKind.wrap Go.IntKind.i64 (↑(BitVec.toNat (BitVec.ofInt (64 : Nat) (Int.fdiv (Prod.fst r8) (256 : Int)) &&& BitVec.ofInt (64 : Nat) (15 : Int))) : Int)) fun y9 =>
      sh (Go.IntKind.wrap Go.IntKind.i64 (↑(BitVec.toNat (BitVec.ofInt (64 : Nat) (Int.fdiv (Prod.fst r8) (16 : Int)) &&& BitVec.ofInt (64 : Nat) (15 : Int))) : Int)) fun y10 =>
      sh (Go.IntKind.wrap Go.IntKind.i64 (↑(BitVec.toNat (BitVec.ofInt (64 : Nat) (Prod.fst r8) &&& BitVec.ofInt (64 : Nat) (15 : Int))) : Int)) fun y11 =>
      sh ([[Go.Ev.DL.int Go.IntKind.i64 y9], [Go.Ev.DL.int Go.IntKind.i64 y10], [Go.Ev.DL.int Go.IntKind.i64 y11]] : Rows) fun y12 =>
      bif Go.Ev.roomE Go.Proofs.Try.prog (3 : Nat) (List.length (Prod.snd r8) + List.length y12) then
        sh (Prod.snd r8 ++ y12 : Rows) fun y13 =>
        k (y13)
      else none
    else none
  else none
theorem t29_eq {R : Type} (sh : Sh) (hsh : ∀ {α R : Type} (x : α) (K : α → Option R), sh x K = K x) (f47 : i47 → Option o47) (f48 : i48 → Option o48) (l29_5 : iL29_5 → Option oL29_5) (x1 : Rows) (K : CSt → Option R) : bodyK Try.prog (tabO sh hsh br29 ar29 [ent47 f47, ent48 f48]) (tabL [entL29_5 l29_5]) ann29 false Try.f29 (enc29 x1) K = t29 sh f47 f48 l29_5 x1 (retK29 K) := by kernel_rfl
theorem t29_law {R : Type} (f47 : i47 → Option o47) (f48 : i48 → Option o48) (l29_5 : iL29_5 → Option oL29_5) (x1 : Rows) (K : o29 → Option R) : t29 sh0 f47 f48 l29_5 x1 K = (t29 sh0 f47 f48 l29_5 x1 some).bind K := by
  simp only [t29, sh0, cond_bind', two_bind, none_bind', Option.bind_assoc, Option.bind_some]
theorem ok29 (f47 : i47 → Option o47) (f48 : i48 → Option o48) (l29_5 : iL29_5 → Option oL29_5) (hf47 : Sd47 f47) (hf48 : Sd48 f48) (hl29_5 : SdL29_5 l29_5) : Sd29 (fun a => t29 sh0 f47 f48 l29_5 a some) := by
  intro a b h
  refine call_ok (sh := sh0) (hsh := fun _ _ => rfl) (br := br29) (ar := ar29) (own := false) Try.mixed Try.func29 (by kernel_rfl) (.cons (mkEnt_ok hf47) (.cons (mkEnt_ok hf48) .nil)) (fun nt => (.cons (mkLEnt_ok (hl29_5 nt)) .nil)) ((t29_eq sh0 (fun _ _ => rfl) f47 f48 l29_5 a _).trans ?_)
  rw [t29_law]
  simp only at h
  rw [h, Option.bind_some, retK29_eq]

/-! 31 erasure/erasureref39.Digits -/
abbrev i31 : Type := Rows
def enc31 : i31 → CSt := fun a => ([Go.Ev.SV.one (Go.Ev.SL.d (Go.Ev.DL.lst (5 : Nat) a))], [])
def dec31 : (c : CSt) → Option { a : i31 // c = enc31 a }
  | ([Go.Ev.SV.one (Go.Ev.SL.d (Go.Ev.DL.lst (5 : Nat) x1))], []) => some ⟨x1, rfl⟩
  | _ => none
abbrev o31 : Type := Rows
def ret31 : o31 → CSt := fun b => ([Go.Ev.SV.one (Go.Ev.SL.d (Go.Ev.DL.lst (3 : Nat) b))], [])
def retK31 {R : Type} (K : CSt → Option R) : o31 → Option R := fun b => K (([Go.Ev.SV.one (Go.Ev.SL.d (Go.Ev.DL.lst (3 : Nat) b))], []))
theorem retK31_eq {R : Type} (K : CSt → Option R) (b : o31) : retK31 K b = K (ret31 b) := rfl
abbrev Sd31 (f : i31 → Option o31) : Prop := ∀ a b, f a = some b → CallOk Try.prog 31 (enc31 a) (ret31 b)
def ent31 (f : i31 → Option o31) : Ent := mkEnt 31 dec31 ret31 retK31 retK31_eq f
def ann31 : Nat → List Nat × List Nat := fun id => bif Nat.beq id 5 then ([3, 4, 5, 6], [4, 5]) else ([], [])
def br31 : FuncId → Bool := fun (g : Nat) => ([67, 72] : List Nat).any (Nat.beq g)
def ar31 : TypeId → Bool := fun (t : Nat) => ([24, 25, 79, 82] : List Nat).any (Nat.beq t)
abbrev iL31_5 : Type := Int × Int × Rows × Rows
def encL31_5 : iL31_5 → CSt := fun a => ([Go.Ev.SV.one (Go.Ev.SL.ept (0 : Nat) (0 : Nat) (0 : Nat)), Go.Ev.SV.one (Go.Ev.SL.vr (1 : Nat)), Go.Ev.SV.one (Go.Ev.SL.d (Go.Ev.DL.int Go.IntKind.i64 a.1)), Go.Ev.SV.one (Go.Ev.SL.d (Go.Ev.DL.int Go.IntKind.i64 a.2.1))], [Go.Ev.Obj.vec (5 : Nat) Bool.false a.2.2.1, Go.Ev.Obj.vec (3 : Nat) Bool.false a.2.2.2])
def decL31_5 : (c : CSt) → Option { a : iL31_5 // c = encL31_5 a }
  | ([Go.Ev.SV.one (Go.Ev.SL.ept (0 : Nat) (0 : Nat) (0 : Nat)), Go.Ev.SV.one (Go.Ev.SL.vr (1 : Nat)), Go.Ev.SV.one (Go.Ev.SL.d (Go.Ev.DL.int Go.IntKind.i64 x1)), Go.Ev.SV.one (Go.Ev.SL.d (Go.Ev.DL.int Go.IntKind.i64 x2))], [Go.Ev.Obj.vec (5 : Nat) Bool.false x3, Go.Ev.Obj.vec (3 : Nat) Bool.false x4]) => some ⟨(x1, x2, x3, x4), rfl⟩
  | _ => none
abbrev oL31_5 : Type := Int × Rows
def retL31_5 : oL31_5 → Ex × CSt := fun b => (Go.Ev.Ex.exit (0 : Nat), ([Go.Ev.SV.one (Go.Ev.SL.vr (0 : Nat)), Go.Ev.SV.one (Go.Ev.SL.d (Go.Ev.DL.int Go.IntKind.i64 b.1))], [Go.Ev.Obj.vec (3 : Nat) Bool.false b.2]))
def retKL31_5 {R : Type} (K : Ex → CSt → Option R) : oL31_5 → Option R := fun b => K (Go.Ev.Ex.exit (0 : Nat)) (([Go.Ev.SV.one (Go.Ev.SL.vr (0 : Nat)), Go.Ev.SV.one (Go.Ev.SL.d (Go.Ev.DL.int Go.IntKind.i64 b.1))], [Go.Ev.Obj.vec (3 : Nat) Bool.false b.2]))
theorem retKL31_5_eq {R : Type} (K : Ex → CSt → Option R) (b : oL31_5) : retKL31_5 K b = K (retL31_5 b).1 (retL31_5 b).2 := rfl
def entL31_5 (l : iL31_5 → Option oL31_5) : LEnt := mkLEnt 5 decL31_5 retL31_5 retKL31_5 retKL31_5_eq l
abbrev SdL31_5 (l : iL31_5 → Option oL31_5) : Prop := ∀ nt a b, l a = some b → LoopAt Try.prog nt 0 ann31 Try.f31 5 (encL31_5 a) (retL31_5 b)
noncomputable def u31_5 {R : Type} (sh : Sh) (l31_5 : iL31_5 → Option oL31_5) (x1 : Int) (x2 : Int) (x3 : Rows) (x4 : Rows) (k : oL31_5 → Option R) : Option R :=
  bif Decidable.decide (x2 < (16 : Int)) then
    bif Decidable.decide ((0 : Int) ≤ x2 ∧ x2 < (32 : Int)) then
      bif Decidable.decide (Int.toNat x2 < List.length x3) then
        sh (Go.Ev.DL.getI (Go.Ev.cellAt x3 (Int.toNat x2) (0 : Nat))) fun y6 =>
        bif Decidable.decide ((0 : Int) ≤ x2 ∧ x2 < (32 : Int)) then
          bif Decidable.decide (Int.toNat x2 < List.length x3) then
            sh (Go.Ev.DL.getI (Go.Ev.cellAt x3 (Int.toNat x2) (0 : Nat))) fun y7 =>
            sh ([[Go.Ev.DL.int Go.IntKind.i64 (Go.IntKind.wrap Go.IntKind.i64 (Go.IntKind.wrap Go.IntKind.u8 (Int.tdiv y6 (16 : Int))))], [Go.Ev.DL.int Go.IntKind.i64 (Go.IntKind.wrap Go.IntKind.i64 (Int.tmod y7 (16 : Int)))]] : Rows) fun y8 =>
            bif Go.Ev.roomE Go.Proofs.Try.prog (3 : Nat) (List.length x4 + List.length y8) then
              sh (x4 ++ y8 : Rows) fun y9 =>
              sh (Go.IntKind.wrap Go.IntKind.i64 (Go.IntKind.wrap Go.IntKind.i64 (x1 + (15 : Int)) - Go.IntKind.wrap Go.IntKind.i64 (Go.IntKind.wrap Go.IntKind.u8 (Int.tdiv y6 (16 : Int))))) fun y10 =>
              sh (Go.IntKind.wrap Go.IntKind.i64 (Go.IntKind.wrap Go.IntKind.i64 (y10 + (15 : Int)) - Go.IntKind.wrap Go.IntKind.i64 (Int.tmod y7 (16 : Int)))) fun y11 =>
              (l31_5 (y11, Go.IntKind.wrap Go.IntKind.i64 (x2 + (1 : Int)), x3, y9)).bind k
            else none
          else none
        else none
      else none
    else none
  else
    k ((x1, x4))
theorem u31_5_eq {R : Type} (sh : Sh) (hsh : ∀ {α R : Type} (x : α) (K : α → Option R), sh x K = K x) (l31_5 : iL31_5 → Option oL31_5) (x1 : Int) (x2 : Int) (x3 : Rows) (x4 : Rows) (K : Ex → CSt → Option R) : roundK Try.prog (tabO sh hsh br31 ar31 []) (tabL [entL31_5 l31_5]) ann31 0 Try.f31 5 (encL31_5 (x1, x2, x3, x4)) K = u31_5 sh l31_5 x1 x2 x3 x4 (retKL31_5 K) := by kernel_rfl
theorem u31_5_law {R : Type} (l31_5 : iL31_5 → Option oL31_5) (x1 : Int) (x2 : Int) (x3 : Rows) (x4 : Rows) (K : oL31_5 → Option R) : u31_5 sh0 l31_5 x1 x2 x3 x4 K = (u31_5 sh0 l31_5 x1 x2 x3 x4 some).bind K := by
  simp only [u31_5, sh0, cond_bind', two_bind, none_bind', Option.bind_assoc, Option.bind_some]
theorem okL31_5 (l31_5 : iL31_5 → Option oL31_5) (hl31_5 : SdL31_5 l31_5) : SdL31_5 (fun a => u31_5 sh0 l31_5 a.1 a.2.1 a.2.2.1 a.2.2.2 some) := by
  intro nt a b h
  refine round_ok (sh := sh0) (hsh := fun _ _ => rfl) (br := br31) (ar := ar31) Try.mixed (by kernel_rfl) .nil (.cons (mkLEnt_ok (hl31_5 nt)) .nil) ((u31_5_eq sh0 (fun _ _ => rfl) l31_5  a.1 a.2.1 a.2.2.1 a.2.2.2 _).trans ?_)
  rw [u31_5_law]
  simp only at h
  rw [h, Option.bind_some, retKL31_5_eq]
noncomputable def t31 {R : Type} (sh : Sh) (f50 : i50 → Option o50) (l31_5 : iL31_5 → Option oL31_5) (x1 : Rows) (k : o31 → Option R) : Option R :=
  sh ([] : Rows) fun y1 =>
  (f50 ((390 : Int), x1)).bind fun (r2 : List Int) =>
  sh (List.replicate (32 : Nat) [Go.Ev.DL.int Go.IntKind.u8 (0 : Int)] : Rows) fun y3 =>
  bif Decidable.decide (List.length y3 = (32 : Nat)) then
    sh (Go.Ev.colD (Go.Ev.mapD Go.IntKind.u8 (Go.Ev.pkL r2 (32 : Nat))) : Rows) fun y4 =>
    sh ([] : Rows) fun y5 =>
    (l31_5 ((0 : Int), (0 : Int), y4, y5)).bind fun (r12 : Int × Rows) =>
    sh ([[Go.Ev.DL.int Go.IntKind.i64 (Go.IntKind.wrap Go.IntKind.i64 (Int.tdiv (Prod.fst r12) (256 : Int)))], [Go.Ev.DL.int Go.IntKind.i64 (Int.tmod (Go.IntKind.wrap Go.IntKind.i64 (Int.tdiv (Prod.fst r12) (16 : Int))) (16 : Int))], [Go.Ev.DL.int Go.IntKind.i64 (Int.tmod (Prod.fst r12) (16 : Int))]] : Rows) fun y13 =>
    bif Go.Ev.roomE Go.Proofs.Try.prog (3 : Nat) (List.length (Prod.snd r12) + List.length y13) then
      sh (Prod.snd r12 ++ y13 : Rows) fun y14 =>
      k (y14)
    else none
  else none
theorem t31_eq {R : Type} (sh : Sh) (hsh : ∀ {α R : Type} (x : α) (K : α → Option R), sh x K = K x) (f50 : i50 → Option o50) (l31_5 : iL31_5 → Option oL31_5) (x1 : Rows) (K : CSt → Option R) : bodyK Try.prog (tabO sh hsh br31 ar31 [ent50 f50]) (tabL [entL31_5 l31_5]) ann31 false Try.f31 (enc31 x1) K = t31 sh f50 l31_5 x1 (retK31 K) := by kernel_rfl
theorem t31_law {R : Type} (f50 : i50 → Option o50) (l31_5 : iL31_5 → Option oL31_5) (x1 : Rows) (K : o31 → Option R) : t31 sh0 f50 l31_5 x1 K = (t31 sh0 f50 l31_5 x1 some).bind K := by
  simp only [t31, sh0, cond_bind', two_bind, none_bind', Option.bind_assoc, Option.bind_some]
theorem ok31 (f50 : i50 → Option o50) (l31_5 : iL31_5 → Option oL31_5) (hf50 : Sd50 f50) (hl31_5 : SdL31_5 l31_5) : Sd31 (fun a => t31 sh0 f50 l31_5 a some) := by
  intro a b h
  refine call_ok (sh := sh0) (hsh := fun _ _ => rfl) (br := br31) (ar := ar31) (own := false) Try.mixed Try.func31 (by kernel_rfl) (.cons (mkEnt_ok hf50) .nil) (fun nt => (.cons (mkLEnt_ok (hl31_5 nt)) .nil)) ((t31_eq sh0 (fun _ _ => rfl) f50 l31_5 a _).trans ?_)
  rw [t31_law]
  simp only at h
  rw [h, Option.bind_some, retK31_eq]

/-! 49 erasure/erasureref22.SameInts -/
abbrev i49 : Type := Rows × Rows
def enc49 : i49 → CSt := fun a => ([Go.Ev.SV.one (Go.Ev.SL.d (Go.Ev.DL.lst (3 : Nat) a.1)), Go.Ev.SV.one (Go.Ev.SL.d (Go.Ev.DL.lst (3 : Nat) a.2))], [])
def dec49 : (c : CSt) → Option { a : i49 // c = enc49 a }
  | ([Go.Ev.SV.one (Go.Ev.SL.d (Go.Ev.DL.lst (3 : Nat) x1)), Go.Ev.SV.one (Go.Ev.SL.d (Go.Ev.DL.lst (3 : Nat) x2))], []) => some ⟨(x1, x2), rfl⟩
  | _ => none
abbrev o49 : Type := Bool
def ret49 : o49 → CSt := fun b => ([Go.Ev.SV.one (Go.Ev.SL.d (Go.Ev.DL.bool b))], [])
def retK49 {R : Type} (K : CSt → Option R) : o49 → Option R := fun b => K (([Go.Ev.SV.one (Go.Ev.SL.d (Go.Ev.DL.bool b))], []))
theorem retK49_eq {R : Type} (K : CSt → Option R) (b : o49) : retK49 K b = K (ret49 b) := rfl
abbrev Sd49 (f : i49 → Option o49) : Prop := ∀ a b, f a = some b → CallOk Try.prog 49 (enc49 a) (ret49 b)
def ent49 (f : i49 → Option o49) : Ent := mkEnt 49 dec49 ret49 retK49 retK49_eq f
def ann49 : Nat → List Nat × List Nat := fun id => bif Nat.beq id 4 then ([0, 1, 5], [4]) else ([], [])
def br49 : FuncId → Bool := fun (g : Nat) => ([67, 72] : List Nat).any (Nat.beq g)
def ar49 : TypeId → Bool := fun (t : Nat) => ([24, 25, 79, 82] : List Nat).any (Nat.beq t)
abbrev iL49_4 : Type := Rows × Rows × Int
def encL49_4 : iL49_4 → CSt := fun a => ([Go.Ev.SV.one (Go.Ev.SL.d (Go.Ev.DL.lst (3 : Nat) a.1)), Go.Ev.SV.one (Go.Ev.SL.d (Go.Ev.DL.lst (3 : Nat) a.2.1)), Go.Ev.SV.one (Go.Ev.SL.d (Go.Ev.DL.int Go.IntKind.i64 a.2.2))], [])
def decL49_4 : (c : CSt) → Option { a : iL49_4 // c = encL49_4 a }
  | ([Go.Ev.SV.one (Go.Ev.SL.d (Go.Ev.DL.lst (3 : Nat) x1)), Go.Ev.SV.one (Go.Ev.SL.d (Go.Ev.DL.lst (3 : Nat) x2)), Go.Ev.SV.one (Go.Ev.SL.d (Go.Ev.DL.int Go.IntKind.i64 x3))], []) => some ⟨(x1, x2, x3), rfl⟩
  | _ => none
abbrev oL49_4 : Type := (Bool) ⊕ (Unit)
def retL49_4 : oL49_4 → Ex × CSt := two (fun b => (Go.Ev.Ex.ret, ([Go.Ev.SV.one (Go.Ev.SL.d (Go.Ev.DL.bool b))], []))) (fun b => (Go.Ev.Ex.exit (0 : Nat), ([Go.Ev.SV.one Go.Ev.SL.un], [])))
def retKL49_4 {R : Type} (K : Ex → CSt → Option R) : oL49_4 → Option R := two (fun b => K (Go.Ev.Ex.ret) (([Go.Ev.SV.one (Go.Ev.SL.d (Go.Ev.DL.bool b))], []))) (fun b => K (Go.Ev.Ex.exit (0 : Nat)) (([Go.Ev.SV.one Go.Ev.SL.un], [])))
theorem retKL49_4_eq {R : Type} (K : Ex → CSt → Option R) (b : oL49_4) : retKL49_4 K b = K (retL49_4 b).1 (retL49_4 b).2 := by
  unfold retKL49_4 retL49_4
  repeat' (first | rfl | cases b with | inl b => rfl | inr b => ?_)
def entL49_4 (l : iL49_4 → Option oL49_4) : LEnt := mkLEnt 4 decL49_4 retL49_4 retKL49_4 retKL49_4_eq l
abbrev SdL49_4 (l : iL49_4 → Option oL49_4) : Prop := ∀ nt a b, l a = some b → LoopAt Try.prog nt 0 ann49 Try.f49 4 (encL49_4 a) (retL49_4 b)
noncomputable def u49_4 {R : Type} (sh : Sh) (l49_4 : iL49_4 → Option oL49_4) (x1 : Rows) (x2 : Rows) (x3 : Int) (k : oL49_4 → Option R) : Option R :=
  sh ((↑(List.length x1) : Int)) fun y3 =>
  bif Decidable.decide (x3 < y3) then
    bif Decidable.decide ((0 : Int) ≤ x3 ∧ x3 < (↑(List.length x1) : Int)) then
      sh (Go.Ev.DL.getI (Go.Ev.cellAt x1 (Int.toNat x3) (0 : Nat))) fun y4 =>
      bif Decidable.decide ((0 : Int) ≤ x3 ∧ x3 < (↑(List.length x2) : Int)) then
        sh (Go.Ev.DL.getI (Go.Ev.cellAt x2 (Int.toNat x3) (0 : Nat))) fun y5 =>
        bif y4 != y5 then
          k ((.inl Bool.false))
        else
          (l49_4 (x1, x2, Go.IntKind.wrap Go.IntKind.i64 (x3 + (1 : Int)))).bind k
      else none
    else none
  else
    k ((.inr ()))
theorem u49_4_eq {R : Type} (sh : Sh) (hsh : ∀ {α R : Type} (x : α) (K : α → Option R), sh x K = K x) (l49_4 : iL49_4 → Option oL49_4) (x1 : Rows) (x2 : Rows) (x3 : Int) (K : Ex → CSt → Option R) : roundK Try.prog (tabO sh hsh br49 ar49 []) (tabL [entL49_4 l49_4]) ann49 0 Try.f49 4 (encL49_4 (x1, x2, x3)) K = u49_4 sh l49_4 x1 x2 x3 (retKL49_4 K) := by kernel_rfl
theorem u49_4_law {R : Type} (l49_4 : iL49_4 → Option oL49_4) (x1 : Rows) (x2 : Rows) (x3 : Int) (K : oL49_4 → Option R) : u49_4 sh0 l49_4 x1 x2 x3 K = (u49_4 sh0 l49_4 x1 x2 x3 some).bind K := by
  simp only [u49_4, sh0, cond_bind', two_bind, none_bind', Option.bind_assoc, Option.bind_some]
theorem okL49_4 (l49_4 : iL49_4 → Option oL49_4) (hl49_4 : SdL49_4 l49_4) : SdL49_4 (fun a => u49_4 sh0 l49_4 a.1 a.2.1 a.2.2 some) := by
  intro nt a b h
  refine round_ok (sh := sh0) (hsh := fun _ _ => rfl) (br := br49) (ar := ar49) Try.mixed (by kernel_rfl) .nil (.cons (mkLEnt_ok (hl49_4 nt)) .nil) ((u49_4_eq sh0 (fun _ _ => rfl) l49_4  a.1 a.2.1 a.2.2 _).trans ?_)
  rw [u49_4_law]
  simp only at h
  rw [h, Option.bind_some, retKL49_4_eq]
noncomputable def t49 {R : Type} (sh : Sh) (l49_4 : iL49_4 → Option oL49_4) (x1 : Rows) (x2 : Rows) (k : o49 → Option R) : Option R :=
  sh ((↑(List.length x1) : Int)) fun y1 =>
  sh ((↑(List.length x2) : Int)) fun y2 =>
  bif y1 != y2 then
    k (Bool.false)
  else
    (l49_4 (x1, x2, (0 : Int))).bind (two (fun (r6 : Bool) =>
      k (r6)
    ) (fun _ =>
      k (Bool.true)
    ))
theorem t49_eq {R : Type} (sh : Sh) (hsh : ∀ {α R : Type} (x : α) (K : α → Option R), sh x K = K x) (l49_4 : iL49_4 → Option oL49_4) (x1 : Rows) (x2 : Rows) (K : CSt → Option R) : bodyK Try.prog (tabO sh hsh br49 ar49 []) (tabL [entL49_4 l49_4]) ann49 false Try.f49 (enc49 (x1, x2)) K = t49 sh l49_4 x1 x2 (retK49 K) := by kernel_rfl
theorem t49_law {R : Type} (l49_4 : iL49_4 → Option oL49_4) (x1 : Rows) (x2 : Rows) (K : o49 → Option R) : t49 sh0 l49_4 x1 x2 K = (t49 sh0 l49_4 x1 x2 some).bind K := by
  simp only [t49, sh0, cond_bind', two_bind, none_bind', Option.bind_assoc, Option.bind_some]
theorem ok49 (l49_4 : iL49_4 → Option oL49_4) (hl49_4 : SdL49_4 l49_4) : Sd49 (fun a => t49 sh0 l49_4 a.1 a.2 some) := by
  intro a b h
  refine call_ok (sh := sh0) (hsh := fun _ _ => rfl) (br := br49) (ar := ar49) (own := false) Try.mixed Try.func49 (by kernel_rfl) .nil (fun nt => (.cons (mkLEnt_ok (hl49_4 nt)) .nil)) ((t49_eq sh0 (fun _ _ => rfl) l49_4 a.1 a.2 _).trans ?_)
  rw [t49_law]
  simp only at h
  rw [h, Option.bind_some, retK49_eq]

/-! 30 erasure/erasureref26.SameInts -/
abbrev i30 : Type := Rows × Rows
def enc30 : i30 → CSt := fun a => ([Go.Ev.SV.one (Go.Ev.SL.d (Go.Ev.DL.lst (3 : Nat) a.1)), Go.Ev.SV.one (Go.Ev.SL.d (Go.Ev.DL.lst (3 : Nat) a.2))], [])
def dec30 : (c : CSt) → Option { a : i30 // c = enc30 a }
  | ([Go.Ev.SV.one (Go.Ev.SL.d (Go.Ev.DL.lst (3 : Nat) x1)), Go.Ev.SV.one (Go.Ev.SL.d (Go.Ev.DL.lst (3 : Nat) x2))], []) => some ⟨(x1, x2), rfl⟩
  | _ => none
abbrev o30 : Type := Bool
def ret30 : o30 → CSt := fun b => ([Go.Ev.SV.one (Go.Ev.SL.d (Go.Ev.DL.bool b))], [])
def retK30 {R : Type} (K : CSt → Option R) : o30 → Option R := fun b => K (([Go.Ev.SV.one (Go.Ev.SL.d (Go.Ev.DL.bool b))], []))
theorem retK30_eq {R : Type} (K : CSt → Option R) (b : o30) : retK30 K b = K (ret30 b) := rfl
abbrev Sd30 (f : i30 → Option o30) : Prop := ∀ a b, f a = some b → CallOk Try.prog 30 (enc30 a) (ret30 b)
def ent30 (f : i30 → Option o30) : Ent := mkEnt 30 dec30 ret30 retK30 retK30_eq f
def ann30 : Nat → List Nat × List Nat := fun id => ([], [])
def br30 : FuncId → Bool := fun (g : Nat) => ([67, 72] : List Nat).any (Nat.beq g)
def ar30 : TypeId → Bool := fun (t : Nat) => ([24, 25, 79, 82] : List Nat).any (Nat.beq t)
noncomputable def t30 {R : Type} (sh : Sh) (f49 : i49 → Option o49) (x1 : Rows) (x2 : Rows) (k : o30 → Option R) : Option R :=
  (f49 (x1, x2)).bind fun (r1 : Bool) =>
  k (r1)
theorem t30_eq {R : Type} (sh : Sh) (hsh : ∀ {α R : Type} (x : α) (K : α → Option R), sh x K = K x) (f49 : i49 → Option o49) (x1 : Rows) (x2 : Rows) (K : CSt → Option R) : bodyK Try.prog (tabO sh hsh br30 ar30 [ent49 f49]) (tabL []) ann30 false Try.f30 (enc30 (x1, x2)) K = t30 sh f49 x1 x2 (retK30 K) := by kernel_rfl
theorem t30_law {R : Type} (f49 : i49 → Option o49) (x1 : Rows) (x2 : Rows) (K : o30 → Option R) : t30 sh0 f49 x1 x2 K = (t30 sh0 f49 x1 x2 some).bind K := by
  simp only [t30, sh0, cond_bind', two_bind, none_bind', Option.bind_assoc, Option.bind_some]
theorem ok30 (f49 : i49 → Option o49) (hf49 : Sd49 f49) : Sd30 (fun a => t30 sh0 f49 a.1 a.2 some) := by
  intro a b h
  refine call_ok (sh := sh0) (hsh := fun _ _ => rfl) (br := br30) (ar := ar30) (own := false) Try.mixed Try.func30 (by kernel_rfl) (.cons (mkEnt_ok hf49) .nil) (fun nt => .nil) ((t30_eq sh0 (fun _ _ => rfl) f49 a.1 a.2 _).trans ?_)
  rw [t30_law]
  simp only at h
  rw [h, Option.bind_some, retK30_eq]

/-! 28 erasure/erasurelaw39.awake -/
abbrev i28 : Type := Unit
def enc28 : i28 → CSt := fun a => ([], [])
def dec28 : (c : CSt) → Option { a : i28 // c = enc28 a }
  | ([], []) => some ⟨(), rfl⟩
  | _ => none
abbrev o28 : Type := Bool
def ret28 : o28 → CSt := fun b => ([Go.Ev.SV.one (Go.Ev.SL.d (Go.Ev.DL.bool b))], [])
def retK28 {R : Type} (K : CSt → Option R) : o28 → Option R := fun b => K (([Go.Ev.SV.one (Go.Ev.SL.d (Go.Ev.DL.bool b))], []))
theorem retK28_eq {R : Type} (K : CSt → Option R) (b : o28) : retK28 K b = K (ret28 b) := rfl
abbrev Sd28 (f : i28 → Option o28) : Prop := ∀ a b, f a = some b → CallOk Try.prog 28 (enc28 a) (ret28 b)
def ent28 (f : i28 → Option o28) : Ent := mkEnt 28 dec28 ret28 retK28 retK28_eq f
def ann28 : Nat → List Nat × List Nat := fun id => ([], [])
def br28 : FuncId → Bool := fun (g : Nat) => ([67, 72] : List Nat).any (Nat.beq g)
def ar28 : TypeId → Bool := fun (t : Nat) => ([24, 25, 79, 82] : List Nat).any (Nat.beq t)
noncomputable def t28 {R : Type} (sh : Sh) (f29 : i29 → Option o29) (f31 : i31 → Option o31) (f30 : i30 → Option o30) (k : o28 → Option R) : Option R :=
  (f29 ([])).bind fun (r1 : Rows) =>
  (f31 ([])).bind fun (r2 : Rows) =>
  (f30 (r1, r2)).bind fun (r3 : Bool) =>
  k (r3)
theorem t28_eq {R : Type} (sh : Sh) (hsh : ∀ {α R : Type} (x : α) (K : α → Option R), sh x K = K x) (f29 : i29 → Option o29) (f31 : i31 → Option o31) (f30 : i30 → Option o30) (K : CSt → Option R) : bodyK Try.prog (tabO sh hsh br28 ar28 [ent29 f29, ent31 f31, ent30 f30]) (tabL []) ann28 false Try.f28 (enc28 ()) K = t28 sh f29 f31 f30 (retK28 K) := by kernel_rfl
theorem t28_law {R : Type} (f29 : i29 → Option o29) (f31 : i31 → Option o31) (f30 : i30 → Option o30) (K : o28 → Option R) : t28 sh0 f29 f31 f30 K = (t28 sh0 f29 f31 f30 some).bind K := by
  simp only [t28, sh0, cond_bind', two_bind, none_bind', Option.bind_assoc, Option.bind_some]
theorem ok28 (f29 : i29 → Option o29) (f31 : i31 → Option o31) (f30 : i30 → Option o30) (hf29 : Sd29 f29) (hf31 : Sd31 f31) (hf30 : Sd30 f30) : Sd28 (fun a => t28 sh0 f29 f31 f30 some) := by
  intro a b h
  refine call_ok (sh := sh0) (hsh := fun _ _ => rfl) (br := br28) (ar := ar28) (own := false) Try.mixed Try.func28 (by kernel_rfl) (.cons (mkEnt_ok hf29) (.cons (mkEnt_ok hf31) (.cons (mkEnt_ok hf30) .nil))) (fun nt => .nil) ((t28_eq sh0 (fun _ _ => rfl) f29 f31 f30 _).trans ?_)
  rw [t28_law]
  simp only at h
  rw [h, Option.bind_some, retK28_eq]

/-! 51 erasure/signature.walk -/
abbrev i51 : Type := List Int × Int
def enc51 : i51 → CSt := fun a => ([Go.Ev.SV.agg (Go.Ev.pkS Go.IntKind.u8 a.1 (32 : Nat)), Go.Ev.SV.one (Go.Ev.SL.d (Go.Ev.DL.int Go.IntKind.i64 a.2))], [])
def dec51 : (c : CSt) → Option { a : i51 // c = enc51 a }
  | ([Go.Ev.SV.agg [Go.Ev.SL.d (Go.Ev.DL.int Go.IntKind.u8 x1_0), Go.Ev.SL.d (Go.Ev.DL.int Go.IntKind.u8 x1_1), Go.Ev.SL.d (Go.Ev.DL.int Go.IntKind.u8 x1_2), Go.Ev.SL.d (Go.Ev.DL.int Go.IntKind.u8 x1_3), Go.Ev.SL.d (Go.Ev.DL.int Go.IntKind.u8 x1_4), Go.Ev.SL.d (Go.Ev.DL.int Go.IntKind.u8 x1_5), Go.Ev.SL.d (Go.Ev.DL.int Go.IntKind.u8 x1_6), Go.Ev.SL.d (Go.Ev.DL.int Go.IntKind.u8 x1_7), Go.Ev.SL.d (Go.Ev.DL.int Go.IntKind.u8 x1_8), Go.Ev.SL.d (Go.Ev.DL.int Go.IntKind.u8 x1_9), Go.Ev.SL.d (Go.Ev.DL.int Go.IntKind.u8 x1_10), Go.Ev.SL.d (Go.Ev.DL.int Go.IntKind.u8 x1_11), Go.Ev.SL.d (Go.Ev.DL.int Go.IntKind.u8 x1_12), Go.Ev.SL.d (Go.Ev.DL.int Go.IntKind.u8 x1_13), Go.Ev.SL.d (Go.Ev.DL.int Go.IntKind.u8 x1_14), Go.Ev.SL.d (Go.Ev.DL.int Go.IntKind.u8 x1_15), Go.Ev.SL.d (Go.Ev.DL.int Go.IntKind.u8 x1_16), Go.Ev.SL.d (Go.Ev.DL.int Go.IntKind.u8 x1_17), Go.Ev.SL.d (Go.Ev.DL.int Go.IntKind.u8 x1_18), Go.Ev.SL.d (Go.Ev.DL.int Go.IntKind.u8 x1_19), Go.Ev.SL.d (Go.Ev.DL.int Go.IntKind.u8 x1_20), Go.Ev.SL.d (Go.Ev.DL.int Go.IntKind.u8 x1_21), Go.Ev.SL.d (Go.Ev.DL.int Go.IntKind.u8 x1_22), Go.Ev.SL.d (Go.Ev.DL.int Go.IntKind.u8 x1_23), Go.Ev.SL.d (Go.Ev.DL.int Go.IntKind.u8 x1_24), Go.Ev.SL.d (Go.Ev.DL.int Go.IntKind.u8 x1_25), Go.Ev.SL.d (Go.Ev.DL.int Go.IntKind.u8 x1_26), Go.Ev.SL.d (Go.Ev.DL.int Go.IntKind.u8 x1_27), Go.Ev.SL.d (Go.Ev.DL.int Go.IntKind.u8 x1_28), Go.Ev.SL.d (Go.Ev.DL.int Go.IntKind.u8 x1_29), Go.Ev.SL.d (Go.Ev.DL.int Go.IntKind.u8 x1_30), Go.Ev.SL.d (Go.Ev.DL.int Go.IntKind.u8 x1_31)], Go.Ev.SV.one (Go.Ev.SL.d (Go.Ev.DL.int Go.IntKind.i64 x2))], []) => some ⟨([x1_0, x1_1, x1_2, x1_3, x1_4, x1_5, x1_6, x1_7, x1_8, x1_9, x1_10, x1_11, x1_12, x1_13, x1_14, x1_15, x1_16, x1_17, x1_18, x1_19, x1_20, x1_21, x1_22, x1_23, x1_24, x1_25, x1_26, x1_27, x1_28, x1_29, x1_30, x1_31], x2), rfl⟩
  | _ => none
abbrev o51 : Type := List Int
def ret51 : o51 → CSt := fun b => ([Go.Ev.SV.agg (Go.Ev.pkS Go.IntKind.u8 b (32 : Nat))], [])
def retK51 {R : Type} (K : CSt → Option R) : o51 → Option R := fun b => K (([Go.Ev.SV.agg (Go.Ev.pkS Go.IntKind.u8 b (32 : Nat))], []))
theorem retK51_eq {R : Type} (K : CSt → Option R) (b : o51) : retK51 K b = K (ret51 b) := rfl
abbrev Sd51 (f : i51 → Option o51) : Prop := ∀ a b, f a = some b → CallOk Try.prog 51 (enc51 a) (ret51 b)
def ent51 (f : i51 → Option o51) : Ent := mkEnt 51 dec51 ret51 retK51 retK51_eq f
def ann51 : Nat → List Nat × List Nat := fun id => bif Nat.beq id 1 then ([1, 2, 4], [2, 4]) else ([], [])
def br51 : FuncId → Bool := fun (g : Nat) => ([67, 72] : List Nat).any (Nat.beq g)
def ar51 : TypeId → Bool := fun (t : Nat) => ([24, 25, 79, 82] : List Nat).any (Nat.beq t)
abbrev iL51_1 : Type := Int × Rows × Rows
def encL51_1 : iL51_1 → CSt := fun a => ([Go.Ev.SV.one (Go.Ev.SL.d (Go.Ev.DL.int Go.IntKind.i64 a.1)), Go.Ev.SV.one (Go.Ev.SL.ept (0 : Nat) (0 : Nat) (0 : Nat)), Go.Ev.SV.one (Go.Ev.SL.ept (1 : Nat) (0 : Nat) (0 : Nat))], [Go.Ev.Obj.vec (5 : Nat) Bool.false a.2.1, Go.Ev.Obj.vec (5 : Nat) Bool.false a.2.2])
def decL51_1 : (c : CSt) → Option { a : iL51_1 // c = encL51_1 a }
  | ([Go.Ev.SV.one (Go.Ev.SL.d (Go.Ev.DL.int Go.IntKind.i64 x1)), Go.Ev.SV.one (Go.Ev.SL.ept (0 : Nat) (0 : Nat) (0 : Nat)), Go.Ev.SV.one (Go.Ev.SL.ept (1 : Nat) (0 : Nat) (0 : Nat))], [Go.Ev.Obj.vec (5 : Nat) Bool.false x2, Go.Ev.Obj.vec (5 : Nat) Bool.false x3]) => some ⟨(x1, x2, x3), rfl⟩
  | _ => none
abbrev oL51_1 : Type := Rows × Rows
def retL51_1 : oL51_1 → Ex × CSt := fun b => (Go.Ev.Ex.exit (0 : Nat), ([Go.Ev.SV.one (Go.Ev.SL.ept (0 : Nat) (0 : Nat) (0 : Nat)), Go.Ev.SV.one (Go.Ev.SL.ept (1 : Nat) (0 : Nat) (0 : Nat))], [Go.Ev.Obj.vec (5 : Nat) Bool.false b.1, Go.Ev.Obj.vec (5 : Nat) Bool.false b.2]))
def retKL51_1 {R : Type} (K : Ex → CSt → Option R) : oL51_1 → Option R := fun b => K (Go.Ev.Ex.exit (0 : Nat)) (([Go.Ev.SV.one (Go.Ev.SL.ept (0 : Nat) (0 : Nat) (0 : Nat)), Go.Ev.SV.one (Go.Ev.SL.ept (1 : Nat) (0 : Nat) (0 : Nat))], [Go.Ev.Obj.vec (5 : Nat) Bool.false b.1, Go.Ev.Obj.vec (5 : Nat) Bool.false b.2]))
theorem retKL51_1_eq {R : Type} (K : Ex → CSt → Option R) (b : oL51_1) : retKL51_1 K b = K (retL51_1 b).1 (retL51_1 b).2 := rfl
def entL51_1 (l : iL51_1 → Option oL51_1) : LEnt := mkLEnt 1 decL51_1 retL51_1 retKL51_1 retKL51_1_eq l
abbrev SdL51_1 (l : iL51_1 → Option oL51_1) : Prop := ∀ nt a b, l a = some b → LoopAt Try.prog nt 0 ann51 Try.f51 1 (encL51_1 a) (retL51_1 b)
noncomputable def u51_1 {R : Type} (sh : Sh) (f61 : i61 → Option o61) (l51_1 : iL51_1 → Option oL51_1) (x1 : Int) (x2 : Rows) (x3 : Rows) (k : oL51_1 → Option R) : Option R :=
  bif Decidable.decide (x1 > (0 : Int)) then
    bif Decidable.decide (List.length x2 = (32 : Nat)) then
      (f61 ((392 : Int), Go.Ev.colI x2 (32 : Nat), [])).bind fun (r3 : List Int) =>
      bif Decidable.decide (List.length x2 = (32 : Nat)) then
        sh (Go.Ev.colD (Go.Ev.mapD Go.IntKind.u8 (Go.Ev.pkL r3 (32 : Nat))) : Rows) fun y4 =>
        (l51_1 (Go.IntKind.wrap Go.IntKind.i64 (x1 - (1 : Int)), y4, x3)).bind k
      else none
    else none
  else
    k ((x2, x3))
theorem u51_1_eq {R : Type} (sh : Sh) (hsh : ∀ {α R : Type} (x : α) (K : α → Option R), sh x K = K x) (f61 : i61 → Option o61) (l51_1 : iL51_1 → Option oL51_1) (x1 : Int) (x2 : Rows) (x3 : Rows) (K : Ex → CSt → Option R) : roundK Try.prog (tabO sh hsh br51 ar51 [ent61 f61]) (tabL [entL51_1 l51_1]) ann51 0 Try.f51 1 (encL51_1 (x1, x2, x3)) K = u51_1 sh f61 l51_1 x1 x2 x3 (retKL51_1 K) := by kernel_rfl
theorem u51_1_law {R : Type} (f61 : i61 → Option o61) (l51_1 : iL51_1 → Option oL51_1) (x1 : Int) (x2 : Rows) (x3 : Rows) (K : oL51_1 → Option R) : u51_1 sh0 f61 l51_1 x1 x2 x3 K = (u51_1 sh0 f61 l51_1 x1 x2 x3 some).bind K := by
  simp only [u51_1, sh0, cond_bind', two_bind, none_bind', Option.bind_assoc, Option.bind_some]
theorem okL51_1 (f61 : i61 → Option o61) (l51_1 : iL51_1 → Option oL51_1) (hf61 : Sd61 f61) (hl51_1 : SdL51_1 l51_1) : SdL51_1 (fun a => u51_1 sh0 f61 l51_1 a.1 a.2.1 a.2.2 some) := by
  intro nt a b h
  refine round_ok (sh := sh0) (hsh := fun _ _ => rfl) (br := br51) (ar := ar51) Try.mixed (by kernel_rfl) (.cons (mkEnt_ok hf61) .nil) (.cons (mkLEnt_ok (hl51_1 nt)) .nil) ((u51_1_eq sh0 (fun _ _ => rfl) f61 l51_1  a.1 a.2.1 a.2.2 _).trans ?_)
  rw [u51_1_law]
  simp only at h
  rw [h, Option.bind_some, retKL51_1_eq]
noncomputable def t51 {R : Type} (sh : Sh) (l51_1 : iL51_1 → Option oL51_1) (x1 : List Int) (x2 : Int) (k : o51 → Option R) : Option R :=
  sh (Go.Ev.colD (Go.Ev.mapD Go.IntKind.u8 (Go.Ev.pkL x1 (32 : Nat))) : Rows) fun y1 =>
  sh (List.replicate (32 : Nat) [Go.Ev.DL.int Go.IntKind.u8 (0 : Int)] : Rows) fun y2 =>
  (l51_1 (x2, y1, y2)).bind fun (r5 : Rows × Rows) =>
  bif Decidable.decide (List.length (Prod.fst r5) = (32 : Nat)) then
    bif Decidable.decide (List.length (Prod.snd r5) = (32 : Nat)) then
      sh (Go.Ev.colD (Go.Ev.mapD Go.IntKind.u8 (Go.Ev.colI (Prod.fst r5) (32 : Nat))) : Rows) fun y6 =>
      bif Decidable.decide (List.length y6 = (32 : Nat)) then
        k (Go.Ev.colI y6 (32 : Nat))
      else none
    else none
  else none
theorem t51_eq {R : Type} (sh : Sh) (hsh : ∀ {α R : Type} (x : α) (K : α → Option R), sh x K = K x) (l51_1 : iL51_1 → Option oL51_1) (x1 : List Int) (x2 : Int) (K : CSt → Option R) : bodyK Try.prog (tabO sh hsh br51 ar51 []) (tabL [entL51_1 l51_1]) ann51 false Try.f51 (enc51 (x1, x2)) K = t51 sh l51_1 x1 x2 (retK51 K) := by kernel_rfl
theorem t51_law {R : Type} (l51_1 : iL51_1 → Option oL51_1) (x1 : List Int) (x2 : Int) (K : o51 → Option R) : t51 sh0 l51_1 x1 x2 K = (t51 sh0 l51_1 x1 x2 some).bind K := by
  simp only [t51, sh0, cond_bind', two_bind, none_bind', Option.bind_assoc, Option.bind_some]
theorem ok51 (l51_1 : iL51_1 → Option oL51_1) (hl51_1 : SdL51_1 l51_1) : Sd51 (fun a => t51 sh0 l51_1 a.1 a.2 some) := by
  intro a b h
  refine call_ok (sh := sh0) (hsh := fun _ _ => rfl) (br := br51) (ar := ar51) (own := false) Try.mixed Try.func51 (by kernel_rfl) .nil (fun nt => (.cons (mkLEnt_ok (hl51_1 nt)) .nil)) ((t51_eq sh0 (fun _ _ => rfl) l51_1 a.1 a.2 _).trans ?_)
  rw [t51_law]
  simp only at h
  rw [h, Option.bind_some, retK51_eq]

/-! 52 erasure/signature.leaf -/
abbrev i52 : Type := Rows
def enc52 : i52 → CSt := fun a => ([Go.Ev.SV.one (Go.Ev.SL.d (Go.Ev.DL.lst (25 : Nat) a))], [])
def dec52 : (c : CSt) → Option { a : i52 // c = enc52 a }
  | ([Go.Ev.SV.one (Go.Ev.SL.d (Go.Ev.DL.lst (25 : Nat) x1))], []) => some ⟨x1, rfl⟩
  | _ => none
abbrev o52 : Type := List Int
def ret52 : o52 → CSt := fun b => ([Go.Ev.SV.agg (Go.Ev.pkS Go.IntKind.u8 b (32 : Nat))], [])
def retK52 {R : Type} (K : CSt → Option R) : o52 → Option R := fun b => K (([Go.Ev.SV.agg (Go.Ev.pkS Go.IntKind.u8 b (32 : Nat))], []))
theorem retK52_eq {R : Type} (K : CSt → Option R) (b : o52) : retK52 K b = K (ret52 b) := rfl
abbrev Sd52 (f : i52 → Option o52) : Prop := ∀ a b, f a = some b → CallOk Try.prog 52 (enc52 a) (ret52 b)
def ent52 (f : i52 → Option o52) : Ent := mkEnt 52 dec52 ret52 retK52 retK52_eq f
def ann52 : Nat → List Nat × List Nat := fun id => bif Nat.beq id 3 then ([0, 2, 3, 4], [2, 3]) else ([], [])
def br52 : FuncId → Bool := fun (g : Nat) => ([67, 72] : List Nat).any (Nat.beq g)
def ar52 : TypeId → Bool := fun (t : Nat) => ([24, 25, 79, 82] : List Nat).any (Nat.beq t)
abbrev iL52_3 : Type := Rows × Int × Rows × Rows
def encL52_3 : iL52_3 → CSt := fun a => ([Go.Ev.SV.one (Go.Ev.SL.d (Go.Ev.DL.lst (25 : Nat) a.1)), Go.Ev.SV.one (Go.Ev.SL.ept (0 : Nat) (0 : Nat) (0 : Nat)), Go.Ev.SV.one (Go.Ev.SL.vr (1 : Nat)), Go.Ev.SV.one (Go.Ev.SL.d (Go.Ev.DL.int Go.IntKind.i64 a.2.1))], [Go.Ev.Obj.vec (5 : Nat) Bool.false a.2.2.1, Go.Ev.Obj.vec (5 : Nat) Bool.false a.2.2.2])
def decL52_3 : (c : CSt) → Option { a : iL52_3 // c = encL52_3 a }
  | ([Go.Ev.SV.one (Go.Ev.SL.d (Go.Ev.DL.lst (25 : Nat) x1)), Go.Ev.SV.one (Go.Ev.SL.ept (0 : Nat) (0 : Nat) (0 : Nat)), Go.Ev.SV.one (Go.Ev.SL.vr (1 : Nat)), Go.Ev.SV.one (Go.Ev.SL.d (Go.Ev.DL.int Go.IntKind.i64 x2))], [Go.Ev.Obj.vec (5 : Nat) Bool.false x3, Go.Ev.Obj.vec (5 : Nat) Bool.false x4]) => some ⟨(x1, x2, x3, x4), rfl⟩
  | _ => none
abbrev oL52_3 : Type := Rows × Rows
def retL52_3 : oL52_3 → Ex × CSt := fun b => (Go.Ev.Ex.exit (0 : Nat), ([Go.Ev.SV.one (Go.Ev.SL.ept (0 : Nat) (0 : Nat) (0 : Nat)), Go.Ev.SV.one (Go.Ev.SL.vr (1 : Nat))], [Go.Ev.Obj.vec (5 : Nat) Bool.false b.1, Go.Ev.Obj.vec (5 : Nat) Bool.false b.2]))
def retKL52_3 {R : Type} (K : Ex → CSt → Option R) : oL52_3 → Option R := fun b => K (Go.Ev.Ex.exit (0 : Nat)) (([Go.Ev.SV.one (Go.Ev.SL.ept (0 : Nat) (0 : Nat) (0 : Nat)), Go.Ev.SV.one (Go.Ev.SL.vr (1 : Nat))], [Go.Ev.Obj.vec (5 : Nat) Bool.false b.1, Go.Ev.Obj.vec (5 : Nat) Bool.false b.2]))
theorem retKL52_3_eq {R : Type} (K : Ex → CSt → Option R) (b : oL52_3) : retKL52_3 K b = K (retL52_3 b).1 (retL52_3 b).2 := rfl
def entL52_3 (l : iL52_3 → Option oL52_3) : LEnt := mkLEnt 3 decL52_3 retL52_3 retKL52_3 retKL52_3_eq l
abbrev SdL52_3 (l : iL52_3 → Option oL52_3) : Prop := ∀ nt a b, l a = some b → LoopAt Try.prog nt 0 ann52 Try.f52 3 (encL52_3 a) (retL52_3 b)
noncomputable def u52_3 {R : Type} (sh : Sh) (l52_3 : iL52_3 → Option oL52_3) (x1 : Rows) (x2 : Int) (x3 : Rows) (x4 : Rows) (k : oL52_3 → Option R) : Option R :=
  sh ((↑(List.length x1) : Int)) fun y3 =>
  bif Decidable.decide (x2 < y3) then
    bif Decidable.decide ((0 : Int) ≤ x2 ∧ x2 < (↑(List.length x1) : Int)) then
      bif Go.Ev.roomE Go.Proofs.Try.prog (5 : Nat) (List.length x4 + List.length (Go.Ev.colD (Go.Ev.mapD Go.IntKind.u8 (Go.Ev.rowI x1 (Int.toNat x2) (32 : Nat))))) then
        sh (x4 ++ Go.Ev.colD (Go.Ev.mapD Go.IntKind.u8 (Go.Ev.rowI x1 (Int.toNat x2) (32 : Nat))) : Rows) fun y4 =>
        (l52_3 (x1, Go.IntKind.wrap Go.IntKind.i64 (x2 + (1 : Int)), x3, y4)).bind k
      else none
    else none
  else
    k ((x3, x4))
theorem u52_3_eq {R : Type} (sh : Sh) (hsh : ∀ {α R : Type} (x : α) (K : α → Option R), sh x K = K x) (l52_3 : iL52_3 → Option oL52_3) (x1 : Rows) (x2 : Int) (x3 : Rows) (x4 : Rows) (K : Ex → CSt → Option R) : roundK Try.prog (tabO sh hsh br52 ar52 []) (tabL [entL52_3 l52_3]) ann52 0 Try.f52 3 (encL52_3 (x1, x2, x3, x4)) K = u52_3 sh l52_3 x1 x2 x3 x4 (retKL52_3 K) := by kernel_rfl
theorem u52_3_law {R : Type} (l52_3 : iL52_3 → Option oL52_3) (x1 : Rows) (x2 : Int) (x3 : Rows) (x4 : Rows) (K : oL52_3 → Option R) : u52_3 sh0 l52_3 x1 x2 x3 x4 K = (u52_3 sh0 l52_3 x1 x2 x3 x4 some).bind K := by
  simp only [u52_3, sh0, cond_bind', two_bind, none_bind', Option.bind_assoc, Option.bind_some]
theorem okL52_3 (l52_3 : iL52_3 → Option oL52_3) (hl52_3 : SdL52_3 l52_3) : SdL52_3 (fun a => u52_3 sh0 l52_3 a.1 a.2.1 a.2.2.1 a.2.2.2 some) := by
  intro nt a b h
  refine round_ok (sh := sh0) (hsh := fun _ _ => rfl) (br := br52) (ar := ar52) Try.mixed (by kernel_rfl) .nil (.cons (mkLEnt_ok (hl52_3 nt)) .nil) ((u52_3_eq sh0 (fun _ _ => rfl) l52_3  a.1 a.2.1 a.2.2.1 a.2.2.2 _).trans ?_)
  rw [u52_3_law]
  simp only at h
  rw [h, Option.bind_some, retKL52_3_eq]
noncomputable def t52 {R : Type} (sh : Sh) (f47 : i47 → Option o47) (l52_3 : iL52_3 → Option oL52_3) (x1 : Rows) (k : o52 → Option R) : Option R :=
  sh (List.replicate (32 : Nat) [Go.Ev.DL.int Go.IntKind.u8 (0 : Int)] : Rows) fun y1 =>
  sh ([] : Rows) fun y2 =>
  (l52_3 (x1, (0 : Int), y1, y2)).bind fun (r5 : Rows × Rows) =>
  (f47 ((393 : Int), Prod.snd r5)).bind fun (r6 : List Int) =>
  bif Decidable.decide (List.length (Prod.fst r5) = (32 : Nat)) then
    sh (Go.Ev.colD (Go.Ev.mapD Go.IntKind.u8 (Go.Ev.pkL r6 (32 : Nat))) : Rows) fun y7 =>
    bif Decidable.decide (List.length y7 = (32 : Nat)) then
      k (Go.Ev.colI y7 (32 : Nat))
    else none
  else none
theorem t52_eq {R : Type} (sh : Sh) (hsh : ∀ {α R : Type} (x : α) (K : α → Option R), sh x K = K x) (f47 : i47 → Option o47) (l52_3 : iL52_3 → Option oL52_3) (x1 : Rows) (K : CSt → Option R) : bodyK Try.prog (tabO sh hsh br52 ar52 [ent47 f47]) (tabL [entL52_3 l52_3]) ann52 false Try.f52 (enc52 x1) K = t52 sh f47 l52_3 x1 (retK52 K) := by kernel_rfl
theorem t52_law {R : Type} (f47 : i47 → Option o47) (l52_3 : iL52_3 → Option oL52_3) (x1 : Rows) (K : o52 → Option R) : t52 sh0 f47 l52_3 x1 K = (t52 sh0 f47 l52_3 x1 some).bind K := by
  simp only [t52, sh0, cond_bind', two_bind, none_bind', Option.bind_assoc, Option.bind_some]
theorem ok52 (f47 : i47 → Option o47) (l52_3 : iL52_3 → Option oL52_3) (hf47 : Sd47 f47) (hl52_3 : SdL52_3 l52_3) : Sd52 (fun a => t52 sh0 f47 l52_3 a some) := by
  intro a b h
  refine call_ok (sh := sh0) (hsh := fun _ _ => rfl) (br := br52) (ar := ar52) (own := false) Try.mixed Try.func52 (by kernel_rfl) (.cons (mkEnt_ok hf47) .nil) (fun nt => (.cons (mkLEnt_ok (hl52_3 nt)) .nil)) ((t52_eq sh0 (fun _ _ => rfl) f47 l52_3 a _).trans ?_)
  rw [t52_law]
  simp only at h
  rw [h, Option.bind_some, retK52_eq]

/-! 32 erasure/signature.Verify -/
abbrev i32 : Type := List Int × Rows × Int × Rows × Int × Int × Rows
def enc32 : i32 → CSt := fun a => ([Go.Ev.SV.agg (Go.Ev.pkS Go.IntKind.u8 a.1 (32 : Nat)), Go.Ev.SV.one (Go.Ev.SL.d (Go.Ev.DL.lst (5 : Nat) a.2.1)), Go.Ev.SV.agg [Go.Ev.SL.d (Go.Ev.DL.int Go.IntKind.i64 a.2.2.1), Go.Ev.SL.d (Go.Ev.DL.lst (25 : Nat) a.2.2.2.1), Go.Ev.SL.d (Go.Ev.DL.int Go.IntKind.i64 a.2.2.2.2.1), Go.Ev.SL.d (Go.Ev.DL.int Go.IntKind.i64 a.2.2.2.2.2.1), Go.Ev.SL.d (Go.Ev.DL.lst (25 : Nat) a.2.2.2.2.2.2)]], [])
def dec32 : (c : CSt) → Option { a : i32 // c = enc32 a }
  | ([Go.Ev.SV.agg [Go.Ev.SL.d (Go.Ev.DL.int Go.IntKind.u8 x1_0), Go.Ev.SL.d (Go.Ev.DL.int Go.IntKind.u8 x1_1), Go.Ev.SL.d (Go.Ev.DL.int Go.IntKind.u8 x1_2), Go.Ev.SL.d (Go.Ev.DL.int Go.IntKind.u8 x1_3), Go.Ev.SL.d (Go.Ev.DL.int Go.IntKind.u8 x1_4), Go.Ev.SL.d (Go.Ev.DL.int Go.IntKind.u8 x1_5), Go.Ev.SL.d (Go.Ev.DL.int Go.IntKind.u8 x1_6), Go.Ev.SL.d (Go.Ev.DL.int Go.IntKind.u8 x1_7), Go.Ev.SL.d (Go.Ev.DL.int Go.IntKind.u8 x1_8), Go.Ev.SL.d (Go.Ev.DL.int Go.IntKind.u8 x1_9), Go.Ev.SL.d (Go.Ev.DL.int Go.IntKind.u8 x1_10), Go.Ev.SL.d (Go.Ev.DL.int Go.IntKind.u8 x1_11), Go.Ev.SL.d (Go.Ev.DL.int Go.IntKind.u8 x1_12), Go.Ev.SL.d (Go.Ev.DL.int Go.IntKind.u8 x1_13), Go.Ev.SL.d (Go.Ev.DL.int Go.IntKind.u8 x1_14), Go.Ev.SL.d (Go.Ev.DL.int Go.IntKind.u8 x1_15), Go.Ev.SL.d (Go.Ev.DL.int Go.IntKind.u8 x1_16), Go.Ev.SL.d (Go.Ev.DL.int Go.IntKind.u8 x1_17), Go.Ev.SL.d (Go.Ev.DL.int Go.IntKind.u8 x1_18), Go.Ev.SL.d (Go.Ev.DL.int Go.IntKind.u8 x1_19), Go.Ev.SL.d (Go.Ev.DL.int Go.IntKind.u8 x1_20), Go.Ev.SL.d (Go.Ev.DL.int Go.IntKind.u8 x1_21), Go.Ev.SL.d (Go.Ev.DL.int Go.IntKind.u8 x1_22), Go.Ev.SL.d (Go.Ev.DL.int Go.IntKind.u8 x1_23), Go.Ev.SL.d (Go.Ev.DL.int Go.IntKind.u8 x1_24), Go.Ev.SL.d (Go.Ev.DL.int Go.IntKind.u8 x1_25), Go.Ev.SL.d (Go.Ev.DL.int Go.IntKind.u8 x1_26), Go.Ev.SL.d (Go.Ev.DL.int Go.IntKind.u8 x1_27), Go.Ev.SL.d (Go.Ev.DL.int Go.IntKind.u8 x1_28), Go.Ev.SL.d (Go.Ev.DL.int Go.IntKind.u8 x1_29), Go.Ev.SL.d (Go.Ev.DL.int Go.IntKind.u8 x1_30), Go.Ev.SL.d (Go.Ev.DL.int Go.IntKind.u8 x1_31)], Go.Ev.SV.one (Go.Ev.SL.d (Go.Ev.DL.lst (5 : Nat) x2)), Go.Ev.SV.agg [Go.Ev.SL.d (Go.Ev.DL.int Go.IntKind.i64 x3), Go.Ev.SL.d (Go.Ev.DL.lst (25 : Nat) x4), Go.Ev.SL.d (Go.Ev.DL.int Go.IntKind.i64 x5), Go.Ev.SL.d (Go.Ev.DL.int Go.IntKind.i64 x6), Go.Ev.SL.d (Go.Ev.DL.lst (25 : Nat) x7)]], []) => some ⟨([x1_0, x1_1, x1_2, x1_3, x1_4, x1_5, x1_6, x1_7, x1_8, x1_9, x1_10, x1_11, x1_12, x1_13, x1_14, x1_15, x1_16, x1_17, x1_18, x1_19, x1_20, x1_21, x1_22, x1_23, x1_24, x1_25, x1_26, x1_27, x1_28, x1_29, x1_30, x1_31], x2, x3, x4, x5, x6, x7), rfl⟩
  | _ => none
abbrev o32 : Type := Bool
def ret32 : o32 → CSt := fun b => ([Go.Ev.SV.one (Go.Ev.SL.d (Go.Ev.DL.bool b))], [])
def retK32 {R : Type} (K : CSt → Option R) : o32 → Option R := fun b => K (([Go.Ev.SV.one (Go.Ev.SL.d (Go.Ev.DL.bool b))], []))
theorem retK32_eq {R : Type} (K : CSt → Option R) (b : o32) : retK32 K b = K (ret32 b) := rfl
abbrev Sd32 (f : i32 → Option o32) : Prop := ∀ a b, f a = some b → CallOk Try.prog 32 (enc32 a) (ret32 b)
def ent32 (f : i32 → Option o32) : Ent := mkEnt 32 dec32 ret32 retK32 retK32_eq f
def ann32 : Nat → List Nat × List Nat := fun id => bif Nat.beq id 6 then ([3, 5, 7, 8, 9], [3, 5, 8]) else ([], [])
def br32 : FuncId → Bool := fun (g : Nat) => ([67, 72] : List Nat).any (Nat.beq g)
def ar32 : TypeId → Bool := fun (t : Nat) => ([24, 25, 79, 82] : List Nat).any (Nat.beq t)
abbrev iL32_6 : Type := Rows × Int × Rows × Int × Rows × Int × Int × Rows × Rows
def encL32_6 : iL32_6 → CSt := fun a => ([Go.Ev.SV.one (Go.Ev.SL.ept (0 : Nat) (0 : Nat) (0 : Nat)), Go.Ev.SV.one (Go.Ev.SL.ptr (1 : Nat) (0 : Nat)), Go.Ev.SV.one (Go.Ev.SL.d (Go.Ev.DL.lst (3 : Nat) a.1)), Go.Ev.SV.one (Go.Ev.SL.vr (2 : Nat)), Go.Ev.SV.one (Go.Ev.SL.d (Go.Ev.DL.int Go.IntKind.i64 a.2.1))], [Go.Ev.Obj.vec (5 : Nat) Bool.false a.2.2.1, Go.Ev.Obj.box (49 : Nat) [Go.Ev.SL.d (Go.Ev.DL.int Go.IntKind.i64 a.2.2.2.1), Go.Ev.SL.d (Go.Ev.DL.lst (25 : Nat) a.2.2.2.2.1), Go.Ev.SL.d (Go.Ev.DL.int Go.IntKind.i64 a.2.2.2.2.2.1), Go.Ev.SL.d (Go.Ev.DL.int Go.IntKind.i64 a.2.2.2.2.2.2.1), Go.Ev.SL.d (Go.Ev.DL.lst (25 : Nat) a.2.2.2.2.2.2.2.1)], Go.Ev.Obj.vec (25 : Nat) Bool.false a.2.2.2.2.2.2.2.2])
def decL32_6 : (c : CSt) → Option { a : iL32_6 // c = encL32_6 a }
  | ([Go.Ev.SV.one (Go.Ev.SL.ept (0 : Nat) (0 : Nat) (0 : Nat)), Go.Ev.SV.one (Go.Ev.SL.ptr (1 : Nat) (0 : Nat)), Go.Ev.SV.one (Go.Ev.SL.d (Go.Ev.DL.lst (3 : Nat) x1)), Go.Ev.SV.one (Go.Ev.SL.vr (2 : Nat)), Go.Ev.SV.one (Go.Ev.SL.d (Go.Ev.DL.int Go.IntKind.i64 x2))], [Go.Ev.Obj.vec (5 : Nat) Bool.false x3, Go.Ev.Obj.box (49 : Nat) [Go.Ev.SL.d (Go.Ev.DL.int Go.IntKind.i64 x4), Go.Ev.SL.d (Go.Ev.DL.lst (25 : Nat) x5), Go.Ev.SL.d (Go.Ev.DL.int Go.IntKind.i64 x6), Go.Ev.SL.d (Go.Ev.DL.int Go.IntKind.i64 x7), Go.Ev.SL.d (Go.Ev.DL.lst (25 : Nat) x8)], Go.Ev.Obj.vec (25 : Nat) Bool.false x9]) => some ⟨(x1, x2, x3, x4, x5, x6, x7, x8, x9), rfl⟩
  | _ => none
abbrev oL32_6 : Type := Rows × Int × Rows × Int × Int × Rows × Rows
def retL32_6 : oL32_6 → Ex × CSt := fun b => (Go.Ev.Ex.exit (0 : Nat), ([Go.Ev.SV.one (Go.Ev.SL.ept (0 : Nat) (0 : Nat) (0 : Nat)), Go.Ev.SV.one (Go.Ev.SL.ptr (1 : Nat) (0 : Nat)), Go.Ev.SV.one (Go.Ev.SL.vr (2 : Nat))], [Go.Ev.Obj.vec (5 : Nat) Bool.false b.1, Go.Ev.Obj.box (49 : Nat) [Go.Ev.SL.d (Go.Ev.DL.int Go.IntKind.i64 b.2.1), Go.Ev.SL.d (Go.Ev.DL.lst (25 : Nat) b.2.2.1), Go.Ev.SL.d (Go.Ev.DL.int Go.IntKind.i64 b.2.2.2.1), Go.Ev.SL.d (Go.Ev.DL.int Go.IntKind.i64 b.2.2.2.2.1), Go.Ev.SL.d (Go.Ev.DL.lst (25 : Nat) b.2.2.2.2.2.1)], Go.Ev.Obj.vec (25 : Nat) Bool.false b.2.2.2.2.2.2]))
def retKL32_6 {R : Type} (K : Ex → CSt → Option R) : oL32_6 → Option R := fun b => K (Go.Ev.Ex.exit (0 : Nat)) (([Go.Ev.SV.one (Go.Ev.SL.ept (0 : Nat) (0 : Nat) (0 : Nat)), Go.Ev.SV.one (Go.Ev.SL.ptr (1 : Nat) (0 : Nat)), Go.Ev.SV.one (Go.Ev.SL.vr (2 : Nat))], [Go.Ev.Obj.vec (5 : Nat) Bool.false b.1, Go.Ev.Obj.box (49 : Nat) [Go.Ev.SL.d (Go.Ev.DL.int Go.IntKind.i64 b.2.1), Go.Ev.SL.d (Go.Ev.DL.lst (25 : Nat) b.2.2.1), Go.Ev.SL.d (Go.Ev.DL.int Go.IntKind.i64 b.2.2.2.1), Go.Ev.SL.d (Go.Ev.DL.int Go.IntKind.i64 b.2.2.2.2.1), Go.Ev.SL.d (Go.Ev.DL.lst (25 : Nat) b.2.2.2.2.2.1)], Go.Ev.Obj.vec (25 : Nat) Bool.false b.2.2.2.2.2.2]))
theorem retKL32_6_eq {R : Type} (K : Ex → CSt → Option R) (b : oL32_6) : retKL32_6 K b = K (retL32_6 b).1 (retL32_6 b).2 := rfl
def entL32_6 (l : iL32_6 → Option oL32_6) : LEnt := mkLEnt 6 decL32_6 retL32_6 retKL32_6 retKL32_6_eq l
abbrev SdL32_6 (l : iL32_6 → Option oL32_6) : Prop := ∀ nt a b, l a = some b → LoopAt Try.prog nt 0 ann32 Try.f32 6 (encL32_6 a) (retL32_6 b)
noncomputable def u32_6 {R : Type} (sh : Sh) (f51 : i51 → Option o51) (l32_6 : iL32_6 → Option oL32_6) (x1 : Rows) (x2 : Int) (x3 : Rows) (x4 : Int) (x5 : Rows) (x6 : Int) (x7 : Int) (x8 : Rows) (x9 : Rows) (k : oL32_6 → Option R) : Option R :=
  bif Decidable.decide (x2 < (35 : Int)) then
    bif Decidable.decide ((0 : Int) ≤ x2 ∧ x2 < (↑(List.length x5) : Int)) then
      bif Decidable.decide ((0 : Int) ≤ x2 ∧ x2 < (↑(List.length x1) : Int)) then
        sh (Go.Ev.DL.getI (Go.Ev.cellAt x1 (Int.toNat x2) (0 : Nat))) fun y5 =>
        (f51 (Go.Ev.rowI x5 (Int.toNat x2) (32 : Nat), Go.IntKind.wrap Go.IntKind.i64 ((15 : Int) - y5))).bind fun (r6 : List Int) =>
        sh ([Go.Ev.mapD Go.IntKind.u8 (Go.Ev.pkL r6 (32 : Nat))] : Rows) fun y7 =>
        bif Go.Ev.roomE Go.Proofs.Try.prog (25 : Nat) (List.length x9 + List.length y7) then
          sh (x9 ++ y7 : Rows) fun y8 =>
          (l32_6 (x1, Go.IntKind.wrap Go.IntKind.i64 (x2 + (1 : Int)), x3, x4, x5, x6, x7, x8, y8)).bind k
        else none
      else none
    else none
  else
    k ((x3, x4, x5, x6, x7, x8, x9))
theorem u32_6_eq {R : Type} (sh : Sh) (hsh : ∀ {α R : Type} (x : α) (K : α → Option R), sh x K = K x) (f51 : i51 → Option o51) (l32_6 : iL32_6 → Option oL32_6) (x1 : Rows) (x2 : Int) (x3 : Rows) (x4 : Int) (x5 : Rows) (x6 : Int) (x7 : Int) (x8 : Rows) (x9 : Rows) (K : Ex → CSt → Option R) : roundK Try.prog (tabO sh hsh br32 ar32 [ent51 f51]) (tabL [entL32_6 l32_6]) ann32 0 Try.f32 6 (encL32_6 (x1, x2, x3, x4, x5, x6, x7, x8, x9)) K = u32_6 sh f51 l32_6 x1 x2 x3 x4 x5 x6 x7 x8 x9 (retKL32_6 K) := by kernel_rfl
theorem u32_6_law {R : Type} (f51 : i51 → Option o51) (l32_6 : iL32_6 → Option oL32_6) (x1 : Rows) (x2 : Int) (x3 : Rows) (x4 : Int) (x5 : Rows) (x6 : Int) (x7 : Int) (x8 : Rows) (x9 : Rows) (K : oL32_6 → Option R) : u32_6 sh0 f51 l32_6 x1 x2 x3 x4 x5 x6 x7 x8 x9 K = (u32_6 sh0 f51 l32_6 x1 x2 x3 x4 x5 x6 x7 x8 x9 some).bind K := by
  simp only [u32_6, sh0, cond_bind', two_bind, none_bind', Option.bind_assoc, Option.bind_some]
theorem okL32_6 (f51 : i51 → Option o51) (l32_6 : iL32_6 → Option oL32_6) (hf51 : Sd51 f51) (hl32_6 : SdL32_6 l32_6) : SdL32_6 (fun a => u32_6 sh0 f51 l32_6 a.1 a.2.1 a.2.2.1 a.2.2.2.1 a.2.2.2.2.1 a.2.2.2.2.2.1 a.2.2.2.2.2.2.1 a.2.2.2.2.2.2.2.1 a.2.2.2.2.2.2.2.2 some) := by
  intro nt a b h
  refine round_ok (sh := sh0) (hsh := fun _ _ => rfl) (br := br32) (ar := ar32) Try.mixed (by kernel_rfl) (.cons (mkEnt_ok hf51) .nil) (.cons (mkLEnt_ok (hl32_6 nt)) .nil) ((u32_6_eq sh0 (fun _ _ => rfl) f51 l32_6  a.1 a.2.1 a.2.2.1 a.2.2.2.1 a.2.2.2.2.1 a.2.2.2.2.2.1 a.2.2.2.2.2.2.1 a.2.2.2.2.2.2.2.1 a.2.2.2.2.2.2.2.2 _).trans ?_)
  rw [u32_6_law]
  simp only at h
  rw [h, Option.bind_some, retKL32_6_eq]
noncomputable def t32 {R : Type} (sh : Sh) (f29 : i29 → Option o29) (f52 : i52 → Option o52) (f27 : i27 → Option o27) (l32_6 : iL32_6 → Option oL32_6) (x1 : List Int) (x2 : Rows) (x3 : Int) (x4 : Rows) (x5 : Int) (x6 : Int) (x7 : Rows) (k : o32 → Option R) : Option R :=
  sh (Go.Ev.colD (Go.Ev.mapD Go.IntKind.u8 (Go.Ev.pkL x1 (32 : Nat))) : Rows) fun y1 =>
  sh ((↑(List.length x4) : Int)) fun y2 =>
  bif y2 != (35 : Int) then
    k (Bool.false)
  else
    bif x5 != x3 then
      k (Bool.false)
    else
      bif x6 != (4 : Int) then
        k (Bool.false)
      else
        (f29 (x2)).bind fun (r3 : Rows) =>
        sh ([] : Rows) fun y4 =>
        (l32_6 (r3, (0 : Int), y1, x3, x4, x5, x6, x7, y4)).bind fun (r9 : Rows × Int × Rows × Int × Int × Rows × Rows) =>
        bif Decidable.decide (List.length (Prod.fst r9) = (32 : Nat)) then
          (f52 (Prod.snd (Prod.snd (Prod.snd (Prod.snd (Prod.snd r9)))).2)).bind fun (r10 : List Int) =>
          (f27 (Go.Ev.colI (Prod.fst r9) (32 : Nat), Go.Ev.pkL r10 (32 : Nat), Prod.fst (Prod.snd (Prod.snd r9)).2, Prod.fst (Prod.snd (Prod.snd (Prod.snd r9))).2, Prod.fst (Prod.snd (Prod.snd (Prod.snd (Prod.snd r9)))).2)).bind fun (r11 : Bool) =>
          k (r11)
        else none
theorem t32_eq {R : Type} (sh : Sh) (hsh : ∀ {α R : Type} (x : α) (K : α → Option R), sh x K = K x) (f29 : i29 → Option o29) (f52 : i52 → Option o52) (f27 : i27 → Option o27) (l32_6 : iL32_6 → Option oL32_6) (x1 : List Int) (x2 : Rows) (x3 : Int) (x4 : Rows) (x5 : Int) (x6 : Int) (x7 : Rows) (K : CSt → Option R) : bodyK Try.prog (tabO sh hsh br32 ar32 [ent29 f29, ent52 f52, ent27 f27]) (tabL [entL32_6 l32_6]) ann32 false Try.f32 (enc32 (x1, x2, x3, x4, x5, x6, x7)) K = t32 sh f29 f52 f27 l32_6 x1 x2 x3 x4 x5 x6 x7 (retK32 K) := by kernel_rfl
theorem t32_law {R : Type} (f29 : i29 → Option o29) (f52 : i52 → Option o52) (f27 : i27 → Option o27) (l32_6 : iL32_6 → Option oL32_6) (x1 : List Int) (x2 : Rows) (x3 : Int) (x4 : Rows) (x5 : Int) (x6 : Int) (x7 : Rows) (K : o32 → Option R) : t32 sh0 f29 f52 f27 l32_6 x1 x2 x3 x4 x5 x6 x7 K = (t32 sh0 f29 f52 f27 l32_6 x1 x2 x3 x4 x5 x6 x7 some).bind K := by
  simp only [t32, sh0, cond_bind', two_bind, none_bind', Option.bind_assoc, Option.bind_some]
theorem ok32 (f29 : i29 → Option o29) (f52 : i52 → Option o52) (f27 : i27 → Option o27) (l32_6 : iL32_6 → Option oL32_6) (hf29 : Sd29 f29) (hf52 : Sd52 f52) (hf27 : Sd27 f27) (hl32_6 : SdL32_6 l32_6) : Sd32 (fun a => t32 sh0 f29 f52 f27 l32_6 a.1 a.2.1 a.2.2.1 a.2.2.2.1 a.2.2.2.2.1 a.2.2.2.2.2.1 a.2.2.2.2.2.2 some) := by
  intro a b h
  refine call_ok (sh := sh0) (hsh := fun _ _ => rfl) (br := br32) (ar := ar32) (own := false) Try.mixed Try.func32 (by kernel_rfl) (.cons (mkEnt_ok hf29) (.cons (mkEnt_ok hf52) (.cons (mkEnt_ok hf27) .nil))) (fun nt => (.cons (mkLEnt_ok (hl32_6 nt)) .nil)) ((t32_eq sh0 (fun _ _ => rfl) f29 f52 f27 l32_6 a.1 a.2.1 a.2.2.1 a.2.2.2.1 a.2.2.2.2.1 a.2.2.2.2.2.1 a.2.2.2.2.2.2 _).trans ?_)
  rw [t32_law]
  simp only at h
  rw [h, Option.bind_some, retK32_eq]

/-! 53 erasure/erasureref39.links -/
abbrev i53 : Type := List Int × Int
def enc53 : i53 → CSt := fun a => ([Go.Ev.SV.agg (Go.Ev.pkS Go.IntKind.u8 a.1 (32 : Nat)), Go.Ev.SV.one (Go.Ev.SL.d (Go.Ev.DL.int Go.IntKind.i64 a.2))], [])
def dec53 : (c : CSt) → Option { a : i53 // c = enc53 a }
  | ([Go.Ev.SV.agg [Go.Ev.SL.d (Go.Ev.DL.int Go.IntKind.u8 x1_0), Go.Ev.SL.d (Go.Ev.DL.int Go.IntKind.u8 x1_1), Go.Ev.SL.d (Go.Ev.DL.int Go.IntKind.u8 x1_2), Go.Ev.SL.d (Go.Ev.DL.int Go.IntKind.u8 x1_3), Go.Ev.SL.d (Go.Ev.DL.int Go.IntKind.u8 x1_4), Go.Ev.SL.d (Go.Ev.DL.int Go.IntKind.u8 x1_5), Go.Ev.SL.d (Go.Ev.DL.int Go.IntKind.u8 x1_6), Go.Ev.SL.d (Go.Ev.DL.int Go.IntKind.u8 x1_7), Go.Ev.SL.d (Go.Ev.DL.int Go.IntKind.u8 x1_8), Go.Ev.SL.d (Go.Ev.DL.int Go.IntKind.u8 x1_9), Go.Ev.SL.d (Go.Ev.DL.int Go.IntKind.u8 x1_10), Go.Ev.SL.d (Go.Ev.DL.int Go.IntKind.u8 x1_11), Go.Ev.SL.d (Go.Ev.DL.int Go.IntKind.u8 x1_12), Go.Ev.SL.d (Go.Ev.DL.int Go.IntKind.u8 x1_13), Go.Ev.SL.d (Go.Ev.DL.int Go.IntKind.u8 x1_14), Go.Ev.SL.d (Go.Ev.DL.int Go.IntKind.u8 x1_15), Go.Ev.SL.d (Go.Ev.DL.int Go.IntKind.u8 x1_16), Go.Ev.SL.d (Go.Ev.DL.int Go.IntKind.u8 x1_17), Go.Ev.SL.d (Go.Ev.DL.int Go.IntKind.u8 x1_18), Go.Ev.SL.d (Go.Ev.DL.int Go.IntKind.u8 x1_19), Go.Ev.SL.d (Go.Ev.DL.int Go.IntKind.u8 x1_20), Go.Ev.SL.d (Go.Ev.DL.int Go.IntKind.u8 x1_21), Go.Ev.SL.d (Go.Ev.DL.int Go.IntKind.u8 x1_22), Go.Ev.SL.d (Go.Ev.DL.int Go.IntKind.u8 x1_23), Go.Ev.SL.d (Go.Ev.DL.int Go.IntKind.u8 x1_24), Go.Ev.SL.d (Go.Ev.DL.int Go.IntKind.u8 x1_25), Go.Ev.SL.d (Go.Ev.DL.int Go.IntKind.u8 x1_26), Go.Ev.SL.d (Go.Ev.DL.int Go.IntKind.u8 x1_27), Go.Ev.SL.d (Go.Ev.DL.int Go.IntKind.u8 x1_28), Go.Ev.SL.d (Go.Ev.DL.int Go.IntKind.u8 x1_29), Go.Ev.SL.d (Go.Ev.DL.int Go.IntKind.u8 x1_30), Go.Ev.SL.d (Go.Ev.DL.int Go.IntKind.u8 x1_31)], Go.Ev.SV.one (Go.Ev.SL.d (Go.Ev.DL.int Go.IntKind.i64 x2))], []) => some ⟨([x1_0, x1_1, x1_2, x1_3, x1_4, x1_5, x1_6, x1_7, x1_8, x1_9, x1_10, x1_11, x1_12, x1_13, x1_14, x1_15, x1_16, x1_17, x1_18, x1_19, x1_20, x1_21, x1_22, x1_23, x1_24, x1_25, x1_26, x1_27, x1_28, x1_29, x1_30, x1_31], x2), rfl⟩
  | _ => none
abbrev o53 : Type := List Int
def ret53 : o53 → CSt := fun b => ([Go.Ev.SV.agg (Go.Ev.pkS Go.IntKind.u8 b (32 : Nat))], [])
def retK53 {R : Type} (K : CSt → Option R) : o53 → Option R := fun b => K (([Go.Ev.SV.agg (Go.Ev.pkS Go.IntKind.u8 b (32 : Nat))], []))
theorem retK53_eq {R : Type} (K : CSt → Option R) (b : o53) : retK53 K b = K (ret53 b) := rfl
abbrev Sd53 (f : i53 → Option o53) : Prop := ∀ a b, f a = some b → CallOk Try.prog 53 (enc53 a) (ret53 b)
def ent53 (f : i53 → Option o53) : Ent := mkEnt 53 dec53 ret53 retK53 retK53_eq f
def ann53 : Nat → List Nat × List Nat := fun id => bif Nat.beq id 2 then ([1, 2, 4, 5], [2, 4]) else ([], [])
def br53 : FuncId → Bool := fun (g : Nat) => ([67, 72] : List Nat).any (Nat.beq g)
def ar53 : TypeId → Bool := fun (t : Nat) => ([24, 25, 79, 82] : List Nat).any (Nat.beq t)
abbrev iL53_2 : Type := Int × Int × Rows × Rows
def encL53_2 : iL53_2 → CSt := fun a => ([Go.Ev.SV.one (Go.Ev.SL.d (Go.Ev.DL.int Go.IntKind.i64 a.1)), Go.Ev.SV.one (Go.Ev.SL.ept (0 : Nat) (0 : Nat) (0 : Nat)), Go.Ev.SV.one (Go.Ev.SL.ept (1 : Nat) (0 : Nat) (0 : Nat)), Go.Ev.SV.one (Go.Ev.SL.d (Go.Ev.DL.int Go.IntKind.i64 a.2.1))], [Go.Ev.Obj.vec (5 : Nat) Bool.false a.2.2.1, Go.Ev.Obj.vec (5 : Nat) Bool.false a.2.2.2])
def decL53_2 : (c : CSt) → Option { a : iL53_2 // c = encL53_2 a }
  | ([Go.Ev.SV.one (Go.Ev.SL.d (Go.Ev.DL.int Go.IntKind.i64 x1)), Go.Ev.SV.one (Go.Ev.SL.ept (0 : Nat) (0 : Nat) (0 : Nat)), Go.Ev.SV.one (Go.Ev.SL.ept (1 : Nat) (0 : Nat) (0 : Nat)), Go.Ev.SV.one (Go.Ev.SL.d (Go.Ev.DL.int Go.IntKind.i64 x2))], [Go.Ev.Obj.vec (5 : Nat) Bool.false x3, Go.Ev.Obj.vec (5 : Nat) Bool.false x4]) => some ⟨(x1, x2, x3, x4), rfl⟩
  | _ => none
abbrev oL53_2 : Type := Rows × Rows
def retL53_2 : oL53_2 → Ex × CSt := fun b => (Go.Ev.Ex.exit (0 : Nat), ([Go.Ev.SV.one (Go.Ev.SL.ept (0 : Nat) (0 : Nat) (0 : Nat)), Go.Ev.SV.one (Go.Ev.SL.ept (1 : Nat) (0 : Nat) (0 : Nat))], [Go.Ev.Obj.vec (5 : Nat) Bool.false b.1, Go.Ev.Obj.vec (5 : Nat) Bool.false b.2]))
def retKL53_2 {R : Type} (K : Ex → CSt → Option R) : oL53_2 → Option R := fun b => K (Go.Ev.Ex.exit (0 : Nat)) (([Go.Ev.SV.one (Go.Ev.SL.ept (0 : Nat) (0 : Nat) (0 : Nat)), Go.Ev.SV.one (Go.Ev.SL.ept (1 : Nat) (0 : Nat) (0 : Nat))], [Go.Ev.Obj.vec (5 : Nat) Bool.false b.1, Go.Ev.Obj.vec (5 : Nat) Bool.false b.2]))
theorem retKL53_2_eq {R : Type} (K : Ex → CSt → Option R) (b : oL53_2) : retKL53_2 K b = K (retL53_2 b).1 (retL53_2 b).2 := rfl
def entL53_2 (l : iL53_2 → Option oL53_2) : LEnt := mkLEnt 2 decL53_2 retL53_2 retKL53_2 retKL53_2_eq l
abbrev SdL53_2 (l : iL53_2 → Option oL53_2) : Prop := ∀ nt a b, l a = some b → LoopAt Try.prog nt 0 ann53 Try.f53 2 (encL53_2 a) (retL53_2 b)
noncomputable def u53_2 {R : Type} (sh : Sh) (f63 : i63 → Option o63) (l53_2 : iL53_2 → Option oL53_2) (x1 : Int) (x2 : Int) (x3 : Rows) (x4 : Rows) (k : oL53_2 → Option R) : Option R :=
  bif Decidable.decide (x2 < x1) then
    bif Decidable.decide (List.length x3 = (32 : Nat)) then
      (f63 ((392 : Int), Go.Ev.colI x3 (32 : Nat), [])).bind fun (r3 : List Int) =>
      bif Decidable.decide (List.length x3 = (32 : Nat)) then
        sh (Go.Ev.colD (Go.Ev.mapD Go.IntKind.u8 (Go.Ev.pkL r3 (32 : Nat))) : Rows) fun y4 =>
        (l53_2 (x1, Go.IntKind.wrap Go.IntKind.i64 (x2 + (1 : Int)), y4, x4)).bind k
      else none
    else none
  else
    k ((x3, x4))
theorem u53_2_eq {R : Type} (sh : Sh) (hsh : ∀ {α R : Type} (x : α) (K : α → Option R), sh x K = K x) (f63 : i63 → Option o63) (l53_2 : iL53_2 → Option oL53_2) (x1 : Int) (x2 : Int) (x3 : Rows) (x4 : Rows) (K : Ex → CSt → Option R) : roundK Try.prog (tabO sh hsh br53 ar53 [ent63 f63]) (tabL [entL53_2 l53_2]) ann53 0 Try.f53 2 (encL53_2 (x1, x2, x3, x4)) K = u53_2 sh f63 l53_2 x1 x2 x3 x4 (retKL53_2 K) := by kernel_rfl
theorem u53_2_law {R : Type} (f63 : i63 → Option o63) (l53_2 : iL53_2 → Option oL53_2) (x1 : Int) (x2 : Int) (x3 : Rows) (x4 : Rows) (K : oL53_2 → Option R) : u53_2 sh0 f63 l53_2 x1 x2 x3 x4 K = (u53_2 sh0 f63 l53_2 x1 x2 x3 x4 some).bind K := by
  simp only [u53_2, sh0, cond_bind', two_bind, none_bind', Option.bind_assoc, Option.bind_some]
theorem okL53_2 (f63 : i63 → Option o63) (l53_2 : iL53_2 → Option oL53_2) (hf63 : Sd63 f63) (hl53_2 : SdL53_2 l53_2) : SdL53_2 (fun a => u53_2 sh0 f63 l53_2 a.1 a.2.1 a.2.2.1 a.2.2.2 some) := by
  intro nt a b h
  refine round_ok (sh := sh0) (hsh := fun _ _ => rfl) (br := br53) (ar := ar53) Try.mixed (by kernel_rfl) (.cons (mkEnt_ok hf63) .nil) (.cons (mkLEnt_ok (hl53_2 nt)) .nil) ((u53_2_eq sh0 (fun _ _ => rfl) f63 l53_2  a.1 a.2.1 a.2.2.1 a.2.2.2 _).trans ?_)
  rw [u53_2_law]
  simp only at h
  rw [h, Option.bind_some, retKL53_2_eq]
noncomputable def t53 {R : Type} (sh : Sh) (l53_2 : iL53_2 → Option oL53_2) (x1 : List Int) (x2 : Int) (k : o53 → Option R) : Option R :=
  sh (Go.Ev.colD (Go.Ev.mapD Go.IntKind.u8 (Go.Ev.pkL x1 (32 : Nat))) : Rows) fun y1 =>
  sh (List.replicate (32 : Nat) [Go.Ev.DL.int Go.IntKind.u8 (0 : Int)] : Rows) fun y2 =>
  (l53_2 (x2, (0 : Int), y1, y2)).bind fun (r5 : Rows × Rows) =>
  bif Decidable.decide (List.length (Prod.fst r5) = (32 : Nat)) then
    bif Decidable.decide (List.length (Prod.snd r5) = (32 : Nat)) then
      sh (Go.Ev.colD (Go.Ev.mapD Go.IntKind.u8 (Go.Ev.colI (Prod.fst r5) (32 : Nat))) : Rows) fun y6 =>
      bif Decidable.decide (List.length y6 = (32 : Nat)) then
        k (Go.Ev.colI y6 (32 : Nat))
      else none
    else none
  else none
theorem t53_eq {R : Type} (sh : Sh) (hsh : ∀ {α R : Type} (x : α) (K : α → Option R), sh x K = K x) (l53_2 : iL53_2 → Option oL53_2) (x1 : List Int) (x2 : Int) (K : CSt → Option R) : bodyK Try.prog (tabO sh hsh br53 ar53 []) (tabL [entL53_2 l53_2]) ann53 false Try.f53 (enc53 (x1, x2)) K = t53 sh l53_2 x1 x2 (retK53 K) := by kernel_rfl
theorem t53_law {R : Type} (l53_2 : iL53_2 → Option oL53_2) (x1 : List Int) (x2 : Int) (K : o53 → Option R) : t53 sh0 l53_2 x1 x2 K = (t53 sh0 l53_2 x1 x2 some).bind K := by
  simp only [t53, sh0, cond_bind', two_bind, none_bind', Option.bind_assoc, Option.bind_some]
theorem ok53 (l53_2 : iL53_2 → Option oL53_2) (hl53_2 : SdL53_2 l53_2) : Sd53 (fun a => t53 sh0 l53_2 a.1 a.2 some) := by
  intro a b h
  refine call_ok (sh := sh0) (hsh := fun _ _ => rfl) (br := br53) (ar := ar53) (own := false) Try.mixed Try.func53 (by kernel_rfl) .nil (fun nt => (.cons (mkLEnt_ok (hl53_2 nt)) .nil)) ((t53_eq sh0 (fun _ _ => rfl) l53_2 a.1 a.2 _).trans ?_)
  rw [t53_law]
  simp only at h
  rw [h, Option.bind_some, retK53_eq]

/-! 55 erasure/erasureref39.leaf -/
abbrev i55 : Type := Rows
def enc55 : i55 → CSt := fun a => ([Go.Ev.SV.one (Go.Ev.SL.d (Go.Ev.DL.lst (25 : Nat) a))], [])
def dec55 : (c : CSt) → Option { a : i55 // c = enc55 a }
  | ([Go.Ev.SV.one (Go.Ev.SL.d (Go.Ev.DL.lst (25 : Nat) x1))], []) => some ⟨x1, rfl⟩
  | _ => none
abbrev o55 : Type := List Int
def ret55 : o55 → CSt := fun b => ([Go.Ev.SV.agg (Go.Ev.pkS Go.IntKind.u8 b (32 : Nat))], [])
def retK55 {R : Type} (K : CSt → Option R) : o55 → Option R := fun b => K (([Go.Ev.SV.agg (Go.Ev.pkS Go.IntKind.u8 b (32 : Nat))], []))
theorem retK55_eq {R : Type} (K : CSt → Option R) (b : o55) : retK55 K b = K (ret55 b) := rfl
abbrev Sd55 (f : i55 → Option o55) : Prop := ∀ a b, f a = some b → CallOk Try.prog 55 (enc55 a) (ret55 b)
def ent55 (f : i55 → Option o55) : Ent := mkEnt 55 dec55 ret55 retK55 retK55_eq f
def ann55 : Nat → List Nat × List Nat := fun id => bif Nat.beq id 3 then ([0, 2, 3, 4], [2, 3]) else ([], [])
def br55 : FuncId → Bool := fun (g : Nat) => ([67, 72] : List Nat).any (Nat.beq g)
def ar55 : TypeId → Bool := fun (t : Nat) => ([24, 25, 79, 82] : List Nat).any (Nat.beq t)
abbrev iL55_3 : Type := Rows × Int × Rows × Rows
def encL55_3 : iL55_3 → CSt := fun a => ([Go.Ev.SV.one (Go.Ev.SL.d (Go.Ev.DL.lst (25 : Nat) a.1)), Go.Ev.SV.one (Go.Ev.SL.ept (0 : Nat) (0 : Nat) (0 : Nat)), Go.Ev.SV.one (Go.Ev.SL.vr (1 : Nat)), Go.Ev.SV.one (Go.Ev.SL.d (Go.Ev.DL.int Go.IntKind.i64 a.2.1))], [Go.Ev.Obj.vec (5 : Nat) Bool.false a.2.2.1, Go.Ev.Obj.vec (5 : Nat) Bool.false a.2.2.2])
def decL55_3 : (c : CSt) → Option { a : iL55_3 // c = encL55_3 a }
  | ([Go.Ev.SV.one (Go.Ev.SL.d (Go.Ev.DL.lst (25 : Nat) x1)), Go.Ev.SV.one (Go.Ev.SL.ept (0 : Nat) (0 : Nat) (0 : Nat)), Go.Ev.SV.one (Go.Ev.SL.vr (1 : Nat)), Go.Ev.SV.one (Go.Ev.SL.d (Go.Ev.DL.int Go.IntKind.i64 x2))], [Go.Ev.Obj.vec (5 : Nat) Bool.false x3, Go.Ev.Obj.vec (5 : Nat) Bool.false x4]) => some ⟨(x1, x2, x3, x4), rfl⟩
  | _ => none
abbrev oL55_3 : Type := Rows × Rows
def retL55_3 : oL55_3 → Ex × CSt := fun b => (Go.Ev.Ex.exit (0 : Nat), ([Go.Ev.SV.one (Go.Ev.SL.ept (0 : Nat) (0 : Nat) (0 : Nat)), Go.Ev.SV.one (Go.Ev.SL.vr (1 : Nat))], [Go.Ev.Obj.vec (5 : Nat) Bool.false b.1, Go.Ev.Obj.vec (5 : Nat) Bool.false b.2]))
def retKL55_3 {R : Type} (K : Ex → CSt → Option R) : oL55_3 → Option R := fun b => K (Go.Ev.Ex.exit (0 : Nat)) (([Go.Ev.SV.one (Go.Ev.SL.ept (0 : Nat) (0 : Nat) (0 : Nat)), Go.Ev.SV.one (Go.Ev.SL.vr (1 : Nat))], [Go.Ev.Obj.vec (5 : Nat) Bool.false b.1, Go.Ev.Obj.vec (5 : Nat) Bool.false b.2]))
theorem retKL55_3_eq {R : Type} (K : Ex → CSt → Option R) (b : oL55_3) : retKL55_3 K b = K (retL55_3 b).1 (retL55_3 b).2 := rfl
def entL55_3 (l : iL55_3 → Option oL55_3) : LEnt := mkLEnt 3 decL55_3 retL55_3 retKL55_3 retKL55_3_eq l
abbrev SdL55_3 (l : iL55_3 → Option oL55_3) : Prop := ∀ nt a b, l a = some b → LoopAt Try.prog nt 0 ann55 Try.f55 3 (encL55_3 a) (retL55_3 b)
noncomputable def u55_3 {R : Type} (sh : Sh) (f71 : i71 → Option o71) (l55_3 : iL55_3 → Option oL55_3) (x1 : Rows) (x2 : Int) (x3 : Rows) (x4 : Rows) (k : oL55_3 → Option R) : Option R :=
  sh ((↑(List.length x1) : Int)) fun y3 =>
  bif Decidable.decide (x2 < y3) then
    bif Decidable.decide ((0 : Int) ≤ x2 ∧ x2 < (↑(List.length x1) : Int)) then
      (f71 (Go.Ev.rowI x1 (Int.toNat x2) (32 : Nat))).bind fun (r4 : Rows) =>
      bif Go.Ev.roomE Go.Proofs.Try.prog (5 : Nat) (List.length x4 + List.length r4) then
        sh (x4 ++ r4 : Rows) fun y5 =>
        (l55_3 (x1, Go.IntKind.wrap Go.IntKind.i64 (x2 + (1 : Int)), x3, y5)).bind k
      else none
    else none
  else
    k ((x3, x4))
theorem u55_3_eq {R : Type} (sh : Sh) (hsh : ∀ {α R : Type} (x : α) (K : α → Option R), sh x K = K x) (f71 : i71 → Option o71) (l55_3 : iL55_3 → Option oL55_3) (x1 : Rows) (x2 : Int) (x3 : Rows) (x4 : Rows) (K : Ex → CSt → Option R) : roundK Try.prog (tabO sh hsh br55 ar55 [ent71 f71]) (tabL [entL55_3 l55_3]) ann55 0 Try.f55 3 (encL55_3 (x1, x2, x3, x4)) K = u55_3 sh f71 l55_3 x1 x2 x3 x4 (retKL55_3 K) := by kernel_rfl
theorem u55_3_law {R : Type} (f71 : i71 → Option o71) (l55_3 : iL55_3 → Option oL55_3) (x1 : Rows) (x2 : Int) (x3 : Rows) (x4 : Rows) (K : oL55_3 → Option R) : u55_3 sh0 f71 l55_3 x1 x2 x3 x4 K = (u55_3 sh0 f71 l55_3 x1 x2 x3 x4 some).bind K := by
  simp only [u55_3, sh0, cond_bind', two_bind, none_bind', Option.bind_assoc, Option.bind_some]
theorem okL55_3 (f71 : i71 → Option o71) (l55_3 : iL55_3 → Option oL55_3) (hf71 : Sd71 f71) (hl55_3 : SdL55_3 l55_3) : SdL55_3 (fun a => u55_3 sh0 f71 l55_3 a.1 a.2.1 a.2.2.1 a.2.2.2 some) := by
  intro nt a b h
  refine round_ok (sh := sh0) (hsh := fun _ _ => rfl) (br := br55) (ar := ar55) Try.mixed (by kernel_rfl) (.cons (mkEnt_ok hf71) .nil) (.cons (mkLEnt_ok (hl55_3 nt)) .nil) ((u55_3_eq sh0 (fun _ _ => rfl) f71 l55_3  a.1 a.2.1 a.2.2.1 a.2.2.2 _).trans ?_)
  rw [u55_3_law]
  simp only at h
  rw [h, Option.bind_some, retKL55_3_eq]
noncomputable def t55 {R : Type} (sh : Sh) (f50 : i50 → Option o50) (l55_3 : iL55_3 → Option oL55_3) (x1 : Rows) (k : o55 → Option R) : Option R :=
  sh (List.replicate (32 : Nat) [Go.Ev.DL.int Go.IntKind.u8 (0 : Int)] : Rows) fun y1 =>
  sh ([] : Rows) fun y2 =>
  (l55_3 (x1, (0 : Int), y1, y2)).bind fun (r6 : Rows × Rows) =>
  (f50 ((393 : Int), Prod.snd r6)).bind fun (r7 : List Int) =>
  bif Decidable.decide (List.length (Prod.fst r6) = (32 : Nat)) then
    sh (Go.Ev.colD (Go.Ev.mapD Go.IntKind.u8 (Go.Ev.pkL r7 (32 : Nat))) : Rows) fun y8 =>
    bif Decidable.decide (List.length y8 = (32 : Nat)) then
      k (Go.Ev.colI y8 (32 : Nat))
    else none
  else none
theorem t55_eq {R : Type} (sh : Sh) (hsh : ∀ {α R : Type} (x : α) (K : α → Option R), sh x K = K x) (f50 : i50 → Option o50) (l55_3 : iL55_3 → Option oL55_3) (x1 : Rows) (K : CSt → Option R) : bodyK Try.prog (tabO sh hsh br55 ar55 [ent50 f50]) (tabL [entL55_3 l55_3]) ann55 false Try.f55 (enc55 x1) K = t55 sh f50 l55_3 x1 (retK55 K) := by kernel_rfl
theorem t55_law {R : Type} (f50 : i50 → Option o50) (l55_3 : iL55_3 → Option oL55_3) (x1 : Rows) (K : o55 → Option R) : t55 sh0 f50 l55_3 x1 K = (t55 sh0 f50 l55_3 x1 some).bind K := by
  simp only [t55, sh0, cond_bind', two_bind, none_bind', Option.bind_assoc, Option.bind_some]
theorem ok55 (f50 : i50 → Option o50) (l55_3 : iL55_3 → Option oL55_3) (hf50 : Sd50 f50) (hl55_3 : SdL55_3 l55_3) : Sd55 (fun a => t55 sh0 f50 l55_3 a some) := by
  intro a b h
  refine call_ok (sh := sh0) (hsh := fun _ _ => rfl) (br := br55) (ar := ar55) (own := false) Try.mixed Try.func55 (by kernel_rfl) (.cons (mkEnt_ok hf50) .nil) (fun nt => (.cons (mkLEnt_ok (hl55_3 nt)) .nil)) ((t55_eq sh0 (fun _ _ => rfl) f50 l55_3 a _).trans ?_)
  rw [t55_law]
  simp only at h
  rw [h, Option.bind_some, retK55_eq]

/-! 33 erasure/erasureref39.Verify -/
abbrev i33 : Type := List Int × Rows × Int × Rows × Int × Int × Rows
def enc33 : i33 → CSt := fun a => ([Go.Ev.SV.agg (Go.Ev.pkS Go.IntKind.u8 a.1 (32 : Nat)), Go.Ev.SV.one (Go.Ev.SL.d (Go.Ev.DL.lst (5 : Nat) a.2.1)), Go.Ev.SV.agg [Go.Ev.SL.d (Go.Ev.DL.int Go.IntKind.i64 a.2.2.1), Go.Ev.SL.d (Go.Ev.DL.lst (25 : Nat) a.2.2.2.1), Go.Ev.SL.d (Go.Ev.DL.int Go.IntKind.i64 a.2.2.2.2.1), Go.Ev.SL.d (Go.Ev.DL.int Go.IntKind.i64 a.2.2.2.2.2.1), Go.Ev.SL.d (Go.Ev.DL.lst (25 : Nat) a.2.2.2.2.2.2)]], [])
def dec33 : (c : CSt) → Option { a : i33 // c = enc33 a }
  | ([Go.Ev.SV.agg [Go.Ev.SL.d (Go.Ev.DL.int Go.IntKind.u8 x1_0), Go.Ev.SL.d (Go.Ev.DL.int Go.IntKind.u8 x1_1), Go.Ev.SL.d (Go.Ev.DL.int Go.IntKind.u8 x1_2), Go.Ev.SL.d (Go.Ev.DL.int Go.IntKind.u8 x1_3), Go.Ev.SL.d (Go.Ev.DL.int Go.IntKind.u8 x1_4), Go.Ev.SL.d (Go.Ev.DL.int Go.IntKind.u8 x1_5), Go.Ev.SL.d (Go.Ev.DL.int Go.IntKind.u8 x1_6), Go.Ev.SL.d (Go.Ev.DL.int Go.IntKind.u8 x1_7), Go.Ev.SL.d (Go.Ev.DL.int Go.IntKind.u8 x1_8), Go.Ev.SL.d (Go.Ev.DL.int Go.IntKind.u8 x1_9), Go.Ev.SL.d (Go.Ev.DL.int Go.IntKind.u8 x1_10), Go.Ev.SL.d (Go.Ev.DL.int Go.IntKind.u8 x1_11), Go.Ev.SL.d (Go.Ev.DL.int Go.IntKind.u8 x1_12), Go.Ev.SL.d (Go.Ev.DL.int Go.IntKind.u8 x1_13), Go.Ev.SL.d (Go.Ev.DL.int Go.IntKind.u8 x1_14), Go.Ev.SL.d (Go.Ev.DL.int Go.IntKind.u8 x1_15), Go.Ev.SL.d (Go.Ev.DL.int Go.IntKind.u8 x1_16), Go.Ev.SL.d (Go.Ev.DL.int Go.IntKind.u8 x1_17), Go.Ev.SL.d (Go.Ev.DL.int Go.IntKind.u8 x1_18), Go.Ev.SL.d (Go.Ev.DL.int Go.IntKind.u8 x1_19), Go.Ev.SL.d (Go.Ev.DL.int Go.IntKind.u8 x1_20), Go.Ev.SL.d (Go.Ev.DL.int Go.IntKind.u8 x1_21), Go.Ev.SL.d (Go.Ev.DL.int Go.IntKind.u8 x1_22), Go.Ev.SL.d (Go.Ev.DL.int Go.IntKind.u8 x1_23), Go.Ev.SL.d (Go.Ev.DL.int Go.IntKind.u8 x1_24), Go.Ev.SL.d (Go.Ev.DL.int Go.IntKind.u8 x1_25), Go.Ev.SL.d (Go.Ev.DL.int Go.IntKind.u8 x1_26), Go.Ev.SL.d (Go.Ev.DL.int Go.IntKind.u8 x1_27), Go.Ev.SL.d (Go.Ev.DL.int Go.IntKind.u8 x1_28), Go.Ev.SL.d (Go.Ev.DL.int Go.IntKind.u8 x1_29), Go.Ev.SL.d (Go.Ev.DL.int Go.IntKind.u8 x1_30), Go.Ev.SL.d (Go.Ev.DL.int Go.IntKind.u8 x1_31)], Go.Ev.SV.one (Go.Ev.SL.d (Go.Ev.DL.lst (5 : Nat) x2)), Go.Ev.SV.agg [Go.Ev.SL.d (Go.Ev.DL.int Go.IntKind.i64 x3), Go.Ev.SL.d (Go.Ev.DL.lst (25 : Nat) x4), Go.Ev.SL.d (Go.Ev.DL.int Go.IntKind.i64 x5), Go.Ev.SL.d (Go.Ev.DL.int Go.IntKind.i64 x6), Go.Ev.SL.d (Go.Ev.DL.lst (25 : Nat) x7)]], []) => some ⟨([x1_0, x1_1, x1_2, x1_3, x1_4, x1_5, x1_6, x1_7, x1_8, x1_9, x1_10, x1_11, x1_12, x1_13, x1_14, x1_15, x1_16, x1_17, x1_18, x1_19, x1_20, x1_21, x1_22, x1_23, x1_24, x1_25, x1_26, x1_27, x1_28, x1_29, x1_30, x1_31], x2, x3, x4, x5, x6, x7), rfl⟩
  | _ => none
abbrev o33 : Type := Bool
def ret33 : o33 → CSt := fun b => ([Go.Ev.SV.one (Go.Ev.SL.d (Go.Ev.DL.bool b))], [])
def retK33 {R : Type} (K : CSt → Option R) : o33 → Option R := fun b => K (([Go.Ev.SV.one (Go.Ev.SL.d (Go.Ev.DL.bool b))], []))
theorem retK33_eq {R : Type} (K : CSt → Option R) (b : o33) : retK33 K b = K (ret33 b) := rfl
abbrev Sd33 (f : i33 → Option o33) : Prop := ∀ a b, f a = some b → CallOk Try.prog 33 (enc33 a) (ret33 b)
def ent33 (f : i33 → Option o33) : Ent := mkEnt 33 dec33 ret33 retK33 retK33_eq f
def ann33 : Nat → List Nat × List Nat := fun id => bif Nat.beq id 6 then ([3, 5, 7, 8, 9], [3, 5, 8]) else ([], [])
def br33 : FuncId → Bool := fun (g : Nat) => ([67, 72] : List Nat).any (Nat.beq g)
def ar33 : TypeId → Bool := fun (t : Nat) => ([24, 25, 79, 82] : List Nat).any (Nat.beq t)
abbrev iL33_6 : Type := Rows × Int × Rows × Int × Rows × Int × Int × Rows × Rows
def encL33_6 : iL33_6 → CSt := fun a => ([Go.Ev.SV.one (Go.Ev.SL.ept (0 : Nat) (0 : Nat) (0 : Nat)), Go.Ev.SV.one (Go.Ev.SL.ptr (1 : Nat) (0 : Nat)), Go.Ev.SV.one (Go.Ev.SL.d (Go.Ev.DL.lst (3 : Nat) a.1)), Go.Ev.SV.one (Go.Ev.SL.vr (2 : Nat)), Go.Ev.SV.one (Go.Ev.SL.d (Go.Ev.DL.int Go.IntKind.i64 a.2.1))], [Go.Ev.Obj.vec (5 : Nat) Bool.false a.2.2.1, Go.Ev.Obj.box (49 : Nat) [Go.Ev.SL.d (Go.Ev.DL.int Go.IntKind.i64 a.2.2.2.1), Go.Ev.SL.d (Go.Ev.DL.lst (25 : Nat) a.2.2.2.2.1), Go.Ev.SL.d (Go.Ev.DL.int Go.IntKind.i64 a.2.2.2.2.2.1), Go.Ev.SL.d (Go.Ev.DL.int Go.IntKind.i64 a.2.2.2.2.2.2.1), Go.Ev.SL.d (Go.Ev.DL.lst (25 : Nat) a.2.2.2.2.2.2.2.1)], Go.Ev.Obj.vec (25 : Nat) Bool.false a.2.2.2.2.2.2.2.2])
def decL33_6 : (c : CSt) → Option { a : iL33_6 // c = encL33_6 a }
  | ([Go.Ev.SV.one (Go.Ev.SL.ept (0 : Nat) (0 : Nat) (0 : Nat)), Go.Ev.SV.one (Go.Ev.SL.ptr (1 : Nat) (0 : Nat)), Go.Ev.SV.one (Go.Ev.SL.d (Go.Ev.DL.lst (3 : Nat) x1)), Go.Ev.SV.one (Go.Ev.SL.vr (2 : Nat)), Go.Ev.SV.one (Go.Ev.SL.d (Go.Ev.DL.int Go.IntKind.i64 x2))], [Go.Ev.Obj.vec (5 : Nat) Bool.false x3, Go.Ev.Obj.box (49 : Nat) [Go.Ev.SL.d (Go.Ev.DL.int Go.IntKind.i64 x4), Go.Ev.SL.d (Go.Ev.DL.lst (25 : Nat) x5), Go.Ev.SL.d (Go.Ev.DL.int Go.IntKind.i64 x6), Go.Ev.SL.d (Go.Ev.DL.int Go.IntKind.i64 x7), Go.Ev.SL.d (Go.Ev.DL.lst (25 : Nat) x8)], Go.Ev.Obj.vec (25 : Nat) Bool.false x9]) => some ⟨(x1, x2, x3, x4, x5, x6, x7, x8, x9), rfl⟩
  | _ => none
abbrev oL33_6 : Type := Rows × Int × Rows × Int × Int × Rows × Rows
def retL33_6 : oL33_6 → Ex × CSt := fun b => (Go.Ev.Ex.exit (0 : Nat), ([Go.Ev.SV.one (Go.Ev.SL.ept (0 : Nat) (0 : Nat) (0 : Nat)), Go.Ev.SV.one (Go.Ev.SL.ptr (1 : Nat) (0 : Nat)), Go.Ev.SV.one (Go.Ev.SL.vr (2 : Nat))], [Go.Ev.Obj.vec (5 : Nat) Bool.false b.1, Go.Ev.Obj.box (49 : Nat) [Go.Ev.SL.d (Go.Ev.DL.int Go.IntKind.i64 b.2.1), Go.Ev.SL.d (Go.Ev.DL.lst (25 : Nat) b.2.2.1), Go.Ev.SL.d (Go.Ev.DL.int Go.IntKind.i64 b.2.2.2.1), Go.Ev.SL.d (Go.Ev.DL.int Go.IntKind.i64 b.2.2.2.2.1), Go.Ev.SL.d (Go.Ev.DL.lst (25 : Nat) b.2.2.2.2.2.1)], Go.Ev.Obj.vec (25 : Nat) Bool.false b.2.2.2.2.2.2]))
def retKL33_6 {R : Type} (K : Ex → CSt → Option R) : oL33_6 → Option R := fun b => K (Go.Ev.Ex.exit (0 : Nat)) (([Go.Ev.SV.one (Go.Ev.SL.ept (0 : Nat) (0 : Nat) (0 : Nat)), Go.Ev.SV.one (Go.Ev.SL.ptr (1 : Nat) (0 : Nat)), Go.Ev.SV.one (Go.Ev.SL.vr (2 : Nat))], [Go.Ev.Obj.vec (5 : Nat) Bool.false b.1, Go.Ev.Obj.box (49 : Nat) [Go.Ev.SL.d (Go.Ev.DL.int Go.IntKind.i64 b.2.1), Go.Ev.SL.d (Go.Ev.DL.lst (25 : Nat) b.2.2.1), Go.Ev.SL.d (Go.Ev.DL.int Go.IntKind.i64 b.2.2.2.1), Go.Ev.SL.d (Go.Ev.DL.int Go.IntKind.i64 b.2.2.2.2.1), Go.Ev.SL.d (Go.Ev.DL.lst (25 : Nat) b.2.2.2.2.2.1)], Go.Ev.Obj.vec (25 : Nat) Bool.false b.2.2.2.2.2.2]))
theorem retKL33_6_eq {R : Type} (K : Ex → CSt → Option R) (b : oL33_6) : retKL33_6 K b = K (retL33_6 b).1 (retL33_6 b).2 := rfl
def entL33_6 (l : iL33_6 → Option oL33_6) : LEnt := mkLEnt 6 decL33_6 retL33_6 retKL33_6 retKL33_6_eq l
abbrev SdL33_6 (l : iL33_6 → Option oL33_6) : Prop := ∀ nt a b, l a = some b → LoopAt Try.prog nt 0 ann33 Try.f33 6 (encL33_6 a) (retL33_6 b)
noncomputable def u33_6 {R : Type} (sh : Sh) (f53 : i53 → Option o53) (l33_6 : iL33_6 → Option oL33_6) (x1 : Rows) (x2 : Int) (x3 : Rows) (x4 : Int) (x5 : Rows) (x6 : Int) (x7 : Int) (x8 : Rows) (x9 : Rows) (k : oL33_6 → Option R) : Option R :=
  bif Decidable.decide (x2 < (35 : Int)) then
    bif Decidable.decide ((0 : Int) ≤ x2 ∧ x2 < (↑(List.length x5) : Int)) then
      bif Decidable.decide ((0 : Int) ≤ x2 ∧ x2 < (↑(List.length x1) : Int)) then
        sh (Go.Ev.DL.getI (Go.Ev.cellAt x1 (Int.toNat x2) (0 : Nat))) fun y5 =>
        (f53 (Go.Ev.rowI x5 (Int.toNat x2) (32 : Nat), Go.IntKind.wrap Go.IntKind.i64 ((15 : Int) - y5))).bind fun (r6 : List Int) =>
        sh ([Go.Ev.mapD Go.IntKind.u8 (Go.Ev.pkL r6 (32 : Nat))] : Rows) fun y7 =>
        bif Go.Ev.roomE Go.Proofs.Try.prog (25 : Nat) (List.length x9 + List.length y7) then
          sh (x9 ++ y7 : Rows) fun y8 =>
          (l33_6 (x1, Go.IntKind.wrap Go.IntKind.i64 (x2 + (1 : Int)), x3, x4, x5, x6, x7, x8, y8)).bind k
        else none
      else none
    else none
  else
    k ((x3, x4, x5, x6, x7, x8, x9))
theorem u33_6_eq {R : Type} (sh : Sh) (hsh : ∀ {α R : Type} (x : α) (K : α → Option R), sh x K = K x) (f53 : i53 → Option o53) (l33_6 : iL33_6 → Option oL33_6) (x1 : Rows) (x2 : Int) (x3 : Rows) (x4 : Int) (x5 : Rows) (x6 : Int) (x7 : Int) (x8 : Rows) (x9 : Rows) (K : Ex → CSt → Option R) : roundK Try.prog (tabO sh hsh br33 ar33 [ent53 f53]) (tabL [entL33_6 l33_6]) ann33 0 Try.f33 6 (encL33_6 (x1, x2, x3, x4, x5, x6, x7, x8, x9)) K = u33_6 sh f53 l33_6 x1 x2 x3 x4 x5 x6 x7 x8 x9 (retKL33_6 K) := by kernel_rfl
theorem u33_6_law {R : Type} (f53 : i53 → Option o53) (l33_6 : iL33_6 → Option oL33_6) (x1 : Rows) (x2 : Int) (x3 : Rows) (x4 : Int) (x5 : Rows) (x6 : Int) (x7 : Int) (x8 : Rows) (x9 : Rows) (K : oL33_6 → Option R) : u33_6 sh0 f53 l33_6 x1 x2 x3 x4 x5 x6 x7 x8 x9 K = (u33_6 sh0 f53 l33_6 x1 x2 x3 x4 x5 x6 x7 x8 x9 some).bind K := by
  simp only [u33_6, sh0, cond_bind', two_bind, none_bind', Option.bind_assoc, Option.bind_some]
theorem okL33_6 (f53 : i53 → Option o53) (l33_6 : iL33_6 → Option oL33_6) (hf53 : Sd53 f53) (hl33_6 : SdL33_6 l33_6) : SdL33_6 (fun a => u33_6 sh0 f53 l33_6 a.1 a.2.1 a.2.2.1 a.2.2.2.1 a.2.2.2.2.1 a.2.2.2.2.2.1 a.2.2.2.2.2.2.1 a.2.2.2.2.2.2.2.1 a.2.2.2.2.2.2.2.2 some) := by
  intro nt a b h
  refine round_ok (sh := sh0) (hsh := fun _ _ => rfl) (br := br33) (ar := ar33) Try.mixed (by kernel_rfl) (.cons (mkEnt_ok hf53) .nil) (.cons (mkLEnt_ok (hl33_6 nt)) .nil) ((u33_6_eq sh0 (fun _ _ => rfl) f53 l33_6  a.1 a.2.1 a.2.2.1 a.2.2.2.1 a.2.2.2.2.1 a.2.2.2.2.2.1 a.2.2.2.2.2.2.1 a.2.2.2.2.2.2.2.1 a.2.2.2.2.2.2.2.2 _).trans ?_)
  rw [u33_6_law]
  simp only at h
  rw [h, Option.bind_some, retKL33_6_eq]
noncomputable def t33 {R : Type} (sh : Sh) (f31 : i31 → Option o31) (f55 : i55 → Option o55) (f54 : i54 → Option o54) (l33_6 : iL33_6 → Option oL33_6) (x1 : List Int) (x2 : Rows) (x3 : Int) (x4 : Rows) (x5 : Int) (x6 : Int) (x7 : Rows) (k : o33 → Option R) : Option R :=
  sh (Go.Ev.colD (Go.Ev.mapD Go.IntKind.u8 (Go.Ev.pkL x1 (32 : Nat))) : Rows) fun y1 =>
  sh ((↑(List.length x4) : Int)) fun y2 =>
  bif y2 != (35 : Int) then
    k (Bool.false)
  else
    bif x5 != x3 then
      k (Bool.false)
    else
      bif x6 != (4 : Int) then
        k (Bool.false)
      else
        (f31 (x2)).bind fun (r3 : Rows) =>
        sh ([] : Rows) fun y4 =>
        (l33_6 (r3, (0 : Int), y1, x3, x4, x5, x6, x7, y4)).bind fun (r9 : Rows × Int × Rows × Int × Int × Rows × Rows) =>
        bif Decidable.decide (List.length (Prod.fst r9) = (32 : Nat)) then
          (f55 (Prod.snd (Prod.snd (Prod.snd (Prod.snd (Prod.snd r9)))).2)).bind fun (r10 : List Int) =>
          (f54 (Go.Ev.colI (Prod.fst r9) (32 : Nat), Go.Ev.pkL r10 (32 : Nat), Prod.fst (Prod.snd (Prod.snd r9)).2, Prod.fst (Prod.snd (Prod.snd (Prod.snd r9))).2, Prod.fst (Prod.snd (Prod.snd (Prod.snd (Prod.snd r9)))).2)).bind fun (r11 : Bool) =>
          k (r11)
        else none
theorem t33_eq {R : Type} (sh : Sh) (hsh : ∀ {α R : Type} (x : α) (K : α → Option R), sh x K = K x) (f31 : i31 → Option o31) (f55 : i55 → Option o55) (f54 : i54 → Option o54) (l33_6 : iL33_6 → Option oL33_6) (x1 : List Int) (x2 : Rows) (x3 : Int) (x4 : Rows) (x5 : Int) (x6 : Int) (x7 : Rows) (K : CSt → Option R) : bodyK Try.prog (tabO sh hsh br33 ar33 [ent31 f31, ent55 f55, ent54 f54]) (tabL [entL33_6 l33_6]) ann33 false Try.f33 (enc33 (x1, x2, x3, x4, x5, x6, x7)) K = t33 sh f31 f55 f54 l33_6 x1 x2 x3 x4 x5 x6 x7 (retK33 K) := by kernel_rfl
theorem t33_law {R : Type} (f31 : i31 → Option o31) (f55 : i55 → Option o55) (f54 : i54 → Option o54) (l33_6 : iL33_6 → Option oL33_6) (x1 : List Int) (x2 : Rows) (x3 : Int) (x4 : Rows) (x5 : Int) (x6 : Int) (x7 : Rows) (K : o33 → Option R) : t33 sh0 f31 f55 f54 l33_6 x1 x2 x3 x4 x5 x6 x7 K = (t33 sh0 f31 f55 f54 l33_6 x1 x2 x3 x4 x5 x6 x7 some).bind K := by
  simp only [t33, sh0, cond_bind', two_bind, none_bind', Option.bind_assoc, Option.bind_some]
theorem ok33 (f31 : i31 → Option o31) (f55 : i55 → Option o55) (f54 : i54 → Option o54) (l33_6 : iL33_6 → Option oL33_6) (hf31 : Sd31 f31) (hf55 : Sd55 f55) (hf54 : Sd54 f54) (hl33_6 : SdL33_6 l33_6) : Sd33 (fun a => t33 sh0 f31 f55 f54 l33_6 a.1 a.2.1 a.2.2.1 a.2.2.2.1 a.2.2.2.2.1 a.2.2.2.2.2.1 a.2.2.2.2.2.2 some) := by
  intro a b h
  refine call_ok (sh := sh0) (hsh := fun _ _ => rfl) (br := br33) (ar := ar33) (own := false) Try.mixed Try.func33 (by kernel_rfl) (.cons (mkEnt_ok hf31) (.cons (mkEnt_ok hf55) (.cons (mkEnt_ok hf54) .nil))) (fun nt => (.cons (mkLEnt_ok (hl33_6 nt)) .nil)) ((t33_eq sh0 (fun _ _ => rfl) f31 f55 f54 l33_6 a.1 a.2.1 a.2.2.1 a.2.2.2.1 a.2.2.2.2.1 a.2.2.2.2.2.1 a.2.2.2.2.2.2 _).trans ?_)
  rw [t33_law]
  simp only at h
  rw [h, Option.bind_some, retK33_eq]

/-! 56 erasure/erasureref39.begin -/
abbrev i56 : Type := List Int × Int × Int
def enc56 : i56 → CSt := fun a => ([Go.Ev.SV.agg (Go.Ev.pkS Go.IntKind.u8 a.1 (32 : Nat)), Go.Ev.SV.one (Go.Ev.SL.d (Go.Ev.DL.int Go.IntKind.i64 a.2.1)), Go.Ev.SV.one (Go.Ev.SL.d (Go.Ev.DL.int Go.IntKind.i64 a.2.2))], [])
def dec56 : (c : CSt) → Option { a : i56 // c = enc56 a }
  | ([Go.Ev.SV.agg [Go.Ev.SL.d (Go.Ev.DL.int Go.IntKind.u8 x1_0), Go.Ev.SL.d (Go.Ev.DL.int Go.IntKind.u8 x1_1), Go.Ev.SL.d (Go.Ev.DL.int Go.IntKind.u8 x1_2), Go.Ev.SL.d (Go.Ev.DL.int Go.IntKind.u8 x1_3), Go.Ev.SL.d (Go.Ev.DL.int Go.IntKind.u8 x1_4), Go.Ev.SL.d (Go.Ev.DL.int Go.IntKind.u8 x1_5), Go.Ev.SL.d (Go.Ev.DL.int Go.IntKind.u8 x1_6), Go.Ev.SL.d (Go.Ev.DL.int Go.IntKind.u8 x1_7), Go.Ev.SL.d (Go.Ev.DL.int Go.IntKind.u8 x1_8), Go.Ev.SL.d (Go.Ev.DL.int Go.IntKind.u8 x1_9), Go.Ev.SL.d (Go.Ev.DL.int Go.IntKind.u8 x1_10), Go.Ev.SL.d (Go.Ev.DL.int Go.IntKind.u8 x1_11), Go.Ev.SL.d (Go.Ev.DL.int Go.IntKind.u8 x1_12), Go.Ev.SL.d (Go.Ev.DL.int Go.IntKind.u8 x1_13), Go.Ev.SL.d (Go.Ev.DL.int Go.IntKind.u8 x1_14), Go.Ev.SL.d (Go.Ev.DL.int Go.IntKind.u8 x1_15), Go.Ev.SL.d (Go.Ev.DL.int Go.IntKind.u8 x1_16), Go.Ev.SL.d (Go.Ev.DL.int Go.IntKind.u8 x1_17), Go.Ev.SL.d (Go.Ev.DL.int Go.IntKind.u8 x1_18), Go.Ev.SL.d (Go.Ev.DL.int Go.IntKind.u8 x1_19), Go.Ev.SL.d (Go.Ev.DL.int Go.IntKind.u8 x1_20), Go.Ev.SL.d (Go.Ev.DL.int Go.IntKind.u8 x1_21), Go.Ev.SL.d (Go.Ev.DL.int Go.IntKind.u8 x1_22), Go.Ev.SL.d (Go.Ev.DL.int Go.IntKind.u8 x1_23), Go.Ev.SL.d (Go.Ev.DL.int Go.IntKind.u8 x1_24), Go.Ev.SL.d (Go.Ev.DL.int Go.IntKind.u8 x1_25), Go.Ev.SL.d (Go.Ev.DL.int Go.IntKind.u8 x1_26), Go.Ev.SL.d (Go.Ev.DL.int Go.IntKind.u8 x1_27), Go.Ev.SL.d (Go.Ev.DL.int Go.IntKind.u8 x1_28), Go.Ev.SL.d (Go.Ev.DL.int Go.IntKind.u8 x1_29), Go.Ev.SL.d (Go.Ev.DL.int Go.IntKind.u8 x1_30), Go.Ev.SL.d (Go.Ev.DL.int Go.IntKind.u8 x1_31)], Go.Ev.SV.one (Go.Ev.SL.d (Go.Ev.DL.int Go.IntKind.i64 x2)), Go.Ev.SV.one (Go.Ev.SL.d (Go.Ev.DL.int Go.IntKind.i64 x3))], []) => some ⟨([x1_0, x1_1, x1_2, x1_3, x1_4, x1_5, x1_6, x1_7, x1_8, x1_9, x1_10, x1_11, x1_12, x1_13, x1_14, x1_15, x1_16, x1_17, x1_18, x1_19, x1_20, x1_21, x1_22, x1_23, x1_24, x1_25, x1_26, x1_27, x1_28, x1_29, x1_30, x1_31], x2, x3), rfl⟩
  | _ => none
abbrev o56 : Type := List Int
def ret56 : o56 → CSt := fun b => ([Go.Ev.SV.agg (Go.Ev.pkS Go.IntKind.u8 b (32 : Nat))], [])
def retK56 {R : Type} (K : CSt → Option R) : o56 → Option R := fun b => K (([Go.Ev.SV.agg (Go.Ev.pkS Go.IntKind.u8 b (32 : Nat))], []))
theorem retK56_eq {R : Type} (K : CSt → Option R) (b : o56) : retK56 K b = K (ret56 b) := rfl
abbrev Sd56 (f : i56 → Option o56) : Prop := ∀ a b, f a = some b → CallOk Try.prog 56 (enc56 a) (ret56 b)
def ent56 (f : i56 → Option o56) : Ent := mkEnt 56 dec56 ret56 retK56 retK56_eq f
def ann56 : Nat → List Nat × List Nat := fun id => ([], [])
def br56 : FuncId → Bool := fun (g : Nat) => ([67, 72] : List Nat).any (Nat.beq g)
def ar56 : TypeId → Bool := fun (t : Nat) => ([24, 25, 79, 82] : List Nat).any (Nat.beq t)
noncomputable def t56 {R : Type} (sh : Sh) (f64 : i64 → Option o64) (f63 : i63 → Option o63) (x1 : List Int) (x2 : Int) (x3 : Int) (k : o56 → Option R) : Option R :=
  sh (Go.Ev.colD (Go.Ev.mapD Go.IntKind.u8 (Go.Ev.pkL x1 (32 : Nat))) : Rows) fun y1 =>
  sh (List.replicate (32 : Nat) [Go.Ev.DL.int Go.IntKind.u8 (0 : Int)] : Rows) fun y2 =>
  bif Decidable.decide (List.length y1 = (32 : Nat)) then
    (f64 (x2)).bind fun (r3 : Rows) =>
    (f64 (x3)).bind fun (r4 : Rows) =>
    bif Go.Ev.roomE Go.Proofs.Try.prog (5 : Nat) (List.length r3 + List.length r4) then
      sh (r3 ++ r4 : Rows) fun y5 =>
      (f63 ((391 : Int), Go.Ev.colI y1 (32 : Nat), y5)).bind fun (r6 : List Int) =>
      bif Decidable.decide (List.length y2 = (32 : Nat)) then
        sh (Go.Ev.colD (Go.Ev.mapD Go.IntKind.u8 (Go.Ev.pkL r6 (32 : Nat))) : Rows) fun y7 =>
        bif Decidable.decide (List.length y7 = (32 : Nat)) then
          k (Go.Ev.colI y7 (32 : Nat))
        else none
      else none
    else none
  else none
theorem t56_eq {R : Type} (sh : Sh) (hsh : ∀ {α R : Type} (x : α) (K : α → Option R), sh x K = K x) (f64 : i64 → Option o64) (f63 : i63 → Option o63) (x1 : List Int) (x2 : Int) (x3 : Int) (K : CSt → Option R) : bodyK Try.prog (tabO sh hsh br56 ar56 [ent64 f64, ent63 f63]) (tabL []) ann56 false Try.f56 (enc56 (x1, x2, x3)) K = t56 sh f64 f63 x1 x2 x3 (retK56 K) := by kernel_rfl
theorem t56_law {R : Type} (f64 : i64 → Option o64) (f63 : i63 → Option o63) (x1 : List Int) (x2 : Int) (x3 : Int) (K : o56 → Option R) : t56 sh0 f64 f63 x1 x2 x3 K = (t56 sh0 f64 f63 x1 x2 x3 some).bind K := by
  simp only [t56, sh0, cond_bind', two_bind, none_bind', Option.bind_assoc, Option.bind_some]
theorem ok56 (f64 : i64 → Option o64) (f63 : i63 → Option o63) (hf64 : Sd64 f64) (hf63 : Sd63 f63) : Sd56 (fun a => t56 sh0 f64 f63 a.1 a.2.1 a.2.2 some) := by
  intro a b h
  refine call_ok (sh := sh0) (hsh := fun _ _ => rfl) (br := br56) (ar := ar56) (own := false) Try.mixed Try.func56 (by kernel_rfl) (.cons (mkEnt_ok hf64) (.cons (mkEnt_ok hf63) .nil)) (fun nt => .nil) ((t56_eq sh0 (fun _ _ => rfl) f64 f63 a.1 a.2.1 a.2.2 _).trans ?_)
  rw [t56_law]
  simp only at h
  rw [h, Option.bind_some, retK56_eq]

/-! 57 erasure/erasureref39.leaves -/
abbrev i57 : Type := List Int
def enc57 : i57 → CSt := fun a => ([Go.Ev.SV.agg (Go.Ev.pkS Go.IntKind.u8 a (32 : Nat))], [])
def dec57 : (c : CSt) → Option { a : i57 // c = enc57 a }
  | ([Go.Ev.SV.agg [Go.Ev.SL.d (Go.Ev.DL.int Go.IntKind.u8 x1_0), Go.Ev.SL.d (Go.Ev.DL.int Go.IntKind.u8 x1_1), Go.Ev.SL.d (Go.Ev.DL.int Go.IntKind.u8 x1_2), Go.Ev.SL.d (Go.Ev.DL.int Go.IntKind.u8 x1_3), Go.Ev.SL.d (Go.Ev.DL.int Go.IntKind.u8 x1_4), Go.Ev.SL.d (Go.Ev.DL.int Go.IntKind.u8 x1_5), Go.Ev.SL.d (Go.Ev.DL.int Go.IntKind.u8 x1_6), Go.Ev.SL.d (Go.Ev.DL.int Go.IntKind.u8 x1_7), Go.Ev.SL.d (Go.Ev.DL.int Go.IntKind.u8 x1_8), Go.Ev.SL.d (Go.Ev.DL.int Go.IntKind.u8 x1_9), Go.Ev.SL.d (Go.Ev.DL.int Go.IntKind.u8 x1_10), Go.Ev.SL.d (Go.Ev.DL.int Go.IntKind.u8 x1_11), Go.Ev.SL.d (Go.Ev.DL.int Go.IntKind.u8 x1_12), Go.Ev.SL.d (Go.Ev.DL.int Go.IntKind.u8 x1_13), Go.Ev.SL.d (Go.Ev.DL.int Go.IntKind.u8 x1_14), Go.Ev.SL.d (Go.Ev.DL.int Go.IntKind.u8 x1_15), Go.Ev.SL.d (Go.Ev.DL.int Go.IntKind.u8 x1_16), Go.Ev.SL.d (Go.Ev.DL.int Go.IntKind.u8 x1_17), Go.Ev.SL.d (Go.Ev.DL.int Go.IntKind.u8 x1_18), Go.Ev.SL.d (Go.Ev.DL.int Go.IntKind.u8 x1_19), Go.Ev.SL.d (Go.Ev.DL.int Go.IntKind.u8 x1_20), Go.Ev.SL.d (Go.Ev.DL.int Go.IntKind.u8 x1_21), Go.Ev.SL.d (Go.Ev.DL.int Go.IntKind.u8 x1_22), Go.Ev.SL.d (Go.Ev.DL.int Go.IntKind.u8 x1_23), Go.Ev.SL.d (Go.Ev.DL.int Go.IntKind.u8 x1_24), Go.Ev.SL.d (Go.Ev.DL.int Go.IntKind.u8 x1_25), Go.Ev.SL.d (Go.Ev.DL.int Go.IntKind.u8 x1_26), Go.Ev.SL.d (Go.Ev.DL.int Go.IntKind.u8 x1_27), Go.Ev.SL.d (Go.Ev.DL.int Go.IntKind.u8 x1_28), Go.Ev.SL.d (Go.Ev.DL.int Go.IntKind.u8 x1_29), Go.Ev.SL.d (Go.Ev.DL.int Go.IntKind.u8 x1_30), Go.Ev.SL.d (Go.Ev.DL.int Go.IntKind.u8 x1_31)]], []) => some ⟨[x1_0, x1_1, x1_2, x1_3, x1_4, x1_5, x1_6, x1_7, x1_8, x1_9, x1_10, x1_11, x1_12, x1_13, x1_14, x1_15, x1_16, x1_17, x1_18, x1_19, x1_20, x1_21, x1_22, x1_23, x1_24, x1_25, x1_26, x1_27, x1_28, x1_29, x1_30, x1_31], rfl⟩
  | _ => none
abbrev o57 : Type := Rows
def ret57 : o57 → CSt := fun b => ([Go.Ev.SV.one (Go.Ev.SL.d (Go.Ev.DL.lst (25 : Nat) b))], [])
def retK57 {R : Type} (K : CSt → Option R) : o57 → Option R := fun b => K (([Go.Ev.SV.one (Go.Ev.SL.d (Go.Ev.DL.lst (25 : Nat) b))], []))
theorem retK57_eq {R : Type} (K : CSt → Option R) (b : o57) : retK57 K b = K (ret57 b) := rfl
abbrev Sd57 (f : i57 → Option o57) : Prop := ∀ a b, f a = some b → CallOk Try.prog 57 (enc57 a) (ret57 b)
def ent57 (f : i57 → Option o57) : Ent := mkEnt 57 dec57 ret57 retK57 retK57_eq f
def ann57 : Nat → List Nat × List Nat := fun id => bif Nat.beq id 3 then ([1, 3, 4], [3]) else bif Nat.beq id 7 then ([1, 3, 4, 5, 6], [1, 3, 4, 5]) else ([], [])
def br57 : FuncId → Bool := fun (g : Nat) => ([67, 72] : List Nat).any (Nat.beq g)
def ar57 : TypeId → Bool := fun (t : Nat) => ([24, 25, 79, 82] : List Nat).any (Nat.beq t)
abbrev iL57_3 : Type := Int × Rows × Rows
def encL57_3 : iL57_3 → CSt := fun a => ([Go.Ev.SV.one (Go.Ev.SL.ept (0 : Nat) (0 : Nat) (0 : Nat)), Go.Ev.SV.one (Go.Ev.SL.vr (1 : Nat)), Go.Ev.SV.one (Go.Ev.SL.d (Go.Ev.DL.int Go.IntKind.i64 a.1))], [Go.Ev.Obj.vec (5 : Nat) Bool.false a.2.1, Go.Ev.Obj.vec (25 : Nat) Bool.false a.2.2])
def decL57_3 : (c : CSt) → Option { a : iL57_3 // c = encL57_3 a }
  | ([Go.Ev.SV.one (Go.Ev.SL.ept (0 : Nat) (0 : Nat) (0 : Nat)), Go.Ev.SV.one (Go.Ev.SL.vr (1 : Nat)), Go.Ev.SV.one (Go.Ev.SL.d (Go.Ev.DL.int Go.IntKind.i64 x1))], [Go.Ev.Obj.vec (5 : Nat) Bool.false x2, Go.Ev.Obj.vec (25 : Nat) Bool.false x3]) => some ⟨(x1, x2, x3), rfl⟩
  | _ => none
abbrev oL57_3 : Type := Rows
def retL57_3 : oL57_3 → Ex × CSt := fun b => (Go.Ev.Ex.exit (0 : Nat), ([Go.Ev.SV.one (Go.Ev.SL.vr (0 : Nat))], [Go.Ev.Obj.vec (25 : Nat) Bool.false b]))
def retKL57_3 {R : Type} (K : Ex → CSt → Option R) : oL57_3 → Option R := fun b => K (Go.Ev.Ex.exit (0 : Nat)) (([Go.Ev.SV.one (Go.Ev.SL.vr (0 : Nat))], [Go.Ev.Obj.vec (25 : Nat) Bool.false b]))
theorem retKL57_3_eq {R : Type} (K : Ex → CSt → Option R) (b : oL57_3) : retKL57_3 K b = K (retL57_3 b).1 (retL57_3 b).2 := rfl
def entL57_3 (l : iL57_3 → Option oL57_3) : LEnt := mkLEnt 3 decL57_3 retL57_3 retKL57_3 retKL57_3_eq l
abbrev SdL57_3 (l : iL57_3 → Option oL57_3) : Prop := ∀ nt a b, l a = some b → LoopAt Try.prog nt 0 ann57 Try.f57 3 (encL57_3 a) (retL57_3 b)
abbrev iL57_7 : Type := Int × Int × Rows × Rows × Rows
def encL57_7 : iL57_7 → CSt := fun a => ([Go.Ev.SV.one (Go.Ev.SL.ept (0 : Nat) (0 : Nat) (0 : Nat)), Go.Ev.SV.one (Go.Ev.SL.vr (1 : Nat)), Go.Ev.SV.one (Go.Ev.SL.d (Go.Ev.DL.int Go.IntKind.i64 a.1)), Go.Ev.SV.one (Go.Ev.SL.vr (2 : Nat)), Go.Ev.SV.one (Go.Ev.SL.d (Go.Ev.DL.int Go.IntKind.i64 a.2.1))], [Go.Ev.Obj.vec (5 : Nat) Bool.false a.2.2.1, Go.Ev.Obj.vec (25 : Nat) Bool.false a.2.2.2.1, Go.Ev.Obj.vec (25 : Nat) Bool.false a.2.2.2.2])
def decL57_7 : (c : CSt) → Option { a : iL57_7 // c = encL57_7 a }
  | ([Go.Ev.SV.one (Go.Ev.SL.ept (0 : Nat) (0 : Nat) (0 : Nat)), Go.Ev.SV.one (Go.Ev.SL.vr (1 : Nat)), Go.Ev.SV.one (Go.Ev.SL.d (Go.Ev.DL.int Go.IntKind.i64 x1)), Go.Ev.SV.one (Go.Ev.SL.vr (2 : Nat)), Go.Ev.SV.one (Go.Ev.SL.d (Go.Ev.DL.int Go.IntKind.i64 x2))], [Go.Ev.Obj.vec (5 : Nat) Bool.false x3, Go.Ev.Obj.vec (25 : Nat) Bool.false x4, Go.Ev.Obj.vec (25 : Nat) Bool.false x5]) => some ⟨(x1, x2, x3, x4, x5), rfl⟩
  | _ => none
abbrev oL57_7 : Type := Int × Rows × Rows × Rows
def retL57_7 : oL57_7 → Ex × CSt := fun b => (Go.Ev.Ex.exit (2 : Nat), ([Go.Ev.SV.one (Go.Ev.SL.ept (0 : Nat) (0 : Nat) (0 : Nat)), Go.Ev.SV.one (Go.Ev.SL.vr (1 : Nat)), Go.Ev.SV.one (Go.Ev.SL.d (Go.Ev.DL.int Go.IntKind.i64 b.1)), Go.Ev.SV.one (Go.Ev.SL.vr (2 : Nat))], [Go.Ev.Obj.vec (5 : Nat) Bool.false b.2.1, Go.Ev.Obj.vec (25 : Nat) Bool.false b.2.2.1, Go.Ev.Obj.vec (25 : Nat) Bool.false b.2.2.2]))
def retKL57_7 {R : Type} (K : Ex → CSt → Option R) : oL57_7 → Option R := fun b => K (Go.Ev.Ex.exit (2 : Nat)) (([Go.Ev.SV.one (Go.Ev.SL.ept (0 : Nat) (0 : Nat) (0 : Nat)), Go.Ev.SV.one (Go.Ev.SL.vr (1 : Nat)), Go.Ev.SV.one (Go.Ev.SL.d (Go.Ev.DL.int Go.IntKind.i64 b.1)), Go.Ev.SV.one (Go.Ev.SL.vr (2 : Nat))], [Go.Ev.Obj.vec (5 : Nat) Bool.false b.2.1, Go.Ev.Obj.vec (25 : Nat) Bool.false b.2.2.1, Go.Ev.Obj.vec (25 : Nat) Bool.false b.2.2.2]))
theorem retKL57_7_eq {R : Type} (K : Ex → CSt → Option R) (b : oL57_7) : retKL57_7 K b = K (retL57_7 b).1 (retL57_7 b).2 := rfl
def entL57_7 (l : iL57_7 → Option oL57_7) : LEnt := mkLEnt 7 decL57_7 retL57_7 retKL57_7 retKL57_7_eq l
abbrev SdL57_7 (l : iL57_7 → Option oL57_7) : Prop := ∀ nt a b, l a = some b → LoopAt Try.prog nt 0 ann57 Try.f57 7 (encL57_7 a) (retL57_7 b)
noncomputable def u57_3 {R : Type} (sh : Sh) (f56 : i56 → Option o56) (f53 : i53 → Option o53) (f55 : i55 → Option o55) (l57_7 : iL57_7 → Option oL57_7) (l57_3 : iL57_3 → Option oL57_3) (x1 : Int) (x2 : Rows) (x3 : Rows) (k : oL57_3 → Option R) : Option R :=
  bif Decidable.decide (x1 < (4 : Int)) then
    sh ([] : Rows) fun y4 =>
    (l57_7 (x1, (0 : Int), x2, x3, y4)).bind fun (r9 : Int × Rows × Rows × Rows) =>
    (f55 (Prod.snd (Prod.snd r9).2)).bind fun (r10 : List Int) =>
    sh ([Go.Ev.mapD Go.IntKind.u8 (Go.Ev.pkL r10 (32 : Nat))] : Rows) fun y11 =>
    bif Go.Ev.roomE Go.Proofs.Try.prog (25 : Nat) (List.length (Prod.fst (Prod.snd r9).2) + List.length y11) then
      sh (Prod.fst (Prod.snd r9).2 ++ y11 : Rows) fun y12 =>
      (l57_3 (Go.IntKind.wrap Go.IntKind.i64 (Prod.fst r9 + (1 : Int)), Prod.fst r9.2, y12)).bind k
    else none
  else
    k (x3)
theorem u57_3_eq {R : Type} (sh : Sh) (hsh : ∀ {α R : Type} (x : α) (K : α → Option R), sh x K = K x) (f56 : i56 → Option o56) (f53 : i53 → Option o53) (f55 : i55 → Option o55) (l57_7 : iL57_7 → Option oL57_7) (l57_3 : iL57_3 → Option oL57_3) (x1 : Int) (x2 : Rows) (x3 : Rows) (K : Ex → CSt → Option R) : roundK Try.prog (tabO sh hsh br57 ar57 [ent56 f56, ent53 f53, ent55 f55]) (tabL [entL57_7 l57_7, entL57_3 l57_3]) ann57 0 Try.f57 3 (encL57_3 (x1, x2, x3)) K = u57_3 sh f56 f53 f55 l57_7 l57_3 x1 x2 x3 (retKL57_3 K) := by kernel_rfl
theorem u57_3_law {R : Type} (f56 : i56 → Option o56) (f53 : i53 → Option o53) (f55 : i55 → Option o55) (l57_7 : iL57_7 → Option oL57_7) (l57_3 : iL57_3 → Option oL57_3) (x1 : Int) (x2 : Rows) (x3 : Rows) (K : oL57_3 → Option R) : u57_3 sh0 f56 f53 f55 l57_7 l57_3 x1 x2 x3 K = (u57_3 sh0 f56 f53 f55 l57_7 l57_3 x1 x2 x3 some).bind K := by
  simp only [u57_3, sh0, cond_bind', two_bind, none_bind', Option.bind_assoc, Option.bind_some]
theorem okL57_3 (f56 : i56 → Option o56) (f53 : i53 → Option o53) (f55 : i55 → Option o55) (l57_7 : iL57_7 → Option oL57_7) (l57_3 : iL57_3 → Option oL57_3) (hf56 : Sd56 f56) (hf53 : Sd53 f53) (hf55 : Sd55 f55) (hl57_7 : SdL57_7 l57_7) (hl57_3 : SdL57_3 l57_3) : SdL57_3 (fun a => u57_3 sh0 f56 f53 f55 l57_7 l57_3 a.1 a.2.1 a.2.2 some) := by
  intro nt a b h
  refine round_ok (sh := sh0) (hsh := fun _ _ => rfl) (br := br57) (ar := ar57) Try.mixed (by kernel_rfl) (.cons (mkEnt_ok hf56) (.cons (mkEnt_ok hf53) (.cons (mkEnt_ok hf55) .nil))) (.cons (mkLEnt_ok (hl57_7 nt)) (.cons (mkLEnt_ok (hl57_3 nt)) .nil)) ((u57_3_eq sh0 (fun _ _ => rfl) f56 f53 f55 l57_7 l57_3  a.1 a.2.1 a.2.2 _).trans ?_)
  rw [u57_3_law]
  simp only at h
  rw [h, Option.bind_some, retKL57_3_eq]
noncomputable def u57_7 {R : Type} (sh : Sh) (f56 : i56 → Option o56) (f53 : i53 → Option o53) (l57_7 : iL57_7 → Option oL57_7) (x1 : Int) (x2 : Int) (x3 : Rows) (x4 : Rows) (x5 : Rows) (k : oL57_7 → Option R) : Option R :=
  bif Decidable.decide (x2 < (35 : Int)) then
    bif Decidable.decide (List.length x3 = (32 : Nat)) then
      (f56 (Go.Ev.colI x3 (32 : Nat), x1, x2)).bind fun (r5 : List Int) =>
      (f53 (Go.Ev.pkL r5 (32 : Nat), (15 : Int))).bind fun (r6 : List Int) =>
      sh ([Go.Ev.mapD Go.IntKind.u8 (Go.Ev.pkL r6 (32 : Nat))] : Rows) fun y7 =>
      bif Go.Ev.roomE Go.Proofs.Try.prog (25 : Nat) (List.length x5 + List.length y7) then
        sh (x5 ++ y7 : Rows) fun y8 =>
        (l57_7 (x1, Go.IntKind.wrap Go.IntKind.i64 (x2 + (1 : Int)), x3, x4, y8)).bind k
      else none
    else none
  else
    k ((x1, x3, x4, x5))
theorem u57_7_eq {R : Type} (sh : Sh) (hsh : ∀ {α R : Type} (x : α) (K : α → Option R), sh x K = K x) (f56 : i56 → Option o56) (f53 : i53 → Option o53) (l57_7 : iL57_7 → Option oL57_7) (x1 : Int) (x2 : Int) (x3 : Rows) (x4 : Rows) (x5 : Rows) (K : Ex → CSt → Option R) : roundK Try.prog (tabO sh hsh br57 ar57 [ent56 f56, ent53 f53]) (tabL [entL57_7 l57_7]) ann57 0 Try.f57 7 (encL57_7 (x1, x2, x3, x4, x5)) K = u57_7 sh f56 f53 l57_7 x1 x2 x3 x4 x5 (retKL57_7 K) := by kernel_rfl
theorem u57_7_law {R : Type} (f56 : i56 → Option o56) (f53 : i53 → Option o53) (l57_7 : iL57_7 → Option oL57_7) (x1 : Int) (x2 : Int) (x3 : Rows) (x4 : Rows) (x5 : Rows) (K : oL57_7 → Option R) : u57_7 sh0 f56 f53 l57_7 x1 x2 x3 x4 x5 K = (u57_7 sh0 f56 f53 l57_7 x1 x2 x3 x4 x5 some).bind K := by
  simp only [u57_7, sh0, cond_bind', two_bind, none_bind', Option.bind_assoc, Option.bind_some]
theorem okL57_7 (f56 : i56 → Option o56) (f53 : i53 → Option o53) (l57_7 : iL57_7 → Option oL57_7) (hf56 : Sd56 f56) (hf53 : Sd53 f53) (hl57_7 : SdL57_7 l57_7) : SdL57_7 (fun a => u57_7 sh0 f56 f53 l57_7 a.1 a.2.1 a.2.2.1 a.2.2.2.1 a.2.2.2.2 some) := by
  intro nt a b h
  refine round_ok (sh := sh0) (hsh := fun _ _ => rfl) (br := br57) (ar := ar57) Try.mixed (by kernel_rfl) (.cons (mkEnt_ok hf56) (.cons (mkEnt_ok hf53) .nil)) (.cons (mkLEnt_ok (hl57_7 nt)) .nil) ((u57_7_eq sh0 (fun _ _ => rfl) f56 f53 l57_7  a.1 a.2.1 a.2.2.1 a.2.2.2.1 a.2.2.2.2 _).trans ?_)
  rw [u57_7_law]
  simp only at h
  rw [h, Option.bind_some, retKL57_7_eq]
noncomputable def t57 {R : Type} (sh : Sh) (l57_3 : iL57_3 → Option oL57_3) (x1 : List Int) (k : o57 → Option R) : Option R :=
  sh (Go.Ev.colD (Go.Ev.mapD Go.IntKind.u8 (Go.Ev.pkL x1 (32 : Nat))) : Rows) fun y1 =>
  sh ([] : Rows) fun y2 =>
  sh ([] : Rows) fun y3 =>
  (l57_3 ((0 : Int), y1, y3)).bind fun (r13 : Rows) =>
  k (r13)
theorem t57_eq {R : Type} (sh : Sh) (hsh : ∀ {α R : Type} (x : α) (K : α → Option R), sh x K = K x) (l57_3 : iL57_3 → Option oL57_3) (x1 : List Int) (K : CSt → Option R) : bodyK Try.prog (tabO sh hsh br57 ar57 []) (tabL [entL57_3 l57_3]) ann57 false Try.f57 (enc57 x1) K = t57 sh l57_3 x1 (retK57 K) := by kernel_rfl
theorem t57_law {R : Type} (l57_3 : iL57_3 → Option oL57_3) (x1 : List Int) (K : o57 → Option R) : t57 sh0 l57_3 x1 K = (t57 sh0 l57_3 x1 some).bind K := by
  simp only [t57, sh0, cond_bind', two_bind, none_bind', Option.bind_assoc, Option.bind_some]
theorem ok57 (l57_3 : iL57_3 → Option oL57_3) (hl57_3 : SdL57_3 l57_3) : Sd57 (fun a => t57 sh0 l57_3 a some) := by
  intro a b h
  refine call_ok (sh := sh0) (hsh := fun _ _ => rfl) (br := br57) (ar := ar57) (own := false) Try.mixed Try.func57 (by kernel_rfl) .nil (fun nt => (.cons (mkLEnt_ok (hl57_3 nt)) .nil)) ((t57_eq sh0 (fun _ _ => rfl) l57_3 a _).trans ?_)
  rw [t57_law]
  simp only at h
  rw [h, Option.bind_some, retK57_eq]

/-! 34 erasure/erasureref39.Sign -/
abbrev i34 : Type := List Int × Int × Rows
def enc34 : i34 → CSt := fun a => ([Go.Ev.SV.agg (Go.Ev.pkS Go.IntKind.u8 a.1 (32 : Nat)), Go.Ev.SV.one (Go.Ev.SL.d (Go.Ev.DL.int Go.IntKind.i64 a.2.1)), Go.Ev.SV.one (Go.Ev.SL.d (Go.Ev.DL.lst (5 : Nat) a.2.2))], [])
def dec34 : (c : CSt) → Option { a : i34 // c = enc34 a }
  | ([Go.Ev.SV.agg [Go.Ev.SL.d (Go.Ev.DL.int Go.IntKind.u8 x1_0), Go.Ev.SL.d (Go.Ev.DL.int Go.IntKind.u8 x1_1), Go.Ev.SL.d (Go.Ev.DL.int Go.IntKind.u8 x1_2), Go.Ev.SL.d (Go.Ev.DL.int Go.IntKind.u8 x1_3), Go.Ev.SL.d (Go.Ev.DL.int Go.IntKind.u8 x1_4), Go.Ev.SL.d (Go.Ev.DL.int Go.IntKind.u8 x1_5), Go.Ev.SL.d (Go.Ev.DL.int Go.IntKind.u8 x1_6), Go.Ev.SL.d (Go.Ev.DL.int Go.IntKind.u8 x1_7), Go.Ev.SL.d (Go.Ev.DL.int Go.IntKind.u8 x1_8), Go.Ev.SL.d (Go.Ev.DL.int Go.IntKind.u8 x1_9), Go.Ev.SL.d (Go.Ev.DL.int Go.IntKind.u8 x1_10), Go.Ev.SL.d (Go.Ev.DL.int Go.IntKind.u8 x1_11), Go.Ev.SL.d (Go.Ev.DL.int Go.IntKind.u8 x1_12), Go.Ev.SL.d (Go.Ev.DL.int Go.IntKind.u8 x1_13), Go.Ev.SL.d (Go.Ev.DL.int Go.IntKind.u8 x1_14), Go.Ev.SL.d (Go.Ev.DL.int Go.IntKind.u8 x1_15), Go.Ev.SL.d (Go.Ev.DL.int Go.IntKind.u8 x1_16), Go.Ev.SL.d (Go.Ev.DL.int Go.IntKind.u8 x1_17), Go.Ev.SL.d (Go.Ev.DL.int Go.IntKind.u8 x1_18), Go.Ev.SL.d (Go.Ev.DL.int Go.IntKind.u8 x1_19), Go.Ev.SL.d (Go.Ev.DL.int Go.IntKind.u8 x1_20), Go.Ev.SL.d (Go.Ev.DL.int Go.IntKind.u8 x1_21), Go.Ev.SL.d (Go.Ev.DL.int Go.IntKind.u8 x1_22), Go.Ev.SL.d (Go.Ev.DL.int Go.IntKind.u8 x1_23), Go.Ev.SL.d (Go.Ev.DL.int Go.IntKind.u8 x1_24), Go.Ev.SL.d (Go.Ev.DL.int Go.IntKind.u8 x1_25), Go.Ev.SL.d (Go.Ev.DL.int Go.IntKind.u8 x1_26), Go.Ev.SL.d (Go.Ev.DL.int Go.IntKind.u8 x1_27), Go.Ev.SL.d (Go.Ev.DL.int Go.IntKind.u8 x1_28), Go.Ev.SL.d (Go.Ev.DL.int Go.IntKind.u8 x1_29), Go.Ev.SL.d (Go.Ev.DL.int Go.IntKind.u8 x1_30), Go.Ev.SL.d (Go.Ev.DL.int Go.IntKind.u8 x1_31)], Go.Ev.SV.one (Go.Ev.SL.d (Go.Ev.DL.int Go.IntKind.i64 x2)), Go.Ev.SV.one (Go.Ev.SL.d (Go.Ev.DL.lst (5 : Nat) x3))], []) => some ⟨([x1_0, x1_1, x1_2, x1_3, x1_4, x1_5, x1_6, x1_7, x1_8, x1_9, x1_10, x1_11, x1_12, x1_13, x1_14, x1_15, x1_16, x1_17, x1_18, x1_19, x1_20, x1_21, x1_22, x1_23, x1_24, x1_25, x1_26, x1_27, x1_28, x1_29, x1_30, x1_31], x2, x3), rfl⟩
  | _ => none
abbrev o34 : Type := Int × Rows × Int × Int × Rows × Int
def ret34 : o34 → CSt := fun b => ([Go.Ev.SV.agg [Go.Ev.SL.d (Go.Ev.DL.int Go.IntKind.i64 b.1), Go.Ev.SL.d (Go.Ev.DL.lst (25 : Nat) b.2.1), Go.Ev.SL.d (Go.Ev.DL.int Go.IntKind.i64 b.2.2.1), Go.Ev.SL.d (Go.Ev.DL.int Go.IntKind.i64 b.2.2.2.1), Go.Ev.SL.d (Go.Ev.DL.lst (25 : Nat) b.2.2.2.2.1)], Go.Ev.SV.one (Go.Ev.SL.d (Go.Ev.DL.int Go.IntKind.i64 b.2.2.2.2.2))], [])
def retK34 {R : Type} (K : CSt → Option R) : o34 → Option R := fun b => K (([Go.Ev.SV.agg [Go.Ev.SL.d (Go.Ev.DL.int Go.IntKind.i64 b.1), Go.Ev.SL.d (Go.Ev.DL.lst (25 : Nat) b.2.1), Go.Ev.SL.d (Go.Ev.DL.int Go.IntKind.i64 b.2.2.1), Go.Ev.SL.d (Go.Ev.DL.int Go.IntKind.i64 b.2.2.2.1), Go.Ev.SL.d (Go.Ev.DL.lst (25 : Nat) b.2.2.2.2.1)], Go.Ev.SV.one (Go.Ev.SL.d (Go.Ev.DL.int Go.IntKind.i64 b.2.2.2.2.2))], []))
theorem retK34_eq {R : Type} (K : CSt → Option R) (b : o34) : retK34 K b = K (ret34 b) := rfl
abbrev Sd34 (f : i34 → Option o34) : Prop := ∀ a b, f a = some b → CallOk Try.prog 34 (enc34 a) (ret34 b)
def ent34 (f : i34 → Option o34) : Ent := mkEnt 34 dec34 ret34 retK34 retK34_eq f
def ann34 : Nat → List Nat × List Nat := fun id => bif Nat.beq id 6 then ([1, 3, 6, 8, 9, 10], [1, 3, 6, 8]) else ([], [])
def br34 : FuncId → Bool := fun (g : Nat) => ([67, 72] : List Nat).any (Nat.beq g)
def ar34 : TypeId → Bool := fun (t : Nat) => ([24, 25, 79, 82] : List Nat).any (Nat.beq t)
abbrev iL34_6 : Type := Int × Rows × Int × Rows × Int × Int × Int × Int × Int × Int × Rows × Rows × Rows × Rows
def encL34_6 : iL34_6 → CSt := fun a => ([Go.Ev.SV.one (Go.Ev.SL.d (Go.Ev.DL.int Go.IntKind.i64 a.1)), Go.Ev.SV.one (Go.Ev.SL.ept (0 : Nat) (0 : Nat) (0 : Nat)), Go.Ev.SV.one (Go.Ev.SL.ptr (1 : Nat) (0 : Nat)), Go.Ev.SV.one (Go.Ev.SL.ptr (2 : Nat) (0 : Nat)), Go.Ev.SV.one (Go.Ev.SL.d (Go.Ev.DL.lst (3 : Nat) a.2.1)), Go.Ev.SV.one (Go.Ev.SL.d (Go.Ev.DL.int Go.IntKind.i64 a.2.2.1))], [Go.Ev.Obj.vec (5 : Nat) Bool.false a.2.2.2.1, Go.Ev.Obj.box (49 : Nat) [Go.Ev.SL.d (Go.Ev.DL.int Go.IntKind.i64 a.2.2.2.2.1), Go.Ev.SL.vr (3 : Nat), Go.Ev.SL.d (Go.Ev.DL.int Go.IntKind.i64 a.2.2.2.2.2.1), Go.Ev.SL.d (Go.Ev.DL.int Go.IntKind.i64 a.2.2.2.2.2.2.1), Go.Ev.SL.vr (4 : Nat)], Go.Ev.Obj.box (49 : Nat) [Go.Ev.SL.d (Go.Ev.DL.int Go.IntKind.i64 a.2.2.2.2.2.2.2.1), Go.Ev.SL.vr (5 : Nat), Go.Ev.SL.d (Go.Ev.DL.int Go.IntKind.i64 a.2.2.2.2.2.2.2.2.1), Go.Ev.SL.d (Go.Ev.DL.int Go.IntKind.i64 a.2.2.2.2.2.2.2.2.2.1), Go.Ev.SL.vr (6 : Nat)], Go.Ev.Obj.vec (25 : Nat) Bool.false a.2.2.2.2.2.2.2.2.2.2.1, Go.Ev.Obj.vec (25 : Nat) Bool.false a.2.2.2.2.2.2.2.2.2.2.2.1, Go.Ev.Obj.vec (25 : Nat) Bool.false a.2.2.2.2.2.2.2.2.2.2.2.2.1, Go.Ev.Obj.vec (25 : Nat) Bool.false a.2.2.2.2.2.2.2.2.2.2.2.2.2])
def decL34_6 : (c : CSt) → Option { a : iL34_6 // c = encL34_6 a }
  | ([Go.Ev.SV.one (Go.Ev.SL.d (Go.Ev.DL.int Go.IntKind.i64 x1)), Go.Ev.SV.one (Go.Ev.SL.ept (0 : Nat) (0 : Nat) (0 : Nat)), Go.Ev.SV.one (Go.Ev.SL.ptr (1 : Nat) (0 : Nat)), Go.Ev.SV.one (Go.Ev.SL.ptr (2 : Nat) (0 : Nat)), Go.Ev.SV.one (Go.Ev.SL.d (Go.Ev.DL.lst (3 : Nat) x2)), Go.Ev.SV.one (Go.Ev.SL.d (Go.Ev.DL.int Go.IntKind.i64 x3))], [Go.Ev.Obj.vec (5 : Nat) Bool.false x4, Go.Ev.Obj.box (49 : Nat) [Go.Ev.SL.d (Go.Ev.DL.int Go.IntKind.i64 x5), Go.Ev.SL.vr (3 : Nat), Go.Ev.SL.d (Go.Ev.DL.int Go.IntKind.i64 x6), Go.Ev.SL.d (Go.Ev.DL.int Go.IntKind.i64 x7), Go.Ev.SL.vr (4 : Nat)], Go.Ev.Obj.box (49 : Nat) [Go.Ev.SL.d (Go.Ev.DL.int Go.IntKind.i64 x8), Go.Ev.SL.vr (5 : Nat), Go.Ev.SL.d (Go.Ev.DL.int Go.IntKind.i64 x9), Go.Ev.SL.d (Go.Ev.DL.int Go.IntKind.i64 x10), Go.Ev.SL.vr (6 : Nat)], Go.Ev.Obj.vec (25 : Nat) Bool.false x11, Go.Ev.Obj.vec (25 : Nat) Bool.false x12, Go.Ev.Obj.vec (25 : Nat) Bool.false x13, Go.Ev.Obj.vec (25 : Nat) Bool.false x14]) => some ⟨(x1, x2, x3, x4, x5, x6, x7, x8, x9, x10, x11, x12, x13, x14), rfl⟩
  | _ => none
abbrev oL34_6 : Type := Int × Rows × Int × Int × Int × Int × Int × Int × Rows × Rows × Rows × Rows
def retL34_6 : oL34_6 → Ex × CSt := fun b => (Go.Ev.Ex.exit (0 : Nat), ([Go.Ev.SV.one (Go.Ev.SL.d (Go.Ev.DL.int Go.IntKind.i64 b.1)), Go.Ev.SV.one (Go.Ev.SL.ept (0 : Nat) (0 : Nat) (0 : Nat)), Go.Ev.SV.one (Go.Ev.SL.ptr (1 : Nat) (0 : Nat)), Go.Ev.SV.one (Go.Ev.SL.ptr (2 : Nat) (0 : Nat))], [Go.Ev.Obj.vec (5 : Nat) Bool.false b.2.1, Go.Ev.Obj.box (49 : Nat) [Go.Ev.SL.d (Go.Ev.DL.int Go.IntKind.i64 b.2.2.1), Go.Ev.SL.vr (3 : Nat), Go.Ev.SL.d (Go.Ev.DL.int Go.IntKind.i64 b.2.2.2.1), Go.Ev.SL.d (Go.Ev.DL.int Go.IntKind.i64 b.2.2.2.2.1), Go.Ev.SL.vr (4 : Nat)], Go.Ev.Obj.box (49 : Nat) [Go.Ev.SL.d (Go.Ev.DL.int Go.IntKind.i64 b.2.2.2.2.2.1), Go.Ev.SL.vr (5 : Nat), Go.Ev.SL.d (Go.Ev.DL.int Go.IntKind.i64 b.2.2.2.2.2.2.1), Go.Ev.SL.d (Go.Ev.DL.int Go.IntKind.i64 b.2.2.2.2.2.2.2.1), Go.Ev.SL.vr (6 : Nat)], Go.Ev.Obj.vec (25 : Nat) Bool.false b.2.2.2.2.2.2.2.2.1, Go.Ev.Obj.vec (25 : Nat) Bool.false b.2.2.2.2.2.2.2.2.2.1, Go.Ev.Obj.vec (25 : Nat) Bool.false b.2.2.2.2.2.2.2.2.2.2.1, Go.Ev.Obj.vec (25 : Nat) Bool.false b.2.2.2.2.2.2.2.2.2.2.2]))
def retKL34_6 {R : Type} (K : Ex → CSt → Option R) : oL34_6 → Option R := fun b => K (Go.Ev.Ex.exit (0 : Nat)) (([Go.Ev.SV.one (Go.Ev.SL.d (Go.Ev.DL.int Go.IntKind.i64 b.1)), Go.Ev.SV.one (Go.Ev.SL.ept (0 : Nat) (0 : Nat) (0 : Nat)), Go.Ev.SV.one (Go.Ev.SL.ptr (1 : Nat) (0 : Nat)), Go.Ev.SV.one (Go.Ev.SL.ptr (2 : Nat) (0 : Nat))], [Go.Ev.Obj.vec (5 : Nat) Bool.false b.2.1, Go.Ev.Obj.box (49 : Nat) [Go.Ev.SL.d (Go.Ev.DL.int Go.IntKind.i64 b.2.2.1), Go.Ev.SL.vr (3 : Nat), Go.Ev.SL.d (Go.Ev.DL.int Go.IntKind.i64 b.2.2.2.1), Go.Ev.SL.d (Go.Ev.DL.int Go.IntKind.i64 b.2.2.2.2.1), Go.Ev.SL.vr (4 : Nat)], Go.Ev.Obj.box (49 : Nat) [Go.Ev.SL.d (Go.Ev.DL.int Go.IntKind.i64 b.2.2.2.2.2.1), Go.Ev.SL.vr (5 : Nat), Go.Ev.SL.d (Go.Ev.DL.int Go.IntKind.i64 b.2.2.2.2.2.2.1), Go.Ev.SL.d (Go.Ev.DL.int Go.IntKind.i64 b.2.2.2.2.2.2.2.1), Go.Ev.SL.vr (6 : Nat)], Go.Ev.Obj.vec (25 : Nat) Bool.false b.2.2.2.2.2.2.2.2.1, Go.Ev.Obj.vec (25 : Nat) Bool.false b.2.2.2.2.2.2.2.2.2.1, Go.Ev.Obj.vec (25 : Nat) Bool.false b.2.2.2.2.2.2.2.2.2.2.1, Go.Ev.Obj.vec (25 : Nat) Bool.false b.2.2.2.2.2.2.2.2.2.2.2]))
theorem retKL34_6_eq {R : Type} (K : Ex → CSt → Option R) (b : oL34_6) : retKL34_6 K b = K (retL34_6 b).1 (retL34_6 b).2 := rfl
def entL34_6 (l : iL34_6 → Option oL34_6) : LEnt := mkLEnt 6 decL34_6 retL34_6 retKL34_6 retKL34_6_eq l
abbrev SdL34_6 (l : iL34_6 → Option oL34_6) : Prop := ∀ nt a b, l a = some b → LoopAt Try.prog nt 0 ann34 Try.f34 6 (encL34_6 a) (retL34_6 b)
noncomputable def u34_6 {R : Type} (sh : Sh) (f56 : i56 → Option o56) (f53 : i53 → Option o53) (l34_6 : iL34_6 → Option oL34_6) (x1 : Int) (x2 : Rows) (x3 : Int) (x4 : Rows) (x5 : Int) (x6 : Int) (x7 : Int) (x8 : Int) (x9 : Int) (x10 : Int) (x11 : Rows) (x12 : Rows) (x13 : Rows) (x14 : Rows) (k : oL34_6 → Option R) : Option R :=
  bif Decidable.decide (x3 < (35 : Int)) then
    bif Decidable.decide (List.length x4 = (32 : Nat)) then
      (f56 (Go.Ev.colI x4 (32 : Nat), x1, x3)).bind fun (r13 : List Int) =>
      bif Decidable.decide ((0 : Int) ≤ x3 ∧ x3 < (↑(List.length x2) : Int)) then
        sh (Go.Ev.DL.getI (Go.Ev.cellAt x2 (Int.toNat x3) (0 : Nat))) fun y14 =>
        (f53 (Go.Ev.pkL r13 (32 : Nat), y14)).bind fun (r15 : List Int) =>
        sh ([Go.Ev.mapD Go.IntKind.u8 (Go.Ev.pkL r15 (32 : Nat))] : Rows) fun y16 =>
        bif Go.Ev.roomE Go.Proofs.Try.prog (25 : Nat) (List.length x13 + List.length y16) then
          sh (x13 ++ y16 : Rows) fun y17 =>
          (l34_6 (x1, x2, Go.IntKind.wrap Go.IntKind.i64 (x3 + (1 : Int)), x4, x5, x6, x7, x8, x9, x10, x11, x12, y17, x14)).bind k
        else none
      else none
    else none
  else
    k ((x1, x4, x5, x6, x7, x8, x9, x10, x11, x12, x13, x14))
theorem u34_6_eq {R : Type} (sh : Sh) (hsh : ∀ {α R : Type} (x : α) (K : α → Option R), sh x K = K x) (f56 : i56 → Option o56) (f53 : i53 → Option o53) (l34_6 : iL34_6 → Option oL34_6) (x1 : Int) (x2 : Rows) (x3 : Int) (x4 : Rows) (x5 : Int) (x6 : Int) (x7 : Int) (x8 : Int) (x9 : Int) (x10 : Int) (x11 : Rows) (x12 : Rows) (x13 : Rows) (x14 : Rows) (K : Ex → CSt → Option R) : roundK Try.prog (tabO sh hsh br34 ar34 [ent56 f56, ent53 f53]) (tabL [entL34_6 l34_6]) ann34 0 Try.f34 6 (encL34_6 (x1, x2, x3, x4, x5, x6, x7, x8, x9, x10, x11, x12, x13, x14)) K = u34_6 sh f56 f53 l34_6 x1 x2 x3 x4 x5 x6 x7 x8 x9 x10 x11 x12 x13 x14 (retKL34_6 K) := by kernel_rfl
theorem u34_6_law {R : Type} (f56 : i56 → Option o56) (f53 : i53 → Option o53) (l34_6 : iL34_6 → Option oL34_6) (x1 : Int) (x2 : Rows) (x3 : Int) (x4 : Rows) (x5 : Int) (x6 : Int) (x7 : Int) (x8 : Int) (x9 : Int) (x10 : Int) (x11 : Rows) (x12 : Rows) (x13 : Rows) (x14 : Rows) (K : oL34_6 → Option R) : u34_6 sh0 f56 f53 l34_6 x1 x2 x3 x4 x5 x6 x7 x8 x9 x10 x11 x12 x13 x14 K = (u34_6 sh0 f56 f53 l34_6 x1 x2 x3 x4 x5 x6 x7 x8 x9 x10 x11 x12 x13 x14 some).bind K := by
  simp only [u34_6, sh0, cond_bind', two_bind, none_bind', Option.bind_assoc, Option.bind_some]
theorem okL34_6 (f56 : i56 → Option o56) (f53 : i53 → Option o53) (l34_6 : iL34_6 → Option oL34_6) (hf56 : Sd56 f56) (hf53 : Sd53 f53) (hl34_6 : SdL34_6 l34_6) : SdL34_6 (fun a => u34_6 sh0 f56 f53 l34_6 a.1 a.2.1 a.2.2.1 a.2.2.2.1 a.2.2.2.2.1 a.2.2.2.2.2.1 a.2.2.2.2.2.2.1 a.2.2.2.2.2.2.2.1 a.2.2.2.2.2.2.2.2.1 a.2.2.2.2.2.2.2.2.2.1 a.2.2.2.2.2.2.2.2.2.2.1 a.2.2.2.2.2.2.2.2.2.2.2.1 a.2.2.2.2.2.2.2.2.2.2.2.2.1 a.2.2.2.2.2.2.2.2.2.2.2.2.2 some) := by
  intro nt a b h
  refine round_ok (sh := sh0) (hsh := fun _ _ => rfl) (br := br34) (ar := ar34) Try.mixed (by kernel_rfl) (.cons (mkEnt_ok hf56) (.cons (mkEnt_ok hf53) .nil)) (.cons (mkLEnt_ok (hl34_6 nt)) .nil) ((u34_6_eq sh0 (fun _ _ => rfl) f56 f53 l34_6  a.1 a.2.1 a.2.2.1 a.2.2.2.1 a.2.2.2.2.1 a.2.2.2.2.2.1 a.2.2.2.2.2.2.1 a.2.2.2.2.2.2.2.1 a.2.2.2.2.2.2.2.2.1 a.2.2.2.2.2.2.2.2.2.1 a.2.2.2.2.2.2.2.2.2.2.1 a.2.2.2.2.2.2.2.2.2.2.2.1 a.2.2.2.2.2.2.2.2.2.2.2.2.1 a.2.2.2.2.2.2.2.2.2.2.2.2.2 _).trans ?_)
  rw [u34_6_law]
  simp only at h
  rw [h, Option.bind_some, retKL34_6_eq]
noncomputable def t34 {R : Type} (sh : Sh) (f31 : i31 → Option o31) (f57 : i57 → Option o57) (f23 : i23 → Option o23) (l34_6 : iL34_6 → Option oL34_6) (x1 : List Int) (x2 : Int) (x3 : Rows) (k : o34 → Option R) : Option R :=
  sh (Go.Ev.colD (Go.Ev.mapD Go.IntKind.u8 (Go.Ev.pkL x1 (32 : Nat))) : Rows) fun y1 =>
  sh ([] : Rows) fun y2 =>
  sh ([] : Rows) fun y3 =>
  bif Decidable.decide (x2 < (0 : Int)) then
    sh ([] : Rows) fun y4 =>
    sh ([] : Rows) fun y5 =>
    k (((0 : Int), y4, (0 : Int), (0 : Int), y5, (1 : Int)))
  else
    bif Decidable.decide (x2 ≥ (4 : Int)) then
      sh ([] : Rows) fun y6 =>
      sh ([] : Rows) fun y7 =>
      k (((0 : Int), y6, (0 : Int), (0 : Int), y7, (1 : Int)))
    else
      sh ([] : Rows) fun y8 =>
      sh ([] : Rows) fun y9 =>
      sh ([] : Rows) fun y10 =>
      sh ([] : Rows) fun y11 =>
      (f31 (x3)).bind fun (r12 : Rows) =>
      (l34_6 (x2, r12, (0 : Int), y1, (0 : Int), (0 : Int), (0 : Int), x2, (0 : Int), (0 : Int), y2, y3, y10, y11)).bind fun (r18 : Int × Rows × Int × Int × Int × Int × Int × Int × Rows × Rows × Rows × Rows) =>
      bif Decidable.decide (List.length (Prod.fst r18.2) = (32 : Nat)) then
        (f57 (Go.Ev.colI (Prod.fst r18.2) (32 : Nat))).bind fun (r19 : Rows) =>
        (f23 (r19, Prod.fst r18)).bind fun (r20 : Int × Int × Rows × Int) =>
        k ((Prod.fst (Prod.snd (Prod.snd (Prod.snd (Prod.snd r18)))).2, Prod.fst (Prod.snd (Prod.snd (Prod.snd (Prod.snd (Prod.snd (Prod.snd (Prod.snd (Prod.snd (Prod.snd r18))))))))).2, Prod.fst r20, Prod.fst r20.2, Prod.fst (Prod.snd r20).2, (0 : Int)))
      else none
theorem t34_eq {R : Type} (sh : Sh) (hsh : ∀ {α R : Type} (x : α) (K : α → Option R), sh x K = K x) (f31 : i31 → Option o31) (f57 : i57 → Option o57) (f23 : i23 → Option o23) (l34_6 : iL34_6 → Option oL34_6) (x1 : List Int) (x2 : Int) (x3 : Rows) (K : CSt → Option R) : bodyK Try.prog (tabO sh hsh br34 ar34 [ent31 f31, ent57 f57, ent23 f23]) (tabL [entL34_6 l34_6]) ann34 false Try.f34 (enc34 (x1, x2, x3)) K = t34 sh f31 f57 f23 l34_6 x1 x2 x3 (retK34 K) := by kernel_rfl
theorem t34_law {R : Type} (f31 : i31 → Option o31) (f57 : i57 → Option o57) (f23 : i23 → Option o23) (l34_6 : iL34_6 → Option oL34_6) (x1 : List Int) (x2 : Int) (x3 : Rows) (K : o34 → Option R) : t34 sh0 f31 f57 f23 l34_6 x1 x2 x3 K = (t34 sh0 f31 f57 f23 l34_6 x1 x2 x3 some).bind K := by
  simp only [t34, sh0, cond_bind', two_bind, none_bind', Option.bind_assoc, Option.bind_some]
theorem ok34 (f31 : i31 → Option o31) (f57 : i57 → Option o57) (f23 : i23 → Option o23) (l34_6 : iL34_6 → Option oL34_6) (hf31 : Sd31 f31) (hf57 : Sd57 f57) (hf23 : Sd23 f23) (hl34_6 : SdL34_6 l34_6) : Sd34 (fun a => t34 sh0 f31 f57 f23 l34_6 a.1 a.2.1 a.2.2 some) := by
  intro a b h
  refine call_ok (sh := sh0) (hsh := fun _ _ => rfl) (br := br34) (ar := ar34) (own := false) Try.mixed Try.func34 (by kernel_rfl) (.cons (mkEnt_ok hf31) (.cons (mkEnt_ok hf57) (.cons (mkEnt_ok hf23) .nil))) (fun nt => (.cons (mkLEnt_ok (hl34_6 nt)) .nil)) ((t34_eq sh0 (fun _ _ => rfl) f31 f57 f23 l34_6 a.1 a.2.1 a.2.2 _).trans ?_)
  rw [t34_law]
  simp only at h
  rw [h, Option.bind_some, retK34_eq]

/-! 35 erasure/erasureref39.Public -/
abbrev i35 : Type := List Int
def enc35 : i35 → CSt := fun a => ([Go.Ev.SV.agg (Go.Ev.pkS Go.IntKind.u8 a (32 : Nat))], [])
def dec35 : (c : CSt) → Option { a : i35 // c = enc35 a }
  | ([Go.Ev.SV.agg [Go.Ev.SL.d (Go.Ev.DL.int Go.IntKind.u8 x1_0), Go.Ev.SL.d (Go.Ev.DL.int Go.IntKind.u8 x1_1), Go.Ev.SL.d (Go.Ev.DL.int Go.IntKind.u8 x1_2), Go.Ev.SL.d (Go.Ev.DL.int Go.IntKind.u8 x1_3), Go.Ev.SL.d (Go.Ev.DL.int Go.IntKind.u8 x1_4), Go.Ev.SL.d (Go.Ev.DL.int Go.IntKind.u8 x1_5), Go.Ev.SL.d (Go.Ev.DL.int Go.IntKind.u8 x1_6), Go.Ev.SL.d (Go.Ev.DL.int Go.IntKind.u8 x1_7), Go.Ev.SL.d (Go.Ev.DL.int Go.IntKind.u8 x1_8), Go.Ev.SL.d (Go.Ev.DL.int Go.IntKind.u8 x1_9), Go.Ev.SL.d (Go.Ev.DL.int Go.IntKind.u8 x1_10), Go.Ev.SL.d (Go.Ev.DL.int Go.IntKind.u8 x1_11), Go.Ev.SL.d (Go.Ev.DL.int Go.IntKind.u8 x1_12), Go.Ev.SL.d (Go.Ev.DL.int Go.IntKind.u8 x1_13), Go.Ev.SL.d (Go.Ev.DL.int Go.IntKind.u8 x1_14), Go.Ev.SL.d (Go.Ev.DL.int Go.IntKind.u8 x1_15), Go.Ev.SL.d (Go.Ev.DL.int Go.IntKind.u8 x1_16), Go.Ev.SL.d (Go.Ev.DL.int Go.IntKind.u8 x1_17), Go.Ev.SL.d (Go.Ev.DL.int Go.IntKind.u8 x1_18), Go.Ev.SL.d (Go.Ev.DL.int Go.IntKind.u8 x1_19), Go.Ev.SL.d (Go.Ev.DL.int Go.IntKind.u8 x1_20), Go.Ev.SL.d (Go.Ev.DL.int Go.IntKind.u8 x1_21), Go.Ev.SL.d (Go.Ev.DL.int Go.IntKind.u8 x1_22), Go.Ev.SL.d (Go.Ev.DL.int Go.IntKind.u8 x1_23), Go.Ev.SL.d (Go.Ev.DL.int Go.IntKind.u8 x1_24), Go.Ev.SL.d (Go.Ev.DL.int Go.IntKind.u8 x1_25), Go.Ev.SL.d (Go.Ev.DL.int Go.IntKind.u8 x1_26), Go.Ev.SL.d (Go.Ev.DL.int Go.IntKind.u8 x1_27), Go.Ev.SL.d (Go.Ev.DL.int Go.IntKind.u8 x1_28), Go.Ev.SL.d (Go.Ev.DL.int Go.IntKind.u8 x1_29), Go.Ev.SL.d (Go.Ev.DL.int Go.IntKind.u8 x1_30), Go.Ev.SL.d (Go.Ev.DL.int Go.IntKind.u8 x1_31)]], []) => some ⟨[x1_0, x1_1, x1_2, x1_3, x1_4, x1_5, x1_6, x1_7, x1_8, x1_9, x1_10, x1_11, x1_12, x1_13, x1_14, x1_15, x1_16, x1_17, x1_18, x1_19, x1_20, x1_21, x1_22, x1_23, x1_24, x1_25, x1_26, x1_27, x1_28, x1_29, x1_30, x1_31], rfl⟩
  | _ => none
abbrev o35 : Type := List Int
def ret35 : o35 → CSt := fun b => ([Go.Ev.SV.agg (Go.Ev.pkS Go.IntKind.u8 b (32 : Nat))], [])
def retK35 {R : Type} (K : CSt → Option R) : o35 → Option R := fun b => K (([Go.Ev.SV.agg (Go.Ev.pkS Go.IntKind.u8 b (32 : Nat))], []))
theorem retK35_eq {R : Type} (K : CSt → Option R) (b : o35) : retK35 K b = K (ret35 b) := rfl
abbrev Sd35 (f : i35 → Option o35) : Prop := ∀ a b, f a = some b → CallOk Try.prog 35 (enc35 a) (ret35 b)
def ent35 (f : i35 → Option o35) : Ent := mkEnt 35 dec35 ret35 retK35 retK35_eq f
def ann35 : Nat → List Nat × List Nat := fun id => ([], [])
def br35 : FuncId → Bool := fun (g : Nat) => ([67, 72] : List Nat).any (Nat.beq g)
def ar35 : TypeId → Bool := fun (t : Nat) => ([24, 25, 79, 82] : List Nat).any (Nat.beq t)
noncomputable def t35 {R : Type} (sh : Sh) (f57 : i57 → Option o57) (f19 : i19 → Option o19) (x1 : List Int) (k : o35 → Option R) : Option R :=
  sh (Go.Ev.colD (Go.Ev.mapD Go.IntKind.u8 (Go.Ev.pkL x1 (32 : Nat))) : Rows) fun y1 =>
  sh (List.replicate (32 : Nat) [Go.Ev.DL.int Go.IntKind.u8 (0 : Int)] : Rows) fun y2 =>
  bif Decidable.decide (List.length y1 = (32 : Nat)) then
    (f57 (Go.Ev.colI y1 (32 : Nat))).bind fun (r3 : Rows) =>
    (f19 (r3)).bind fun (r4 : List Int × Int) =>
    sh (List.replicate (32 : Nat) [Go.Ev.DL.int Go.IntKind.u8 (0 : Int)] : Rows) fun y5 =>
    bif Decidable.decide (List.length y5 = (32 : Nat)) then
      sh (Go.Ev.colD (Go.Ev.mapD Go.IntKind.u8 (Go.Ev.pkL (Prod.fst r4) (32 : Nat))) : Rows) fun y6 =>
      bif Decidable.decide (List.length y6 = (32 : Nat)) then
        bif Decidable.decide (List.length y2 = (32 : Nat)) then
          sh (Go.Ev.colD (Go.Ev.mapD Go.IntKind.u8 (Go.Ev.colI y6 (32 : Nat))) : Rows) fun y7 =>
          bif Decidable.decide (List.length y7 = (32 : Nat)) then
            k (Go.Ev.colI y7 (32 : Nat))
          else none
        else none
      else none
    else none
  else none
theorem t35_eq {R : Type} (sh : Sh) (hsh : ∀ {α R : Type} (x : α) (K : α → Option R), sh x K = K x) (f57 : i57 → Option o57) (f19 : i19 → Option o19) (x1 : List Int) (K : CSt → Option R) : bodyK Try.prog (tabO sh hsh br35 ar35 [ent57 f57, ent19 f19]) (tabL []) ann35 false Try.f35 (enc35 x1) K = t35 sh f57 f19 x1 (retK35 K) := by kernel_rfl
theorem t35_law {R : Type} (f57 : i57 → Option o57) (f19 : i19 → Option o19) (x1 : List Int) (K : o35 → Option R) : t35 sh0 f57 f19 x1 K = (t35 sh0 f57 f19 x1 some).bind K := by
  simp only [t35, sh0, cond_bind', two_bind, none_bind', Option.bind_assoc, Option.bind_some]
theorem ok35 (f57 : i57 → Option o57) (f19 : i19 → Option o19) (hf57 : Sd57 f57) (hf19 : Sd19 f19) : Sd35 (fun a => t35 sh0 f57 f19 a some) := by
  intro a b h
  refine call_ok (sh := sh0) (hsh := fun _ _ => rfl) (br := br35) (ar := ar35) (own := false) Try.mixed Try.func35 (by kernel_rfl) (.cons (mkEnt_ok hf57) (.cons (mkEnt_ok hf19) .nil)) (fun nt => .nil) ((t35_eq sh0 (fun _ _ => rfl) f57 f19 a _).trans ?_)
  rw [t35_law]
  simp only at h
  rw [h, Option.bind_some, retK35_eq]

/-! 59 erasure/signature.start -/
abbrev i59 : Type := List Int × Int × Int
def enc59 : i59 → CSt := fun a => ([Go.Ev.SV.agg (Go.Ev.pkS Go.IntKind.u8 a.1 (32 : Nat)), Go.Ev.SV.one (Go.Ev.SL.d (Go.Ev.DL.int Go.IntKind.i64 a.2.1)), Go.Ev.SV.one (Go.Ev.SL.d (Go.Ev.DL.int Go.IntKind.i64 a.2.2))], [])
def dec59 : (c : CSt) → Option { a : i59 // c = enc59 a }
  | ([Go.Ev.SV.agg [Go.Ev.SL.d (Go.Ev.DL.int Go.IntKind.u8 x1_0), Go.Ev.SL.d (Go.Ev.DL.int Go.IntKind.u8 x1_1), Go.Ev.SL.d (Go.Ev.DL.int Go.IntKind.u8 x1_2), Go.Ev.SL.d (Go.Ev.DL.int Go.IntKind.u8 x1_3), Go.Ev.SL.d (Go.Ev.DL.int Go.IntKind.u8 x1_4), Go.Ev.SL.d (Go.Ev.DL.int Go.IntKind.u8 x1_5), Go.Ev.SL.d (Go.Ev.DL.int Go.IntKind.u8 x1_6), Go.Ev.SL.d (Go.Ev.DL.int Go.IntKind.u8 x1_7), Go.Ev.SL.d (Go.Ev.DL.int Go.IntKind.u8 x1_8), Go.Ev.SL.d (Go.Ev.DL.int Go.IntKind.u8 x1_9), Go.Ev.SL.d (Go.Ev.DL.int Go.IntKind.u8 x1_10), Go.Ev.SL.d (Go.Ev.DL.int Go.IntKind.u8 x1_11), Go.Ev.SL.d (Go.Ev.DL.int Go.IntKind.u8 x1_12), Go.Ev.SL.d (Go.Ev.DL.int Go.IntKind.u8 x1_13), Go.Ev.SL.d (Go.Ev.DL.int Go.IntKind.u8 x1_14), Go.Ev.SL.d (Go.Ev.DL.int Go.IntKind.u8 x1_15), Go.Ev.SL.d (Go.Ev.DL.int Go.IntKind.u8 x1_16), Go.Ev.SL.d (Go.Ev.DL.int Go.IntKind.u8 x1_17), Go.Ev.SL.d (Go.Ev.DL.int Go.IntKind.u8 x1_18), Go.Ev.SL.d (Go.Ev.DL.int Go.IntKind.u8 x1_19), Go.Ev.SL.d (Go.Ev.DL.int Go.IntKind.u8 x1_20), Go.Ev.SL.d (Go.Ev.DL.int Go.IntKind.u8 x1_21), Go.Ev.SL.d (Go.Ev.DL.int Go.IntKind.u8 x1_22), Go.Ev.SL.d (Go.Ev.DL.int Go.IntKind.u8 x1_23), Go.Ev.SL.d (Go.Ev.DL.int Go.IntKind.u8 x1_24), Go.Ev.SL.d (Go.Ev.DL.int Go.IntKind.u8 x1_25), Go.Ev.SL.d (Go.Ev.DL.int Go.IntKind.u8 x1_26), Go.Ev.SL.d (Go.Ev.DL.int Go.IntKind.u8 x1_27), Go.Ev.SL.d (Go.Ev.DL.int Go.IntKind.u8 x1_28), Go.Ev.SL.d (Go.Ev.DL.int Go.IntKind.u8 x1_29), Go.Ev.SL.d (Go.Ev.DL.int Go.IntKind.u8 x1_30), Go.Ev.SL.d (Go.Ev.DL.int Go.IntKind.u8 x1_31)], Go.Ev.SV.one (Go.Ev.SL.d (Go.Ev.DL.int Go.IntKind.i64 x2)), Go.Ev.SV.one (Go.Ev.SL.d (Go.Ev.DL.int Go.IntKind.i64 x3))], []) => some ⟨([x1_0, x1_1, x1_2, x1_3, x1_4, x1_5, x1_6, x1_7, x1_8, x1_9, x1_10, x1_11, x1_12, x1_13, x1_14, x1_15, x1_16, x1_17, x1_18, x1_19, x1_20, x1_21, x1_22, x1_23, x1_24, x1_25, x1_26, x1_27, x1_28, x1_29, x1_30, x1_31], x2, x3), rfl⟩
  | _ => none
abbrev o59 : Type := List Int
def ret59 : o59 → CSt := fun b => ([Go.Ev.SV.agg (Go.Ev.pkS Go.IntKind.u8 b (32 : Nat))], [])
def retK59 {R : Type} (K : CSt → Option R) : o59 → Option R := fun b => K (([Go.Ev.SV.agg (Go.Ev.pkS Go.IntKind.u8 b (32 : Nat))], []))
theorem retK59_eq {R : Type} (K : CSt → Option R) (b : o59) : retK59 K b = K (ret59 b) := rfl
abbrev Sd59 (f : i59 → Option o59) : Prop := ∀ a b, f a = some b → CallOk Try.prog 59 (enc59 a) (ret59 b)
def ent59 (f : i59 → Option o59) : Ent := mkEnt 59 dec59 ret59 retK59 retK59_eq f
def ann59 : Nat → List Nat × List Nat := fun id => ([], [])
def br59 : FuncId → Bool := fun (g : Nat) => ([67, 72] : List Nat).any (Nat.beq g)
def ar59 : TypeId → Bool := fun (t : Nat) => ([24, 25, 79, 82] : List Nat).any (Nat.beq t)
noncomputable def t59 {R : Type} (sh : Sh) (f62 : i62 → Option o62) (f61 : i61 → Option o61) (x1 : List Int) (x2 : Int) (x3 : Int) (k : o59 → Option R) : Option R :=
  sh (Go.Ev.colD (Go.Ev.mapD Go.IntKind.u8 (Go.Ev.pkL x1 (32 : Nat))) : Rows) fun y1 =>
  sh (List.replicate (32 : Nat) [Go.Ev.DL.int Go.IntKind.u8 (0 : Int)] : Rows) fun y2 =>
  bif Decidable.decide (List.length y1 = (32 : Nat)) then
    (f62 ([], x2)).bind fun (r3 : Rows) =>
    (f62 (r3, x3)).bind fun (r4 : Rows) =>
    (f61 ((391 : Int), Go.Ev.colI y1 (32 : Nat), r4)).bind fun (r5 : List Int) =>
    bif Decidable.decide (List.length y2 = (32 : Nat)) then
      sh (Go.Ev.colD (Go.Ev.mapD Go.IntKind.u8 (Go.Ev.pkL r5 (32 : Nat))) : Rows) fun y6 =>
      bif Decidable.decide (List.length y6 = (32 : Nat)) then
        k (Go.Ev.colI y6 (32 : Nat))
      else none
    else none
  else none
theorem t59_eq {R : Type} (sh : Sh) (hsh : ∀ {α R : Type} (x : α) (K : α → Option R), sh x K = K x) (f62 : i62 → Option o62) (f61 : i61 → Option o61) (x1 : List Int) (x2 : Int) (x3 : Int) (K : CSt → Option R) : bodyK Try.prog (tabO sh hsh br59 ar59 [ent62 f62, ent61 f61]) (tabL []) ann59 false Try.f59 (enc59 (x1, x2, x3)) K = t59 sh f62 f61 x1 x2 x3 (retK59 K) := by kernel_rfl
theorem t59_law {R : Type} (f62 : i62 → Option o62) (f61 : i61 → Option o61) (x1 : List Int) (x2 : Int) (x3 : Int) (K : o59 → Option R) : t59 sh0 f62 f61 x1 x2 x3 K = (t59 sh0 f62 f61 x1 x2 x3 some).bind K := by
  simp only [t59, sh0, cond_bind', two_bind, none_bind', Option.bind_assoc, Option.bind_some]
theorem ok59 (f62 : i62 → Option o62) (f61 : i61 → Option o61) (hf62 : Sd62 f62) (hf61 : Sd61 f61) : Sd59 (fun a => t59 sh0 f62 f61 a.1 a.2.1 a.2.2 some) := by
  intro a b h
  refine call_ok (sh := sh0) (hsh := fun _ _ => rfl) (br := br59) (ar := ar59) (own := false) Try.mixed Try.func59 (by kernel_rfl) (.cons (mkEnt_ok hf62) (.cons (mkEnt_ok hf61) .nil)) (fun nt => .nil) ((t59_eq sh0 (fun _ _ => rfl) f62 f61 a.1 a.2.1 a.2.2 _).trans ?_)
  rw [t59_law]
  simp only at h
  rw [h, Option.bind_some, retK59_eq]

/-! 58 erasure/signature.leaves -/
abbrev i58 : Type := List Int
def enc58 : i58 → CSt := fun a => ([Go.Ev.SV.agg (Go.Ev.pkS Go.IntKind.u8 a (32 : Nat))], [])
def dec58 : (c : CSt) → Option { a : i58 // c = enc58 a }
  | ([Go.Ev.SV.agg [Go.Ev.SL.d (Go.Ev.DL.int Go.IntKind.u8 x1_0), Go.Ev.SL.d (Go.Ev.DL.int Go.IntKind.u8 x1_1), Go.Ev.SL.d (Go.Ev.DL.int Go.IntKind.u8 x1_2), Go.Ev.SL.d (Go.Ev.DL.int Go.IntKind.u8 x1_3), Go.Ev.SL.d (Go.Ev.DL.int Go.IntKind.u8 x1_4), Go.Ev.SL.d (Go.Ev.DL.int Go.IntKind.u8 x1_5), Go.Ev.SL.d (Go.Ev.DL.int Go.IntKind.u8 x1_6), Go.Ev.SL.d (Go.Ev.DL.int Go.IntKind.u8 x1_7), Go.Ev.SL.d (Go.Ev.DL.int Go.IntKind.u8 x1_8), Go.Ev.SL.d (Go.Ev.DL.int Go.IntKind.u8 x1_9), Go.Ev.SL.d (Go.Ev.DL.int Go.IntKind.u8 x1_10), Go.Ev.SL.d (Go.Ev.DL.int Go.IntKind.u8 x1_11), Go.Ev.SL.d (Go.Ev.DL.int Go.IntKind.u8 x1_12), Go.Ev.SL.d (Go.Ev.DL.int Go.IntKind.u8 x1_13), Go.Ev.SL.d (Go.Ev.DL.int Go.IntKind.u8 x1_14), Go.Ev.SL.d (Go.Ev.DL.int Go.IntKind.u8 x1_15), Go.Ev.SL.d (Go.Ev.DL.int Go.IntKind.u8 x1_16), Go.Ev.SL.d (Go.Ev.DL.int Go.IntKind.u8 x1_17), Go.Ev.SL.d (Go.Ev.DL.int Go.IntKind.u8 x1_18), Go.Ev.SL.d (Go.Ev.DL.int Go.IntKind.u8 x1_19), Go.Ev.SL.d (Go.Ev.DL.int Go.IntKind.u8 x1_20), Go.Ev.SL.d (Go.Ev.DL.int Go.IntKind.u8 x1_21), Go.Ev.SL.d (Go.Ev.DL.int Go.IntKind.u8 x1_22), Go.Ev.SL.d (Go.Ev.DL.int Go.IntKind.u8 x1_23), Go.Ev.SL.d (Go.Ev.DL.int Go.IntKind.u8 x1_24), Go.Ev.SL.d (Go.Ev.DL.int Go.IntKind.u8 x1_25), Go.Ev.SL.d (Go.Ev.DL.int Go.IntKind.u8 x1_26), Go.Ev.SL.d (Go.Ev.DL.int Go.IntKind.u8 x1_27), Go.Ev.SL.d (Go.Ev.DL.int Go.IntKind.u8 x1_28), Go.Ev.SL.d (Go.Ev.DL.int Go.IntKind.u8 x1_29), Go.Ev.SL.d (Go.Ev.DL.int Go.IntKind.u8 x1_30), Go.Ev.SL.d (Go.Ev.DL.int Go.IntKind.u8 x1_31)]], []) => some ⟨[x1_0, x1_1, x1_2, x1_3, x1_4, x1_5, x1_6, x1_7, x1_8, x1_9, x1_10, x1_11, x1_12, x1_13, x1_14, x1_15, x1_16, x1_17, x1_18, x1_19, x1_20, x1_21, x1_22, x1_23, x1_24, x1_25, x1_26, x1_27, x1_28, x1_29, x1_30, x1_31], rfl⟩
  | _ => none
abbrev o58 : Type := Rows
def ret58 : o58 → CSt := fun b => ([Go.Ev.SV.one (Go.Ev.SL.d (Go.Ev.DL.lst (25 : Nat) b))], [])
def retK58 {R : Type} (K : CSt → Option R) : o58 → Option R := fun b => K (([Go.Ev.SV.one (Go.Ev.SL.d (Go.Ev.DL.lst (25 : Nat) b))], []))
theorem retK58_eq {R : Type} (K : CSt → Option R) (b : o58) : retK58 K b = K (ret58 b) := rfl
abbrev Sd58 (f : i58 → Option o58) : Prop := ∀ a b, f a = some b → CallOk Try.prog 58 (enc58 a) (ret58 b)
def ent58 (f : i58 → Option o58) : Ent := mkEnt 58 dec58 ret58 retK58 retK58_eq f
def ann58 : Nat → List Nat × List Nat := fun id => bif Nat.beq id 3 then ([1, 3, 4], [3]) else bif Nat.beq id 7 then ([1, 3, 4, 5, 6], [1, 3, 4, 5]) else ([], [])
def br58 : FuncId → Bool := fun (g : Nat) => ([67, 72] : List Nat).any (Nat.beq g)
def ar58 : TypeId → Bool := fun (t : Nat) => ([24, 25, 79, 82] : List Nat).any (Nat.beq t)
abbrev iL58_3 : Type := Int × Rows × Rows
def encL58_3 : iL58_3 → CSt := fun a => ([Go.Ev.SV.one (Go.Ev.SL.ept (0 : Nat) (0 : Nat) (0 : Nat)), Go.Ev.SV.one (Go.Ev.SL.vr (1 : Nat)), Go.Ev.SV.one (Go.Ev.SL.d (Go.Ev.DL.int Go.IntKind.i64 a.1))], [Go.Ev.Obj.vec (5 : Nat) Bool.false a.2.1, Go.Ev.Obj.vec (25 : Nat) Bool.false a.2.2])
def decL58_3 : (c : CSt) → Option { a : iL58_3 // c = encL58_3 a }
  | ([Go.Ev.SV.one (Go.Ev.SL.ept (0 : Nat) (0 : Nat) (0 : Nat)), Go.Ev.SV.one (Go.Ev.SL.vr (1 : Nat)), Go.Ev.SV.one (Go.Ev.SL.d (Go.Ev.DL.int Go.IntKind.i64 x1))], [Go.Ev.Obj.vec (5 : Nat) Bool.false x2, Go.Ev.Obj.vec (25 : Nat) Bool.false x3]) => some ⟨(x1, x2, x3), rfl⟩
  | _ => none
abbrev oL58_3 : Type := Rows
def retL58_3 : oL58_3 → Ex × CSt := fun b => (Go.Ev.Ex.exit (0 : Nat), ([Go.Ev.SV.one (Go.Ev.SL.vr (0 : Nat))], [Go.Ev.Obj.vec (25 : Nat) Bool.false b]))
def retKL58_3 {R : Type} (K : Ex → CSt → Option R) : oL58_3 → Option R := fun b => K (Go.Ev.Ex.exit (0 : Nat)) (([Go.Ev.SV.one (Go.Ev.SL.vr (0 : Nat))], [Go.Ev.Obj.vec (25 : Nat) Bool.false b]))
theorem retKL58_3_eq {R : Type} (K : Ex → CSt → Option R) (b : oL58_3) : retKL58_3 K b = K (retL58_3 b).1 (retL58_3 b).2 := rfl
def entL58_3 (l : iL58_3 → Option oL58_3) : LEnt := mkLEnt 3 decL58_3 retL58_3 retKL58_3 retKL58_3_eq l
abbrev SdL58_3 (l : iL58_3 → Option oL58_3) : Prop := ∀ nt a b, l a = some b → LoopAt Try.prog nt 0 ann58 Try.f58 3 (encL58_3 a) (retL58_3 b)
abbrev iL58_7 : Type := Int × Int × Rows × Rows × Rows
def encL58_7 : iL58_7 → CSt := fun a => ([Go.Ev.SV.one (Go.Ev.SL.ept (0 : Nat) (0 : Nat) (0 : Nat)), Go.Ev.SV.one (Go.Ev.SL.vr (1 : Nat)), Go.Ev.SV.one (Go.Ev.SL.d (Go.Ev.DL.int Go.IntKind.i64 a.1)), Go.Ev.SV.one (Go.Ev.SL.vr (2 : Nat)), Go.Ev.SV.one (Go.Ev.SL.d (Go.Ev.DL.int Go.IntKind.i64 a.2.1))], [Go.Ev.Obj.vec (5 : Nat) Bool.false a.2.2.1, Go.Ev.Obj.vec (25 : Nat) Bool.false a.2.2.2.1, Go.Ev.Obj.vec (25 : Nat) Bool.false a.2.2.2.2])
def decL58_7 : (c : CSt) → Option { a : iL58_7 // c = encL58_7 a }
  | ([Go.Ev.SV.one (Go.Ev.SL.ept (0 : Nat) (0 : Nat) (0 : Nat)), Go.Ev.SV.one (Go.Ev.SL.vr (1 : Nat)), Go.Ev.SV.one (Go.Ev.SL.d (Go.Ev.DL.int Go.IntKind.i64 x1)), Go.Ev.SV.one (Go.Ev.SL.vr (2 : Nat)), Go.Ev.SV.one (Go.Ev.SL.d (Go.Ev.DL.int Go.IntKind.i64 x2))], [Go.Ev.Obj.vec (5 : Nat) Bool.false x3, Go.Ev.Obj.vec (25 : Nat) Bool.false x4, Go.Ev.Obj.vec (25 : Nat) Bool.false x5]) => some ⟨(x1, x2, x3, x4, x5), rfl⟩
  | _ => none
abbrev oL58_7 : Type := Int × Rows × Rows × Rows
def retL58_7 : oL58_7 → Ex × CSt := fun b => (Go.Ev.Ex.exit (2 : Nat), ([Go.Ev.SV.one (Go.Ev.SL.ept (0 : Nat) (0 : Nat) (0 : Nat)), Go.Ev.SV.one (Go.Ev.SL.vr (1 : Nat)), Go.Ev.SV.one (Go.Ev.SL.d (Go.Ev.DL.int Go.IntKind.i64 b.1)), Go.Ev.SV.one (Go.Ev.SL.vr (2 : Nat))], [Go.Ev.Obj.vec (5 : Nat) Bool.false b.2.1, Go.Ev.Obj.vec (25 : Nat) Bool.false b.2.2.1, Go.Ev.Obj.vec (25 : Nat) Bool.false b.2.2.2]))
def retKL58_7 {R : Type} (K : Ex → CSt → Option R) : oL58_7 → Option R := fun b => K (Go.Ev.Ex.exit (2 : Nat)) (([Go.Ev.SV.one (Go.Ev.SL.ept (0 : Nat) (0 : Nat) (0 : Nat)), Go.Ev.SV.one (Go.Ev.SL.vr (1 : Nat)), Go.Ev.SV.one (Go.Ev.SL.d (Go.Ev.DL.int Go.IntKind.i64 b.1)), Go.Ev.SV.one (Go.Ev.SL.vr (2 : Nat))], [Go.Ev.Obj.vec (5 : Nat) Bool.false b.2.1, Go.Ev.Obj.vec (25 : Nat) Bool.false b.2.2.1, Go.Ev.Obj.vec (25 : Nat) Bool.false b.2.2.2]))
theorem retKL58_7_eq {R : Type} (K : Ex → CSt → Option R) (b : oL58_7) : retKL58_7 K b = K (retL58_7 b).1 (retL58_7 b).2 := rfl
def entL58_7 (l : iL58_7 → Option oL58_7) : LEnt := mkLEnt 7 decL58_7 retL58_7 retKL58_7 retKL58_7_eq l
abbrev SdL58_7 (l : iL58_7 → Option oL58_7) : Prop := ∀ nt a b, l a = some b → LoopAt Try.prog nt 0 ann58 Try.f58 7 (encL58_7 a) (retL58_7 b)
noncomputable def u58_3 {R : Type} (sh : Sh) (f59 : i59 → Option o59) (f51 : i51 → Option o51) (f52 : i52 → Option o52) (l58_7 : iL58_7 → Option oL58_7) (l58_3 : iL58_3 → Option oL58_3) (x1 : Int) (x2 : Rows) (x3 : Rows) (k : oL58_3 → Option R) : Option R :=
  bif Decidable.decide (x1 < (4 : Int)) then
    sh ([] : Rows) fun y4 =>
    (l58_7 (x1, (0 : Int), x2, x3, y4)).bind fun (r9 : Int × Rows × Rows × Rows) =>
    (f52 (Prod.snd (Prod.snd r9).2)).bind fun (r10 : List Int) =>
    sh ([Go.Ev.mapD Go.IntKind.u8 (Go.Ev.pkL r10 (32 : Nat))] : Rows) fun y11 =>
    bif Go.Ev.roomE Go.Proofs.Try.prog (25 : Nat) (List.length (Prod.fst (Prod.snd r9).2) + List.length y11) then
      sh (Prod.fst (Prod.snd r9).2 ++ y11 : Rows) fun y12 =>
      (l58_3 (Go.IntKind.wrap Go.IntKind.i64 (Prod.fst r9 + (1 : Int)), Prod.fst r9.2, y12)).bind k
    else none
  else
    k (x3)
theorem u58_3_eq {R : Type} (sh : Sh) (hsh : ∀ {α R : Type} (x : α) (K : α → Option R), sh x K = K x) (f59 : i59 → Option o59) (f51 : i51 → Option o51) (f52 : i52 → Option o52) (l58_7 : iL58_7 → Option oL58_7) (l58_3 : iL58_3 → Option oL58_3) (x1 : Int) (x2 : Rows) (x3 : Rows) (K : Ex → CSt → Option R) : roundK Try.prog (tabO sh hsh br58 ar58 [ent59 f59, ent51 f51, ent52 f52]) (tabL [entL58_7 l58_7, entL58_3 l58_3]) ann58 0 Try.f58 3 (encL58_3 (x1, x2, x3)) K = u58_3 sh f59 f51 f52 l58_7 l58_3 x1 x2 x3 (retKL58_3 K) := by kernel_rfl
theorem u58_3_law {R : Type} (f59 : i59 → Option o59) (f51 : i51 → Option o51) (f52 : i52 → Option o52) (l58_7 : iL58_7 → Option oL58_7) (l58_3 : iL58_3 → Option oL58_3) (x1 : Int) (x2 : Rows) (x3 : Rows) (K : oL58_3 → Option R) : u58_3 sh0 f59 f51 f52 l58_7 l58_3 x1 x2 x3 K = (u58_3 sh0 f59 f51 f52 l58_7 l58_3 x1 x2 x3 some).bind K := by
  simp only [u58_3, sh0, cond_bind', two_bind, none_bind', Option.bind_assoc, Option.bind_some]
theorem okL58_3 (f59 : i59 → Option o59) (f51 : i51 → Option o51) (f52 : i52 → Option o52) (l58_7 : iL58_7 → Option oL58_7) (l58_3 : iL58_3 → Option oL58_3) (hf59 : Sd59 f59) (hf51 : Sd51 f51) (hf52 : Sd52 f52) (hl58_7 : SdL58_7 l58_7) (hl58_3 : SdL58_3 l58_3) : SdL58_3 (fun a => u58_3 sh0 f59 f51 f52 l58_7 l58_3 a.1 a.2.1 a.2.2 some) := by
  intro nt a b h
  refine round_ok (sh := sh0) (hsh := fun _ _ => rfl) (br := br58) (ar := ar58) Try.mixed (by kernel_rfl) (.cons (mkEnt_ok hf59) (.cons (mkEnt_ok hf51) (.cons (mkEnt_ok hf52) .nil))) (.cons (mkLEnt_ok (hl58_7 nt)) (.cons (mkLEnt_ok (hl58_3 nt)) .nil)) ((u58_3_eq sh0 (fun _ _ => rfl) f59 f51 f52 l58_7 l58_3  a.1 a.2.1 a.2.2 _).trans ?_)
  rw [u58_3_law]
  simp only at h
  rw [h, Option.bind_some, retKL58_3_eq]
noncomputable def u58_7 {R : Type} (sh : Sh) (f59 : i59 → Option o59) (f51 : i51 → Option o51) (l58_7 : iL58_7 → Option oL58_7) (x1 : Int) (x2 : Int) (x3 : Rows) (x4 : Rows) (x5 : Rows) (k : oL58_7 → Option R) : Option R :=
  bif Decidable.decide (x2 < (35 : Int)) then
    bif Decidable.decide (List.length x3 = (32 : Nat)) then
      (f59 (Go.Ev.colI x3 (32 : Nat), x1, x2)).bind fun (r5 : List Int) =>
      (f51 (Go.Ev.pkL r5 (32 : Nat), (15 : Int))).bind fun (r6 : List Int) =>
      sh ([Go.Ev.mapD Go.IntKind.u8 (Go.Ev.pkL r6 (32 : Nat))] : Rows) fun y7 =>
      bif Go.Ev.roomE Go.Proofs.Try.prog (25 : Nat) (List.length x5 + List.length y7) then
        sh (x5 ++ y7 : Rows) fun y8 =>
        (l58_7 (x1, Go.IntKind.wrap Go.IntKind.i64 (x2 + (1 : Int)), x3, x4, y8)).bind k
      else none
    else none
  else
    k ((x1, x3, x4, x5))
theorem u58_7_eq {R : Type} (sh : Sh) (hsh : ∀ {α R : Type} (x : α) (K : α → Option R), sh x K = K x) (f59 : i59 → Option o59) (f51 : i51 → Option o51) (l58_7 : iL58_7 → Option oL58_7) (x1 : Int) (x2 : Int) (x3 : Rows) (x4 : Rows) (x5 : Rows) (K : Ex → CSt → Option R) : roundK Try.prog (tabO sh hsh br58 ar58 [ent59 f59, ent51 f51]) (tabL [entL58_7 l58_7]) ann58 0 Try.f58 7 (encL58_7 (x1, x2, x3, x4, x5)) K = u58_7 sh f59 f51 l58_7 x1 x2 x3 x4 x5 (retKL58_7 K) := by kernel_rfl
theorem u58_7_law {R : Type} (f59 : i59 → Option o59) (f51 : i51 → Option o51) (l58_7 : iL58_7 → Option oL58_7) (x1 : Int) (x2 : Int) (x3 : Rows) (x4 : Rows) (x5 : Rows) (K : oL58_7 → Option R) : u58_7 sh0 f59 f51 l58_7 x1 x2 x3 x4 x5 K = (u58_7 sh0 f59 f51 l58_7 x1 x2 x3 x4 x5 some).bind K := by
  simp only [u58_7, sh0, cond_bind', two_bind, none_bind', Option.bind_assoc, Option.bind_some]
theorem okL58_7 (f59 : i59 → Option o59) (f51 : i51 → Option o51) (l58_7 : iL58_7 → Option oL58_7) (hf59 : Sd59 f59) (hf51 : Sd51 f51) (hl58_7 : SdL58_7 l58_7) : SdL58_7 (fun a => u58_7 sh0 f59 f51 l58_7 a.1 a.2.1 a.2.2.1 a.2.2.2.1 a.2.2.2.2 some) := by
  intro nt a b h
  refine round_ok (sh := sh0) (hsh := fun _ _ => rfl) (br := br58) (ar := ar58) Try.mixed (by kernel_rfl) (.cons (mkEnt_ok hf59) (.cons (mkEnt_ok hf51) .nil)) (.cons (mkLEnt_ok (hl58_7 nt)) .nil) ((u58_7_eq sh0 (fun _ _ => rfl) f59 f51 l58_7  a.1 a.2.1 a.2.2.1 a.2.2.2.1 a.2.2.2.2 _).trans ?_)
  rw [u58_7_law]
  simp only at h
  rw [h, Option.bind_some, retKL58_7_eq]
noncomputable def t58 {R : Type} (sh : Sh) (l58_3 : iL58_3 → Option oL58_3) (x1 : List Int) (k : o58 → Option R) : Option R :=
  sh (Go.Ev.colD (Go.Ev.mapD Go.IntKind.u8 (Go.Ev.pkL x1 (32 : Nat))) : Rows) fun y1 =>
  sh ([] : Rows) fun y2 =>
  sh ([] : Rows) fun y3 =>
  (l58_3 ((0 : Int), y1, y3)).bind fun (r13 : Rows) =>
  k (r13)
theorem t58_eq {R : Type} (sh : Sh) (hsh : ∀ {α R : Type} (x : α) (K : α → Option R), sh x K = K x) (l58_3 : iL58_3 → Option oL58_3) (x1 : List Int) (K : CSt → Option R) : bodyK Try.prog (tabO sh hsh br58 ar58 []) (tabL [entL58_3 l58_3]) ann58 false Try.f58 (enc58 x1) K = t58 sh l58_3 x1 (retK58 K) := by kernel_rfl
theorem t58_law {R : Type} (l58_3 : iL58_3 → Option oL58_3) (x1 : List Int) (K : o58 → Option R) : t58 sh0 l58_3 x1 K = (t58 sh0 l58_3 x1 some).bind K := by
  simp only [t58, sh0, cond_bind', two_bind, none_bind', Option.bind_assoc, Option.bind_some]
theorem ok58 (l58_3 : iL58_3 → Option oL58_3) (hl58_3 : SdL58_3 l58_3) : Sd58 (fun a => t58 sh0 l58_3 a some) := by
  intro a b h
  refine call_ok (sh := sh0) (hsh := fun _ _ => rfl) (br := br58) (ar := ar58) (own := false) Try.mixed Try.func58 (by kernel_rfl) .nil (fun nt => (.cons (mkLEnt_ok (hl58_3 nt)) .nil)) ((t58_eq sh0 (fun _ _ => rfl) l58_3 a _).trans ?_)
  rw [t58_law]
  simp only at h
  rw [h, Option.bind_some, retK58_eq]

/-! 38 erasure/erasureref39.Same -/
abbrev i38 : Type := Int × Rows × Int × Int × Rows × Int × Rows × Int × Int × Rows
def enc38 : i38 → CSt := fun a => ([Go.Ev.SV.agg [Go.Ev.SL.d (Go.Ev.DL.int Go.IntKind.i64 a.1), Go.Ev.SL.d (Go.Ev.DL.lst (25 : Nat) a.2.1), Go.Ev.SL.d (Go.Ev.DL.int Go.IntKind.i64 a.2.2.1), Go.Ev.SL.d (Go.Ev.DL.int Go.IntKind.i64 a.2.2.2.1), Go.Ev.SL.d (Go.Ev.DL.lst (25 : Nat) a.2.2.2.2.1)], Go.Ev.SV.agg [Go.Ev.SL.d (Go.Ev.DL.int Go.IntKind.i64 a.2.2.2.2.2.1), Go.Ev.SL.d (Go.Ev.DL.lst (25 : Nat) a.2.2.2.2.2.2.1), Go.Ev.SL.d (Go.Ev.DL.int Go.IntKind.i64 a.2.2.2.2.2.2.2.1), Go.Ev.SL.d (Go.Ev.DL.int Go.IntKind.i64 a.2.2.2.2.2.2.2.2.1), Go.Ev.SL.d (Go.Ev.DL.lst (25 : Nat) a.2.2.2.2.2.2.2.2.2)]], [])
def dec38 : (c : CSt) → Option { a : i38 // c = enc38 a }
  | ([Go.Ev.SV.agg [Go.Ev.SL.d (Go.Ev.DL.int Go.IntKind.i64 x1), Go.Ev.SL.d (Go.Ev.DL.lst (25 : Nat) x2), Go.Ev.SL.d (Go.Ev.DL.int Go.IntKind.i64 x3), Go.Ev.SL.d (Go.Ev.DL.int Go.IntKind.i64 x4), Go.Ev.SL.d (Go.Ev.DL.lst (25 : Nat) x5)], Go.Ev.SV.agg [Go.Ev.SL.d (Go.Ev.DL.int Go.IntKind.i64 x6), Go.Ev.SL.d (Go.Ev.DL.lst (25 : Nat) x7), Go.Ev.SL.d (Go.Ev.DL.int Go.IntKind.i64 x8), Go.Ev.SL.d (Go.Ev.DL.int Go.IntKind.i64 x9), Go.Ev.SL.d (Go.Ev.DL.lst (25 : Nat) x10)]], []) => some ⟨(x1, x2, x3, x4, x5, x6, x7, x8, x9, x10), rfl⟩
  | _ => none
abbrev o38 : Type := Bool
def ret38 : o38 → CSt := fun b => ([Go.Ev.SV.one (Go.Ev.SL.d (Go.Ev.DL.bool b))], [])
def retK38 {R : Type} (K : CSt → Option R) : o38 → Option R := fun b => K (([Go.Ev.SV.one (Go.Ev.SL.d (Go.Ev.DL.bool b))], []))
theorem retK38_eq {R : Type} (K : CSt → Option R) (b : o38) : retK38 K b = K (ret38 b) := rfl
abbrev Sd38 (f : i38 → Option o38) : Prop := ∀ a b, f a = some b → CallOk Try.prog 38 (enc38 a) (ret38 b)
def ent38 (f : i38 → Option o38) : Ent := mkEnt 38 dec38 ret38 retK38 retK38_eq f
def ann38 : Nat → List Nat × List Nat := fun id => bif Nat.beq id 4 then ([2, 3, 5], [4]) else ([], [])
def br38 : FuncId → Bool := fun (g : Nat) => ([67, 72] : List Nat).any (Nat.beq g)
def ar38 : TypeId → Bool := fun (t : Nat) => ([24, 25, 79, 82] : List Nat).any (Nat.beq t)
abbrev iL38_4 : Type := Int × Int × Rows × Int × Int × Rows × Int × Rows × Int × Int × Rows
def encL38_4 : iL38_4 → CSt := fun a => ([Go.Ev.SV.one (Go.Ev.SL.ptr (0 : Nat) (0 : Nat)), Go.Ev.SV.one (Go.Ev.SL.ptr (1 : Nat) (0 : Nat)), Go.Ev.SV.one (Go.Ev.SL.d (Go.Ev.DL.int Go.IntKind.i64 a.1))], [Go.Ev.Obj.box (49 : Nat) [Go.Ev.SL.d (Go.Ev.DL.int Go.IntKind.i64 a.2.1), Go.Ev.SL.d (Go.Ev.DL.lst (25 : Nat) a.2.2.1), Go.Ev.SL.d (Go.Ev.DL.int Go.IntKind.i64 a.2.2.2.1), Go.Ev.SL.d (Go.Ev.DL.int Go.IntKind.i64 a.2.2.2.2.1), Go.Ev.SL.d (Go.Ev.DL.lst (25 : Nat) a.2.2.2.2.2.1)], Go.Ev.Obj.box (49 : Nat) [Go.Ev.SL.d (Go.Ev.DL.int Go.IntKind.i64 a.2.2.2.2.2.2.1), Go.Ev.SL.d (Go.Ev.DL.lst (25 : Nat) a.2.2.2.2.2.2.2.1), Go.Ev.SL.d (Go.Ev.DL.int Go.IntKind.i64 a.2.2.2.2.2.2.2.2.1), Go.Ev.SL.d (Go.Ev.DL.int Go.IntKind.i64 a.2.2.2.2.2.2.2.2.2.1), Go.Ev.SL.d (Go.Ev.DL.lst (25 : Nat) a.2.2.2.2.2.2.2.2.2.2)]])
def decL38_4 : (c : CSt) → Option { a : iL38_4 // c = encL38_4 a }
  | ([Go.Ev.SV.one (Go.Ev.SL.ptr (0 : Nat) (0 : Nat)), Go.Ev.SV.one (Go.Ev.SL.ptr (1 : Nat) (0 : Nat)), Go.Ev.SV.one (Go.Ev.SL.d (Go.Ev.DL.int Go.IntKind.i64 x1))], [Go.Ev.Obj.box (49 : Nat) [Go.Ev.SL.d (Go.Ev.DL.int Go.IntKind.i64 x2), Go.Ev.SL.d (Go.Ev.DL.lst (25 : Nat) x3), Go.Ev.SL.d (Go.Ev.DL.int Go.IntKind.i64 x4), Go.Ev.SL.d (Go.Ev.DL.int Go.IntKind.i64 x5), Go.Ev.SL.d (Go.Ev.DL.lst (25 : Nat) x6)], Go.Ev.Obj.box (49 : Nat) [Go.Ev.SL.d (Go.Ev.DL.int Go.IntKind.i64 x7), Go.Ev.SL.d (Go.Ev.DL.lst (25 : Nat) x8), Go.Ev.SL.d (Go.Ev.DL.int Go.IntKind.i64 x9), Go.Ev.SL.d (Go.Ev.DL.int Go.IntKind.i64 x10), Go.Ev.SL.d (Go.Ev.DL.lst (25 : Nat) x11)]]) => some ⟨(x1, x2, x3, x4, x5, x6, x7, x8, x9, x10, x11), rfl⟩
  | _ => none
abbrev oL38_4 : Type := (Bool) ⊕ (Unit)
def retL38_4 : oL38_4 → Ex × CSt := two (fun b => (Go.Ev.Ex.ret, ([Go.Ev.SV.one (Go.Ev.SL.d (Go.Ev.DL.bool b))], []))) (fun b => (Go.Ev.Ex.exit (0 : Nat), ([Go.Ev.SV.one Go.Ev.SL.un], [])))
def retKL38_4 {R : Type} (K : Ex → CSt → Option R) : oL38_4 → Option R := two (fun b => K (Go.Ev.Ex.ret) (([Go.Ev.SV.one (Go.Ev.SL.d (Go.Ev.DL.bool b))], []))) (fun b => K (Go.Ev.Ex.exit (0 : Nat)) (([Go.Ev.SV.one Go.Ev.SL.un], [])))
theorem retKL38_4_eq {R : Type} (K : Ex → CSt → Option R) (b : oL38_4) : retKL38_4 K b = K (retL38_4 b).1 (retL38_4 b).2 := by
  unfold retKL38_4 retL38_4
  repeat' (first | rfl | cases b with | inl b => rfl | inr b => ?_)
def entL38_4 (l : iL38_4 → Option oL38_4) : LEnt := mkLEnt 4 decL38_4 retL38_4 retKL38_4 retKL38_4_eq l
abbrev SdL38_4 (l : iL38_4 → Option oL38_4) : Prop := ∀ nt a b, l a = some b → LoopAt Try.prog nt 0 ann38 Try.f38 4 (encL38_4 a) (retL38_4 b)
noncomputable def u38_4 {R : Type} (sh : Sh) (l38_4 : iL38_4 → Option oL38_4) (x1 : Int) (x2 : Int) (x3 : Rows) (x4 : Int) (x5 : Int) (x6 : Rows) (x7 : Int) (x8 : Rows) (x9 : Int) (x10 : Int) (x11 : Rows) (k : oL38_4 → Option R) : Option R :=
  sh ((↑(List.length x3) : Int)) fun y4 =>
  bif Decidable.decide (x1 < y4) then
    bif Decidable.decide ((0 : Int) ≤ x1 ∧ x1 < (↑(List.length x3) : Int)) then
      bif Decidable.decide ((0 : Int) ≤ x1 ∧ x1 < (↑(List.length x8) : Int)) then
        bif !Go.Ev.eqI (Go.Ev.rowI x3 (Int.toNat x1) (32 : Nat)) (Go.Ev.rowI x8 (Int.toNat x1) (32 : Nat)) (32 : Nat) then
          k ((.inl Bool.false))
        else
          (l38_4 (Go.IntKind.wrap Go.IntKind.i64 (x1 + (1 : Int)), x2, x3, x4, x5, x6, x7, x8, x9, x10, x11)).bind k
      else none
    else none
  else
    k ((.inr ()))
theorem u38_4_eq {R : Type} (sh : Sh) (hsh : ∀ {α R : Type} (x : α) (K : α → Option R), sh x K = K x) (l38_4 : iL38_4 → Option oL38_4) (x1 : Int) (x2 : Int) (x3 : Rows) (x4 : Int) (x5 : Int) (x6 : Rows) (x7 : Int) (x8 : Rows) (x9 : Int) (x10 : Int) (x11 : Rows) (K : Ex → CSt → Option R) : roundK Try.prog (tabO sh hsh br38 ar38 []) (tabL [entL38_4 l38_4]) ann38 0 Try.f38 4 (encL38_4 (x1, x2, x3, x4, x5, x6, x7, x8, x9, x10, x11)) K = u38_4 sh l38_4 x1 x2 x3 x4 x5 x6 x7 x8 x9 x10 x11 (retKL38_4 K) := by kernel_rfl
theorem u38_4_law {R : Type} (l38_4 : iL38_4 → Option oL38_4) (x1 : Int) (x2 : Int) (x3 : Rows) (x4 : Int) (x5 : Int) (x6 : Rows) (x7 : Int) (x8 : Rows) (x9 : Int) (x10 : Int) (x11 : Rows) (K : oL38_4 → Option R) : u38_4 sh0 l38_4 x1 x2 x3 x4 x5 x6 x7 x8 x9 x10 x11 K = (u38_4 sh0 l38_4 x1 x2 x3 x4 x5 x6 x7 x8 x9 x10 x11 some).bind K := by
  simp only [u38_4, sh0, cond_bind', two_bind, none_bind', Option.bind_assoc, Option.bind_some]
theorem okL38_4 (l38_4 : iL38_4 → Option oL38_4) (hl38_4 : SdL38_4 l38_4) : SdL38_4 (fun a => u38_4 sh0 l38_4 a.1 a.2.1 a.2.2.1 a.2.2.2.1 a.2.2.2.2.1 a.2.2.2.2.2.1 a.2.2.2.2.2.2.1 a.2.2.2.2.2.2.2.1 a.2.2.2.2.2.2.2.2.1 a.2.2.2.2.2.2.2.2.2.1 a.2.2.2.2.2.2.2.2.2.2 some) := by
  intro nt a b h
  refine round_ok (sh := sh0) (hsh := fun _ _ => rfl) (br := br38) (ar := ar38) Try.mixed (by kernel_rfl) .nil (.cons (mkLEnt_ok (hl38_4 nt)) .nil) ((u38_4_eq sh0 (fun _ _ => rfl) l38_4  a.1 a.2.1 a.2.2.1 a.2.2.2.1 a.2.2.2.2.1 a.2.2.2.2.2.1 a.2.2.2.2.2.2.1 a.2.2.2.2.2.2.2.1 a.2.2.2.2.2.2.2.2.1 a.2.2.2.2.2.2.2.2.2.1 a.2.2.2.2.2.2.2.2.2.2 _).trans ?_)
  rw [u38_4_law]
  simp only at h
  rw [h, Option.bind_some, retKL38_4_eq]
noncomputable def t38 {R : Type} (sh : Sh) (f24 : i24 → Option o24) (l38_4 : iL38_4 → Option oL38_4) (x1 : Int) (x2 : Rows) (x3 : Int) (x4 : Int) (x5 : Rows) (x6 : Int) (x7 : Rows) (x8 : Int) (x9 : Int) (x10 : Rows) (k : o38 → Option R) : Option R :=
  bif x1 != x6 then
    k (Bool.false)
  else
    sh ((↑(List.length x2) : Int)) fun y1 =>
    sh ((↑(List.length x7) : Int)) fun y2 =>
    bif y1 != y2 then
      k (Bool.false)
    else
      (f24 (x3, x4, x5, x8, x9, x10)).bind fun (r3 : Bool) =>
      bif !r3 then
        k (Bool.false)
      else
        (l38_4 ((0 : Int), x1, x2, x3, x4, x5, x6, x7, x8, x9, x10)).bind (two (fun (r5 : Bool) =>
          k (r5)
        ) (fun _ =>
          k (Bool.true)
        ))
theorem t38_eq {R : Type} (sh : Sh) (hsh : ∀ {α R : Type} (x : α) (K : α → Option R), sh x K = K x) (f24 : i24 → Option o24) (l38_4 : iL38_4 → Option oL38_4) (x1 : Int) (x2 : Rows) (x3 : Int) (x4 : Int) (x5 : Rows) (x6 : Int) (x7 : Rows) (x8 : Int) (x9 : Int) (x10 : Rows) (K : CSt → Option R) : bodyK Try.prog (tabO sh hsh br38 ar38 [ent24 f24]) (tabL [entL38_4 l38_4]) ann38 false Try.f38 (enc38 (x1, x2, x3, x4, x5, x6, x7, x8, x9, x10)) K = t38 sh f24 l38_4 x1 x2 x3 x4 x5 x6 x7 x8 x9 x10 (retK38 K) := by kernel_rfl
theorem t38_law {R : Type} (f24 : i24 → Option o24) (l38_4 : iL38_4 → Option oL38_4) (x1 : Int) (x2 : Rows) (x3 : Int) (x4 : Int) (x5 : Rows) (x6 : Int) (x7 : Rows) (x8 : Int) (x9 : Int) (x10 : Rows) (K : o38 → Option R) : t38 sh0 f24 l38_4 x1 x2 x3 x4 x5 x6 x7 x8 x9 x10 K = (t38 sh0 f24 l38_4 x1 x2 x3 x4 x5 x6 x7 x8 x9 x10 some).bind K := by
  simp only [t38, sh0, cond_bind', two_bind, none_bind', Option.bind_assoc, Option.bind_some]
theorem ok38 (f24 : i24 → Option o24) (l38_4 : iL38_4 → Option oL38_4) (hf24 : Sd24 f24) (hl38_4 : SdL38_4 l38_4) : Sd38 (fun a => t38 sh0 f24 l38_4 a.1 a.2.1 a.2.2.1 a.2.2.2.1 a.2.2.2.2.1 a.2.2.2.2.2.1 a.2.2.2.2.2.2.1 a.2.2.2.2.2.2.2.1 a.2.2.2.2.2.2.2.2.1 a.2.2.2.2.2.2.2.2.2 some) := by
  intro a b h
  refine call_ok (sh := sh0) (hsh := fun _ _ => rfl) (br := br38) (ar := ar38) (own := false) Try.mixed Try.func38 (by kernel_rfl) (.cons (mkEnt_ok hf24) .nil) (fun nt => (.cons (mkLEnt_ok (hl38_4 nt)) .nil)) ((t38_eq sh0 (fun _ _ => rfl) f24 l38_4 a.1 a.2.1 a.2.2.1 a.2.2.2.1 a.2.2.2.2.1 a.2.2.2.2.2.1 a.2.2.2.2.2.2.1 a.2.2.2.2.2.2.2.1 a.2.2.2.2.2.2.2.2.1 a.2.2.2.2.2.2.2.2.2 _).trans ?_)
  rw [t38_law]
  simp only at h
  rw [h, Option.bind_some, retK38_eq]

end Go.Proofs.SmG
