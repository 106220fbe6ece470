/- Printed by a tool of mine: plain functions, their equations and contracts. -/
import Derived.Test.YtfnehcadocfmoaaDoorG2
set_option linter.unusedVariables false
set_option linter.unusedSimpArgs false

namespace Go.Proofs.VaG
open Go Go.Ev
/-! 37 (*erasure/erasurelaw00.Tape).Edit -/
abbrev i37 : Type := ByteArray × Int × Rows
def enc37 : i37 → CSt := fun a => ([Go.Ev.SV.one (Go.Ev.SL.ptr (0 : Nat) (0 : Nat)), Go.Ev.SV.one (Go.Ev.SL.d (Go.Ev.DL.str a.1))], [Go.Ev.Obj.box (61 : Nat) [Go.Ev.SL.vr (1 : Nat), Go.Ev.SL.d (Go.Ev.DL.int Go.IntKind.i64 a.2.1)], Go.Ev.Obj.vec (3 : Nat) Bool.false a.2.2])
def dec37 : (c : CSt) → Option { a : i37 // c = enc37 a }
  | ([Go.Ev.SV.one (Go.Ev.SL.ptr (0 : Nat) (0 : Nat)), Go.Ev.SV.one (Go.Ev.SL.d (Go.Ev.DL.str x1))], [Go.Ev.Obj.box (61 : Nat) [Go.Ev.SL.vr (1 : Nat), Go.Ev.SL.d (Go.Ev.DL.int Go.IntKind.i64 x2)], Go.Ev.Obj.vec (3 : Nat) Bool.false x3]) => some ⟨(x1, x2, x3), rfl⟩
  | _ => none
abbrev o37 : Type := ByteArray × Int × Rows
def ret37 : o37 → CSt := fun b => ([Go.Ev.SV.one (Go.Ev.SL.d (Go.Ev.DL.str b.1))], [Go.Ev.Obj.box (61 : Nat) [Go.Ev.SL.vr (1 : Nat), Go.Ev.SL.d (Go.Ev.DL.int Go.IntKind.i64 b.2.1)], Go.Ev.Obj.vec (3 : Nat) Bool.false b.2.2])
def retK37 {R : Type} (K : CSt → Option R) : o37 → Option R := fun b => K (([Go.Ev.SV.one (Go.Ev.SL.d (Go.Ev.DL.str b.1))], [Go.Ev.Obj.box (61 : Nat) [Go.Ev.SL.vr (1 : Nat), Go.Ev.SL.d (Go.Ev.DL.int Go.IntKind.i64 b.2.1)], Go.Ev.Obj.vec (3 : Nat) Bool.false b.2.2]))
theorem retK37_eq {R : Type} (K : CSt → Option R) (b : o37) : retK37 K b = K (ret37 b) := rfl
abbrev Sd37 (f : i37 → Option o37) : Prop := ∀ a b, f a = some b → CallOk Tryd.prog 37 (enc37 a) (ret37 b)
def ent37 (f : i37 → Option o37) : Ent := mkEnt 37 dec37 ret37 retK37 retK37_eq f
def ann37 : Nat → List Nat × List Nat := fun id => ([], [])
def br37 : FuncId → Bool := fun (g : Nat) => ([71] : List Nat).any (Nat.beq g)
def ar37 : TypeId → Bool := fun (t : Nat) => ([88, 91, 97] : List Nat).any (Nat.beq t)
noncomputable def t37 {R : Type} (sh : Sh) (f31 : i31 → Option o31) (x1 : ByteArray) (x2 : Int) (x3 : Rows) (k : o37 → Option R) : Option R :=
  sh ((↑(ByteArray.size x1) : Int)) fun y1 =>
  (f31 (Go.IntKind.wrap Go.IntKind.i64 (y1 + (1 : Int)), x2, x3)).bind fun (r2 : Int × Int × Rows) =>
  sh (Go.Ev.colD (Go.Ev.mapD Go.IntKind.u8 [(48 : Int), (34 : Int), (92 : Int), (32 : Int), (0 : Int), (255 : Int), (1 : Int), (2 : Int), (3 : Int), (97 : Int), (59 : Int), (40 : Int), (45 : Int), (49 : Int), (35 : Int), (110 : Int)]) : Rows) fun y3 =>
  (f31 ((16 : Int), Prod.fst r2.2, Prod.snd r2.2)).bind fun (r4 : Int × Int × Rows) =>
  bif Decidable.decide ((0 : Int) ≤ Prod.fst r4 ∧ Prod.fst r4 < (↑(List.length y3) : Int)) then
    bif Decidable.decide (Int.toNat (Prod.fst r4) < List.length y3) then
      sh (Go.Ev.DL.getI (Go.Ev.cellAt y3 (Int.toNat (Prod.fst r4)) (0 : Nat))) fun y5 =>
      sh ([[Go.Ev.DL.int Go.IntKind.u8 y5]] : Rows) fun y6 =>
      sh (Go.Ev.strOfBytes y6) fun y7 =>
      (f31 ((5 : Int), Prod.fst r4.2, Prod.snd r4.2)).bind fun (r8 : Int × Int × Rows) =>
      bif Prod.fst r8 == (0 : Int) then
        k ((x1, Prod.fst r8.2, Prod.snd r8.2))
      else
        bif Prod.fst r8 == (1 : Int) then
          bif Decidable.decide ((0 : Int) ≤ Prod.fst r2 ∧ Prod.fst r2 ≤ (↑(ByteArray.size x1) : Int)) then
            sh (ByteArray.extract x1 (0 : Nat) (Int.toNat (Prod.fst r2))) fun y9 =>
            bif Decidable.decide ((↑(ByteArray.size y9 + ByteArray.size y7) : Int) ≤ (9223372036854775807 : Int)) then
              sh (y9 ++ y7) fun y10 =>
              bif Decidable.decide ((0 : Int) ≤ Prod.fst r2 ∧ Prod.fst r2 ≤ (↑(ByteArray.size x1) : Int)) then
                sh (ByteArray.extract x1 (Int.toNat (Prod.fst r2)) (ByteArray.size x1)) fun y11 =>
                bif Decidable.decide ((↑(ByteArray.size y10 + ByteArray.size y11) : Int) ≤ (9223372036854775807 : Int)) then
                  sh (y10 ++ y11) fun y12 =>
                  k ((y12, Prod.fst r8.2, Prod.snd r8.2))
                else none
              else none
            else none
          else none
        else
          bif Prod.fst r8 == (2 : Int) then
            sh ((↑(ByteArray.size x1) : Int)) fun y13 =>
            bif Decidable.decide (Prod.fst r2 < y13) then
              bif Decidable.decide ((0 : Int) ≤ Prod.fst r2 ∧ Prod.fst r2 ≤ (↑(ByteArray.size x1) : Int)) then
                sh (ByteArray.extract x1 (0 : Nat) (Int.toNat (Prod.fst r2))) fun y14 =>
                bif Decidable.decide ((0 : Int) ≤ Go.IntKind.wrap Go.IntKind.i64 (Prod.fst r2 + (1 : Int)) ∧ Go.IntKind.wrap Go.IntKind.i64 (Prod.fst r2 + (1 : Int)) ≤ (↑(ByteArray.size x1) : Int)) then
                  sh (ByteArray.extract x1 (Int.toNat (Go.IntKind.wrap Go.IntKind.i64 (Prod.fst r2 + (1 : Int)))) (ByteArray.size x1)) fun y15 =>
                  bif Decidable.decide ((↑(ByteArray.size y14 + ByteArray.size y15) : Int) ≤ (9223372036854775807 : Int)) then
                    sh (y14 ++ y15) fun y16 =>
                    k ((y16, Prod.fst r8.2, Prod.snd r8.2))
                  else none
                else none
              else none
            else
              bif Decidable.decide ((↑(ByteArray.size x1 + ByteArray.size y7) : Int) ≤ (9223372036854775807 : Int)) then
                sh (x1 ++ y7) fun y17 =>
                k ((y17, Prod.fst r8.2, Prod.snd r8.2))
              else none
          else
            sh ((↑(ByteArray.size x1) : Int)) fun y18 =>
            bif Decidable.decide (Prod.fst r2 < y18) then
              bif Decidable.decide ((0 : Int) ≤ Prod.fst r2 ∧ Prod.fst r2 ≤ (↑(ByteArray.size x1) : Int)) then
                sh (ByteArray.extract x1 (0 : Nat) (Int.toNat (Prod.fst r2))) fun y19 =>
                bif Decidable.decide ((↑(ByteArray.size y19 + ByteArray.size y7) : Int) ≤ (9223372036854775807 : Int)) then
                  sh (y19 ++ y7) fun y20 =>
                  bif Decidable.decide ((0 : Int) ≤ Go.IntKind.wrap Go.IntKind.i64 (Prod.fst r2 + (1 : Int)) ∧ Go.IntKind.wrap Go.IntKind.i64 (Prod.fst r2 + (1 : Int)) ≤ (↑(ByteArray.size x1) : Int)) then
                    sh (ByteArray.extract x1 (Int.toNat (Go.IntKind.wrap Go.IntKind.i64 (Prod.fst r2 + (1 : Int)))) (ByteArray.size x1)) fun y21 =>
                    bif Decidable.decide ((↑(ByteArray.size y20 + ByteArray.size y21) : Int) ≤ (9223372036854775807 : Int)) then
                      sh (y20 ++ y21) fun y22 =>
                      k ((y22, Prod.fst r8.2, Prod.snd r8.2))
                    else none
                  else none
                else none
              else none
            else
              bif Decidable.decide ((↑(ByteArray.size x1 + ByteArray.size y7) : Int) ≤ (9223372036854775807 : Int)) then
                sh (x1 ++ y7) fun y23 =>
                k ((y23, Prod.fst r8.2, Prod.snd r8.2))
              else none
    else none
  else none
theorem t37_eq {R : Type} (sh : Sh) (hsh : ∀ {α R : Type} (x : α) (K : α → Option R), sh x K = K x) (f31 : i31 → Option o31) (x1 : ByteArray) (x2 : Int) (x3 : Rows) (K : CSt → Option R) : bodyK Tryd.prog (tabO sh hsh br37 ar37 [ent31 f31]) (tabL []) ann37 false Tryd.f37 (enc37 (x1, x2, x3)) K = t37 sh f31 x1 x2 x3 (retK37 K) := by kernel_rfl
theorem t37_law {R : Type} (f31 : i31 → Option o31) (x1 : ByteArray) (x2 : Int) (x3 : Rows) (K : o37 → Option R) : t37 sh0 f31 x1 x2 x3 K = (t37 sh0 f31 x1 x2 x3 some).bind K := by
  have key : ∀ (sh : Sh) (_ : ∀ {α R S : Type} (x : α) (f : α → Option R) (K : R → Option S), (sh x f).bind K = sh x fun y => (f y).bind K), t37 sh f31 x1 x2 x3 K = (t37 sh f31 x1 x2 x3 some).bind K := by
    intro sh hb
    simp only [t37, hb, cond_bind', two_bind, none_bind', Option.bind_assoc, Option.bind_some]
  exact key sh0 (fun _ _ _ => rfl)
theorem ok37 (f31 : i31 → Option o31) (hf31 : Sd31 f31) : Sd37 (fun a => t37 sh0 f31 a.1 a.2.1 a.2.2 some) := by
  intro a b h
  refine call_ok (sh := sh0) (hsh := fun _ _ => rfl) (br := br37) (ar := ar37) (own := false) Tryd.mixed Tryd.func37 (by kernel_rfl) (.cons (mkEnt_ok hf31) .nil) (fun nt => .nil) ((t37_eq sh0 (fun _ _ => rfl) f31 a.1 a.2.1 a.2.2 _).trans ?_)
  rw [t37_law]
  simp only at h
  rw [h, Option.bind_some, retK37_eq]

/-! 10 erasure/erasurelaw01.ValueDecode -/
abbrev i10 : Type := Rows × ByteArray
def enc10 : i10 → CSt := fun a => ([Go.Ev.SV.one (Go.Ev.SL.d (Go.Ev.DL.lst (3 : Nat) a.1)), Go.Ev.SV.one (Go.Ev.SL.d (Go.Ev.DL.str a.2))], [])
def dec10 : (c : CSt) → Option { a : i10 // c = enc10 a }
  | ([Go.Ev.SV.one (Go.Ev.SL.d (Go.Ev.DL.lst (3 : Nat) x1)), Go.Ev.SV.one (Go.Ev.SL.d (Go.Ev.DL.str x2))], []) => some ⟨(x1, x2), rfl⟩
  | _ => none
abbrev o10 : Type := Bool
def ret10 : o10 → CSt := fun b => ([Go.Ev.SV.one (Go.Ev.SL.d (Go.Ev.DL.bool b))], [])
def retK10 {R : Type} (K : CSt → Option R) : o10 → Option R := fun b => K (([Go.Ev.SV.one (Go.Ev.SL.d (Go.Ev.DL.bool b))], []))
theorem retK10_eq {R : Type} (K : CSt → Option R) (b : o10) : retK10 K b = K (ret10 b) := rfl
abbrev Sd10 (f : i10 → Option o10) : Prop := ∀ a b, f a = some b → CallOk Tryd.prog 10 (enc10 a) (ret10 b)
def ent10 (f : i10 → Option o10) : Ent := mkEnt 10 dec10 ret10 retK10 retK10_eq f
def ann10 : Nat → List Nat × List Nat := fun id => bif Nat.beq id 6 then ([6, 7], [4]) else ([], [])
def br10 : FuncId → Bool := fun (g : Nat) => ([71] : List Nat).any (Nat.beq g)
def ar10 : TypeId → Bool := fun (t : Nat) => ([88, 91, 97] : List Nat).any (Nat.beq t)
abbrev iL10_6 : Type := Int × Rows
def encL10_6 : iL10_6 → CSt := fun a => ([Go.Ev.SV.one (Go.Ev.SL.vr (0 : Nat)), Go.Ev.SV.one (Go.Ev.SL.d (Go.Ev.DL.int Go.IntKind.i64 a.1))], [Go.Ev.Obj.vec (9 : Nat) Bool.false a.2])
def decL10_6 : (c : CSt) → Option { a : iL10_6 // c = encL10_6 a }
  | ([Go.Ev.SV.one (Go.Ev.SL.vr (0 : Nat)), Go.Ev.SV.one (Go.Ev.SL.d (Go.Ev.DL.int Go.IntKind.i64 x1))], [Go.Ev.Obj.vec (9 : Nat) Bool.false x2]) => some ⟨(x1, x2), rfl⟩
  | _ => none
abbrev oL10_6 : Type := (Bool) ⊕ (Unit)
def retL10_6 : oL10_6 → Ex × CSt := two (fun b => (Go.Ev.Ex.ret, ([Go.Ev.SV.one (Go.Ev.SL.d (Go.Ev.DL.bool b))], []))) (fun b => (Go.Ev.Ex.exit (0 : Nat), ([Go.Ev.SV.one Go.Ev.SL.un], [])))
def retKL10_6 {R : Type} (K : Ex → CSt → Option R) : oL10_6 → Option R := two (fun b => K (Go.Ev.Ex.ret) (([Go.Ev.SV.one (Go.Ev.SL.d (Go.Ev.DL.bool b))], []))) (fun b => K (Go.Ev.Ex.exit (0 : Nat)) (([Go.Ev.SV.one Go.Ev.SL.un], [])))
theorem retKL10_6_eq {R : Type} (K : Ex → CSt → Option R) (b : oL10_6) : retKL10_6 K b = K (retL10_6 b).1 (retL10_6 b).2 := by
  unfold retKL10_6 retL10_6
  repeat' (first | rfl | cases b with | inl b => rfl | inr b => ?_)
def entL10_6 (l : iL10_6 → Option oL10_6) : LEnt := mkLEnt 6 decL10_6 retL10_6 retKL10_6 retKL10_6_eq l
abbrev SdL10_6 (l : iL10_6 → Option oL10_6) : Prop := ∀ nt a b, l a = some b → LoopAt Tryd.prog nt 0 ann10 Tryd.f10 6 (encL10_6 a) (retL10_6 b)
noncomputable def u10_6 {R : Type} (sh : Sh) (f35 : i35 → Option o35) (f38 : i38 → Option o38) (f30 : i30 → Option o30) (l10_6 : iL10_6 → Option oL10_6) (x1 : Int) (x2 : Rows) (k : oL10_6 → Option R) : Option R :=
  sh ((↑(List.length x2) : Int)) fun y9 =>
  bif Decidable.decide (x1 < y9) then
    bif Decidable.decide ((0 : Int) ≤ x1 ∧ x1 < (↑(List.length x2) : Int)) then
      bif Decidable.decide (Int.toNat x1 < List.length x2) then
        sh (Go.Ev.DL.getS (Go.Ev.cellAt x2 (Int.toNat x1) (0 : Nat))) fun y10 =>
        (f35 (y10)).bind fun (r11 : Rows × Int) =>
        bif Decidable.decide ((0 : Int) ≤ x1 ∧ x1 < (↑(List.length x2) : Int)) then
          bif Decidable.decide (Int.toNat x1 < List.length x2) then
            sh (Go.Ev.DL.getS (Go.Ev.cellAt x2 (Int.toNat x1) (0 : Nat))) fun y12 =>
            (f38 (y12)).bind fun (r13 : Rows × Int) =>
            bif Prod.snd r11 != Prod.snd r13 then
              k ((.inl Bool.false))
            else
              (f30 (Prod.fst r11, Prod.fst r13)).bind fun (r14 : Bool) =>
              bif !r14 then
                k ((.inl Bool.false))
              else
                (l10_6 (Go.IntKind.wrap Go.IntKind.i64 (x1 + (1 : Int)), x2)).bind k
          else none
        else none
      else none
    else none
  else
    k ((.inr ()))
theorem u10_6_eq {R : Type} (sh : Sh) (hsh : ∀ {α R : Type} (x : α) (K : α → Option R), sh x K = K x) (f35 : i35 → Option o35) (f38 : i38 → Option o38) (f30 : i30 → Option o30) (l10_6 : iL10_6 → Option oL10_6) (x1 : Int) (x2 : Rows) (K : Ex → CSt → Option R) : roundK Tryd.prog (tabO sh hsh br10 ar10 [ent35 f35, ent38 f38, ent30 f30]) (tabL [entL10_6 l10_6]) ann10 0 Tryd.f10 6 (encL10_6 (x1, x2)) K = u10_6 sh f35 f38 f30 l10_6 x1 x2 (retKL10_6 K) := by kernel_rfl
theorem u10_6_law {R : Type} (f35 : i35 → Option o35) (f38 : i38 → Option o38) (f30 : i30 → Option o30) (l10_6 : iL10_6 → Option oL10_6) (x1 : Int) (x2 : Rows) (K : oL10_6 → Option R) : u10_6 sh0 f35 f38 f30 l10_6 x1 x2 K = (u10_6 sh0 f35 f38 f30 l10_6 x1 x2 some).bind K := by
  have key : ∀ (sh : Sh) (_ : ∀ {α R S : Type} (x : α) (f : α → Option R) (K : R → Option S), (sh x f).bind K = sh x fun y => (f y).bind K), u10_6 sh f35 f38 f30 l10_6 x1 x2 K = (u10_6 sh f35 f38 f30 l10_6 x1 x2 some).bind K := by
    intro sh hb
    simp only [u10_6, hb, cond_bind', two_bind, none_bind', Option.bind_assoc, Option.bind_some]
  exact key sh0 (fun _ _ _ => rfl)
theorem okL10_6 (f35 : i35 → Option o35) (f38 : i38 → Option o38) (f30 : i30 → Option o30) (l10_6 : iL10_6 → Option oL10_6) (hf35 : Sd35 f35) (hf38 : Sd38 f38) (hf30 : Sd30 f30) (hl10_6 : SdL10_6 l10_6) : SdL10_6 (fun a => u10_6 sh0 f35 f38 f30 l10_6 a.1 a.2 some) := by
  intro nt a b h
  refine round_ok (sh := sh0) (hsh := fun _ _ => rfl) (br := br10) (ar := ar10) Tryd.mixed (by kernel_rfl) (.cons (mkEnt_ok hf35) (.cons (mkEnt_ok hf38) (.cons (mkEnt_ok hf30) .nil))) (.cons (mkLEnt_ok (hl10_6 nt)) .nil) ((u10_6_eq sh0 (fun _ _ => rfl) f35 f38 f30 l10_6  a.1 a.2 _).trans ?_)
  rw [u10_6_law]
  simp only at h
  rw [h, Option.bind_some, retKL10_6_eq]
noncomputable def t10 {R : Type} (sh : Sh) (f28 : i28 → Option o28) (f29 : i29 → Option o29) (f34 : i34 → Option o34) (f37 : i37 → Option o37) (f14 : i14 → Option o14) (l10_6 : iL10_6 → Option oL10_6) (x1 : Rows) (x2 : ByteArray) (k : o10 → Option R) : Option R :=
  (f28 (x1)).bind fun (r1 : Int × Rows) =>
  sh ((↑(ByteArray.size x2) : Int)) fun y2 =>
  bif Decidable.decide (y2 > (300 : Int)) then
    (f29 ((3 : Int), Prod.fst r1, Prod.snd r1)).bind fun (r3 : Rows × Int × Rows) =>
    (f34 (Prod.fst r3)).bind fun (r4 : ByteArray) =>
    (f37 (r4, Prod.fst r3.2, Prod.snd r3.2)).bind fun (r5 : ByteArray × Int × Rows) =>
    (f29 ((4 : Int), Prod.fst r5.2, Prod.snd r5.2)).bind fun (r6 : Rows × Int × Rows) =>
    (f34 (Prod.fst r6)).bind fun (r7 : ByteArray) =>
    sh ([[Go.Ev.DL.str { data := #[] }], [Go.Ev.DL.str (Prod.fst r5)], [Go.Ev.DL.str r7]] : Rows) fun y8 =>
    (l10_6 ((0 : Int), y8)).bind (two (fun (r15 : Bool) =>
      k (r15)
    ) (fun _ =>
      (f14 ()).bind fun (r17 : Bool) =>
      k (r17)
    ))
  else
    (f29 ((3 : Int), Prod.fst r1, Prod.snd r1)).bind fun (r19 : Rows × Int × Rows) =>
    (f34 (Prod.fst r19)).bind fun (r20 : ByteArray) =>
    (f37 (r20, Prod.fst r19.2, Prod.snd r19.2)).bind fun (r21 : ByteArray × Int × Rows) =>
    (f29 ((4 : Int), Prod.fst r21.2, Prod.snd r21.2)).bind fun (r22 : Rows × Int × Rows) =>
    (f34 (Prod.fst r22)).bind fun (r23 : ByteArray) =>
    sh ([[Go.Ev.DL.str x2], [Go.Ev.DL.str (Prod.fst r21)], [Go.Ev.DL.str r23]] : Rows) fun y24 =>
    (l10_6 ((0 : Int), y24)).bind (two (fun (r25 : Bool) =>
      k (r25)
    ) (fun _ =>
      (f14 ()).bind fun (r27 : Bool) =>
      k (r27)
    ))
theorem t10_eq {R : Type} (sh : Sh) (hsh : ∀ {α R : Type} (x : α) (K : α → Option R), sh x K = K x) (f28 : i28 → Option o28) (f29 : i29 → Option o29) (f34 : i34 → Option o34) (f37 : i37 → Option o37) (f14 : i14 → Option o14) (l10_6 : iL10_6 → Option oL10_6) (x1 : Rows) (x2 : ByteArray) (K : CSt → Option R) : bodyK Tryd.prog (tabO sh hsh br10 ar10 [ent28 f28, ent29 f29, ent34 f34, ent37 f37, ent14 f14]) (tabL [entL10_6 l10_6]) ann10 false Tryd.f10 (enc10 (x1, x2)) K = t10 sh f28 f29 f34 f37 f14 l10_6 x1 x2 (retK10 K) := by kernel_rfl
theorem t10_law {R : Type} (f28 : i28 → Option o28) (f29 : i29 → Option o29) (f34 : i34 → Option o34) (f37 : i37 → Option o37) (f14 : i14 → Option o14) (l10_6 : iL10_6 → Option oL10_6) (x1 : Rows) (x2 : ByteArray) (K : o10 → Option R) : t10 sh0 f28 f29 f34 f37 f14 l10_6 x1 x2 K = (t10 sh0 f28 f29 f34 f37 f14 l10_6 x1 x2 some).bind K := by
  have key : ∀ (sh : Sh) (_ : ∀ {α R S : Type} (x : α) (f : α → Option R) (K : R → Option S), (sh x f).bind K = sh x fun y => (f y).bind K), t10 sh f28 f29 f34 f37 f14 l10_6 x1 x2 K = (t10 sh f28 f29 f34 f37 f14 l10_6 x1 x2 some).bind K := by
    intro sh hb
    simp only [t10, hb, cond_bind', two_bind, none_bind', Option.bind_assoc, Option.bind_some]
  exact key sh0 (fun _ _ _ => rfl)
theorem ok10 (f28 : i28 → Option o28) (f29 : i29 → Option o29) (f34 : i34 → Option o34) (f37 : i37 → Option o37) (f14 : i14 → Option o14) (l10_6 : iL10_6 → Option oL10_6) (hf28 : Sd28 f28) (hf29 : Sd29 f29) (hf34 : Sd34 f34) (hf37 : Sd37 f37) (hf14 : Sd14 f14) (hl10_6 : SdL10_6 l10_6) : Sd10 (fun a => t10 sh0 f28 f29 f34 f37 f14 l10_6 a.1 a.2 some) := by
  intro a b h
  refine call_ok (sh := sh0) (hsh := fun _ _ => rfl) (br := br10) (ar := ar10) (own := false) Tryd.mixed Tryd.func10 (by kernel_rfl) (.cons (mkEnt_ok hf28) (.cons (mkEnt_ok hf29) (.cons (mkEnt_ok hf34) (.cons (mkEnt_ok hf37) (.cons (mkEnt_ok hf14) .nil))))) (fun nt => (.cons (mkLEnt_ok (hl10_6 nt)) .nil)) ((t10_eq sh0 (fun _ _ => rfl) f28 f29 f34 f37 f14 l10_6 a.1 a.2 _).trans ?_)
  rw [t10_law]
  simp only at h
  rw [h, Option.bind_some, retK10_eq]

end Go.Proofs.VaG
