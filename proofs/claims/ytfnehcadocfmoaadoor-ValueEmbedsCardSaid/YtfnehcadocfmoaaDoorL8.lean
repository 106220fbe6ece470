/- Printed by a tool of mine: plain functions, their equations and contracts. -/
import Derived.Test.YtfnehcadocfmoaaDoorG2
set_option linter.unusedVariables false
set_option linter.unusedSimpArgs false

namespace Go.Proofs.VaG
open Go Go.Ev
/-! 8 erasure/erasurelaw01.ValueEmbeds -/
abbrev i8 : Type := Rows
def enc8 : i8 → CSt := fun a => ([Go.Ev.SV.one (Go.Ev.SL.d (Go.Ev.DL.lst (3 : Nat) a))], [])
def dec8 : (c : CSt) → Option { a : i8 // c = enc8 a }
  | ([Go.Ev.SV.one (Go.Ev.SL.d (Go.Ev.DL.lst (3 : Nat) x1))], []) => some ⟨x1, rfl⟩
  | _ => none
abbrev o8 : Type := Bool
def ret8 : o8 → CSt := fun b => ([Go.Ev.SV.one (Go.Ev.SL.d (Go.Ev.DL.bool b))], [])
def retK8 {R : Type} (K : CSt → Option R) : o8 → Option R := fun b => K (([Go.Ev.SV.one (Go.Ev.SL.d (Go.Ev.DL.bool b))], []))
theorem retK8_eq {R : Type} (K : CSt → Option R) (b : o8) : retK8 K b = K (ret8 b) := rfl
abbrev Sd8 (f : i8 → Option o8) : Prop := ∀ a b, f a = some b → CallOk Tryd.prog 8 (enc8 a) (ret8 b)
def ent8 (f : i8 → Option o8) : Ent := mkEnt 8 dec8 ret8 retK8 retK8_eq f
def ann8 : Nat → List Nat × List Nat := fun id => bif Nat.beq id 3 then ([3, 4], [2]) else ([], [])
def br8 : FuncId → Bool := fun (g : Nat) => ([71] : List Nat).any (Nat.beq g)
def ar8 : TypeId → Bool := fun (t : Nat) => ([88, 91, 97] : List Nat).any (Nat.beq t)
abbrev iL8_3 : Type := Int × Int × Rows
def encL8_3 : iL8_3 → CSt := fun a => ([Go.Ev.SV.one (Go.Ev.SL.ptr (0 : Nat) (0 : Nat)), Go.Ev.SV.one (Go.Ev.SL.d (Go.Ev.DL.int Go.IntKind.i64 a.1))], [Go.Ev.Obj.box (61 : Nat) [Go.Ev.SL.vr (1 : Nat), Go.Ev.SL.d (Go.Ev.DL.int Go.IntKind.i64 a.2.1)], Go.Ev.Obj.vec (3 : Nat) Bool.false a.2.2])
def decL8_3 : (c : CSt) → Option { a : iL8_3 // c = encL8_3 a }
  | ([Go.Ev.SV.one (Go.Ev.SL.ptr (0 : Nat) (0 : Nat)), Go.Ev.SV.one (Go.Ev.SL.d (Go.Ev.DL.int Go.IntKind.i64 x1))], [Go.Ev.Obj.box (61 : Nat) [Go.Ev.SL.vr (1 : Nat), Go.Ev.SL.d (Go.Ev.DL.int Go.IntKind.i64 x2)], Go.Ev.Obj.vec (3 : Nat) Bool.false x3]) => some ⟨(x1, x2, x3), rfl⟩
  | _ => none
abbrev oL8_3 : Type := (Bool) ⊕ (Unit)
def retL8_3 : oL8_3 → Ex × CSt := two (fun b => (Go.Ev.Ex.ret, ([Go.Ev.SV.one (Go.Ev.SL.d (Go.Ev.DL.bool b))], []))) (fun b => (Go.Ev.Ex.exit (0 : Nat), ([Go.Ev.SV.one Go.Ev.SL.un], [])))
def retKL8_3 {R : Type} (K : Ex → CSt → Option R) : oL8_3 → Option R := two (fun b => K (Go.Ev.Ex.ret) (([Go.Ev.SV.one (Go.Ev.SL.d (Go.Ev.DL.bool b))], []))) (fun b => K (Go.Ev.Ex.exit (0 : Nat)) (([Go.Ev.SV.one Go.Ev.SL.un], [])))
theorem retKL8_3_eq {R : Type} (K : Ex → CSt → Option R) (b : oL8_3) : retKL8_3 K b = K (retL8_3 b).1 (retL8_3 b).2 := by
  unfold retKL8_3 retL8_3
  repeat' (first | rfl | cases b with | inl b => rfl | inr b => ?_)
def entL8_3 (l : iL8_3 → Option oL8_3) : LEnt := mkLEnt 3 decL8_3 retL8_3 retKL8_3 retKL8_3_eq l
abbrev SdL8_3 (l : iL8_3 → Option oL8_3) : Prop := ∀ nt a b, l a = some b → LoopAt Tryd.prog nt 0 ann8 Tryd.f8 3 (encL8_3 a) (retL8_3 b)
noncomputable def u8_3 {R : Type} (sh : Sh) (f29 : i29 → Option o29) (f31 : i31 → Option o31) (f32 : i32 → Option o32) (f33 : i33 → Option o33) (f26 : i26 → Option o26) (l8_3 : iL8_3 → Option oL8_3) (x1 : Int) (x2 : Int) (x3 : Rows) (k : oL8_3 → Option R) : Option R :=
  bif Decidable.decide (x1 < (4 : Int)) then
    (f29 ((3 : Int), x2, x3)).bind fun (r2 : Rows × Int × Rows) =>
    (f29 ((3 : Int), Prod.fst r2.2, Prod.snd r2.2)).bind fun (r3 : Rows × Int × Rows) =>
    (f31 ((3 : Int), Prod.fst r3.2, Prod.snd r3.2)).bind fun (r4 : Int × Int × Rows) =>
    bif Prod.fst r4 == (0 : Int) then
      sh ([] : Rows) fun y5 =>
      bif Go.Ev.roomE Go.Proofs.Tryd.prog (23 : Nat) (List.length y5 + List.length (Prod.fst r2)) then
        sh (y5 ++ Prod.fst r2 : Rows) fun y6 =>
        (f32 (Prod.fst r4.2, Prod.snd r4.2)).bind fun (r7 : Int × Int × ByteArray × Int × Rows) =>
        sh ([[Go.Ev.DL.int Go.IntKind.i64 (Prod.fst r7), Go.Ev.DL.int Go.IntKind.i64 (Prod.fst r7.2), Go.Ev.DL.str (Prod.fst (Prod.snd r7).2)]] : Rows) fun y8 =>
        bif Go.Ev.roomE Go.Proofs.Tryd.prog (23 : Nat) (List.length y6 + List.length y8) then
          sh (y6 ++ y8 : Rows) fun y9 =>
          (f33 (Prod.fst r2)).bind fun (r10 : ByteArray) =>
          (f33 (y9)).bind fun (r11 : ByteArray) =>
          (f26 (Prod.fst r2, y9)).bind fun (r12 : Int) =>
          bif !Decidable.decide (r12 < (0 : Int)) == Go.Ev.strLt r10 r11 then
            k ((.inl Bool.false))
          else
            bif !(r12 == (0 : Int)) == Go.Ev.strEq r10 r11 then
              k ((.inl Bool.false))
            else
              (l8_3 (Go.IntKind.wrap Go.IntKind.i64 (x1 + (1 : Int)), Prod.fst (Prod.snd (Prod.snd r7)).2, Prod.snd (Prod.snd (Prod.snd r7)).2)).bind k
        else none
      else none
    else
      (f33 (Prod.fst r2)).bind fun (r13 : ByteArray) =>
      (f33 (Prod.fst r3)).bind fun (r14 : ByteArray) =>
      (f26 (Prod.fst r2, Prod.fst r3)).bind fun (r15 : Int) =>
      bif !Decidable.decide (r15 < (0 : Int)) == Go.Ev.strLt r13 r14 then
        k ((.inl Bool.false))
      else
        bif !(r15 == (0 : Int)) == Go.Ev.strEq r13 r14 then
          k ((.inl Bool.false))
        else
          (l8_3 (Go.IntKind.wrap Go.IntKind.i64 (x1 + (1 : Int)), Prod.fst r4.2, Prod.snd r4.2)).bind k
  else
    k ((.inr ()))
theorem u8_3_eq {R : Type} (sh : Sh) (hsh : ∀ {α R : Type} (x : α) (K : α → Option R), sh x K = K x) (f29 : i29 → Option o29) (f31 : i31 → Option o31) (f32 : i32 → Option o32) (f33 : i33 → Option o33) (f26 : i26 → Option o26) (l8_3 : iL8_3 → Option oL8_3) (x1 : Int) (x2 : Int) (x3 : Rows) (K : Ex → CSt → Option R) : roundK Tryd.prog (tabO sh hsh br8 ar8 [ent29 f29, ent31 f31, ent32 f32, ent33 f33, ent26 f26]) (tabL [entL8_3 l8_3]) ann8 0 Tryd.f8 3 (encL8_3 (x1, x2, x3)) K = u8_3 sh f29 f31 f32 f33 f26 l8_3 x1 x2 x3 (retKL8_3 K) := by kernel_rfl
theorem u8_3_law {R : Type} (f29 : i29 → Option o29) (f31 : i31 → Option o31) (f32 : i32 → Option o32) (f33 : i33 → Option o33) (f26 : i26 → Option o26) (l8_3 : iL8_3 → Option oL8_3) (x1 : Int) (x2 : Int) (x3 : Rows) (K : oL8_3 → Option R) : u8_3 sh0 f29 f31 f32 f33 f26 l8_3 x1 x2 x3 K = (u8_3 sh0 f29 f31 f32 f33 f26 l8_3 x1 x2 x3 some).bind K := by
  have key : ∀ (sh : Sh) (_ : ∀ {α R S : Type} (x : α) (f : α → Option R) (K : R → Option S), (sh x f).bind K = sh x fun y => (f y).bind K), u8_3 sh f29 f31 f32 f33 f26 l8_3 x1 x2 x3 K = (u8_3 sh f29 f31 f32 f33 f26 l8_3 x1 x2 x3 some).bind K := by
    intro sh hb
    simp only [u8_3, hb, cond_bind', two_bind, none_bind', Option.bind_assoc, Option.bind_some]
  exact key sh0 (fun _ _ _ => rfl)
theorem okL8_3 (f29 : i29 → Option o29) (f31 : i31 → Option o31) (f32 : i32 → Option o32) (f33 : i33 → Option o33) (f26 : i26 → Option o26) (l8_3 : iL8_3 → Option oL8_3) (hf29 : Sd29 f29) (hf31 : Sd31 f31) (hf32 : Sd32 f32) (hf33 : Sd33 f33) (hf26 : Sd26 f26) (hl8_3 : SdL8_3 l8_3) : SdL8_3 (fun a => u8_3 sh0 f29 f31 f32 f33 f26 l8_3 a.1 a.2.1 a.2.2 some) := by
  intro nt a b h
  refine round_ok (sh := sh0) (hsh := fun _ _ => rfl) (br := br8) (ar := ar8) Tryd.mixed (by kernel_rfl) (.cons (mkEnt_ok hf29) (.cons (mkEnt_ok hf31) (.cons (mkEnt_ok hf32) (.cons (mkEnt_ok hf33) (.cons (mkEnt_ok hf26) .nil))))) (.cons (mkLEnt_ok (hl8_3 nt)) .nil) ((u8_3_eq sh0 (fun _ _ => rfl) f29 f31 f32 f33 f26 l8_3  a.1 a.2.1 a.2.2 _).trans ?_)
  rw [u8_3_law]
  simp only at h
  rw [h, Option.bind_some, retKL8_3_eq]
noncomputable def t8 {R : Type} (sh : Sh) (f28 : i28 → Option o28) (f14 : i14 → Option o14) (l8_3 : iL8_3 → Option oL8_3) (x1 : Rows) (k : o8 → Option R) : Option R :=
  (f28 (x1)).bind fun (r1 : Int × Rows) =>
  (l8_3 ((0 : Int), Prod.fst r1, Prod.snd r1)).bind (two (fun (r16 : Bool) =>
    k (r16)
  ) (fun _ =>
    (f14 ()).bind fun (r18 : Bool) =>
    k (r18)
  ))
theorem t8_eq {R : Type} (sh : Sh) (hsh : ∀ {α R : Type} (x : α) (K : α → Option R), sh x K = K x) (f28 : i28 → Option o28) (f14 : i14 → Option o14) (l8_3 : iL8_3 → Option oL8_3) (x1 : Rows) (K : CSt → Option R) : bodyK Tryd.prog (tabO sh hsh br8 ar8 [ent28 f28, ent14 f14]) (tabL [entL8_3 l8_3]) ann8 false Tryd.f8 (enc8 x1) K = t8 sh f28 f14 l8_3 x1 (retK8 K) := by kernel_rfl
theorem t8_law {R : Type} (f28 : i28 → Option o28) (f14 : i14 → Option o14) (l8_3 : iL8_3 → Option oL8_3) (x1 : Rows) (K : o8 → Option R) : t8 sh0 f28 f14 l8_3 x1 K = (t8 sh0 f28 f14 l8_3 x1 some).bind K := by
  have key : ∀ (sh : Sh) (_ : ∀ {α R S : Type} (x : α) (f : α → Option R) (K : R → Option S), (sh x f).bind K = sh x fun y => (f y).bind K), t8 sh f28 f14 l8_3 x1 K = (t8 sh f28 f14 l8_3 x1 some).bind K := by
    intro sh hb
    simp only [t8, hb, cond_bind', two_bind, none_bind', Option.bind_assoc, Option.bind_some]
  exact key sh0 (fun _ _ _ => rfl)
theorem ok8 (f28 : i28 → Option o28) (f14 : i14 → Option o14) (l8_3 : iL8_3 → Option oL8_3) (hf28 : Sd28 f28) (hf14 : Sd14 f14) (hl8_3 : SdL8_3 l8_3) : Sd8 (fun a => t8 sh0 f28 f14 l8_3 a some) := by
  intro a b h
  refine call_ok (sh := sh0) (hsh := fun _ _ => rfl) (br := br8) (ar := ar8) (own := false) Tryd.mixed Tryd.func8 (by kernel_rfl) (.cons (mkEnt_ok hf28) (.cons (mkEnt_ok hf14) .nil)) (fun nt => (.cons (mkLEnt_ok (hl8_3 nt)) .nil)) ((t8_eq sh0 (fun _ _ => rfl) f28 f14 l8_3 a _).trans ?_)
  rw [t8_law]
  simp only at h
  rw [h, Option.bind_some, retK8_eq]

end Go.Proofs.VaG
