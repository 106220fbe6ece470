/- Printed by a tool of mine: plain functions, their equations and contracts. -/
import Derived.Test.YtfnehcadocfmoaaDoorE3
import Derived.Test.YtfnehcadocfmoaaDoorChecked
import Derived.Eval
import Derived.KernelRfl
set_option linter.unusedVariables false
set_option linter.unusedSimpArgs false

namespace Go.Proofs.VaG
open Go Go.Ev
abbrev Rows := List (List DL)
theorem Tryd.mixed : Tryd.prog.follows .mixedOrders = true := Tryd.checked.mixed
/-! 17 erasure/erasurelaw01.long -/
abbrev i17 : Type := Rows
def enc17 : i17 → CSt := fun a => ([Go.Ev.SV.one (Go.Ev.SL.d (Go.Ev.DL.lst (23 : Nat) a))], [])
def dec17 : (c : CSt) → Option { a : i17 // c = enc17 a }
  | ([Go.Ev.SV.one (Go.Ev.SL.d (Go.Ev.DL.lst (23 : Nat) x1))], []) => some ⟨x1, rfl⟩
  | _ => none
abbrev o17 : Type := Bool
def ret17 : o17 → CSt := fun b => ([Go.Ev.SV.one (Go.Ev.SL.d (Go.Ev.DL.bool b))], [])
def retK17 {R : Type} (K : CSt → Option R) : o17 → Option R := fun b => K (([Go.Ev.SV.one (Go.Ev.SL.d (Go.Ev.DL.bool b))], []))
theorem retK17_eq {R : Type} (K : CSt → Option R) (b : o17) : retK17 K b = K (ret17 b) := rfl
abbrev Sd17 (f : i17 → Option o17) : Prop := ∀ a b, f a = some b → CallOk Tryd.prog 17 (enc17 a) (ret17 b)
def ent17 (f : i17 → Option o17) : Ent := mkEnt 17 dec17 ret17 retK17 retK17_eq f
def ann17 : Nat → List Nat × List Nat := fun id => bif Nat.beq id 4 then ([0, 3], [2]) else ([], [])
def br17 : FuncId → Bool := fun (g : Nat) => ([71] : List Nat).any (Nat.beq g)
def ar17 : TypeId → Bool := fun (t : Nat) => ([88, 91, 97] : List Nat).any (Nat.beq t)
abbrev iL17_4 : Type := Rows × Int
def encL17_4 : iL17_4 → CSt := fun a => ([Go.Ev.SV.one (Go.Ev.SL.d (Go.Ev.DL.lst (23 : Nat) a.1)), Go.Ev.SV.one (Go.Ev.SL.d (Go.Ev.DL.int Go.IntKind.i64 a.2))], [])
def decL17_4 : (c : CSt) → Option { a : iL17_4 // c = encL17_4 a }
  | ([Go.Ev.SV.one (Go.Ev.SL.d (Go.Ev.DL.lst (23 : Nat) x1)), Go.Ev.SV.one (Go.Ev.SL.d (Go.Ev.DL.int Go.IntKind.i64 x2))], []) => some ⟨(x1, x2), rfl⟩
  | _ => none
abbrev oL17_4 : Type := (Bool) ⊕ (Unit)
def retL17_4 : oL17_4 → Ex × CSt := two (fun b => (Go.Ev.Ex.ret, ([Go.Ev.SV.one (Go.Ev.SL.d (Go.Ev.DL.bool b))], []))) (fun b => (Go.Ev.Ex.exit (0 : Nat), ([Go.Ev.SV.one Go.Ev.SL.un], [])))
def retKL17_4 {R : Type} (K : Ex → CSt → Option R) : oL17_4 → Option R := two (fun b => K (Go.Ev.Ex.ret) (([Go.Ev.SV.one (Go.Ev.SL.d (Go.Ev.DL.bool b))], []))) (fun b => K (Go.Ev.Ex.exit (0 : Nat)) (([Go.Ev.SV.one Go.Ev.SL.un], [])))
theorem retKL17_4_eq {R : Type} (K : Ex → CSt → Option R) (b : oL17_4) : retKL17_4 K b = K (retL17_4 b).1 (retL17_4 b).2 := by
  unfold retKL17_4 retL17_4
  repeat' (first | rfl | cases b with | inl b => rfl | inr b => ?_)
def entL17_4 (l : iL17_4 → Option oL17_4) : LEnt := mkLEnt 4 decL17_4 retL17_4 retKL17_4 retKL17_4_eq l
abbrev SdL17_4 (l : iL17_4 → Option oL17_4) : Prop := ∀ nt a b, l a = some b → LoopAt Tryd.prog nt 0 ann17 Tryd.f17 4 (encL17_4 a) (retL17_4 b)
noncomputable def u17_4 {R : Type} (sh : Sh) (l17_4 : iL17_4 → Option oL17_4) (x1 : Rows) (x2 : Int) (k : oL17_4 → Option R) : Option R :=
  sh ((↑(List.length x1) : Int)) fun y2 =>
  bif Decidable.decide (x2 < y2) then
    bif Decidable.decide ((0 : Int) ≤ x2 ∧ x2 < (↑(List.length x1) : Int)) then
      sh (Go.Ev.DL.getS (Go.Ev.cellAt x1 (Int.toNat x2) (2 : Nat))) fun y3 =>
      sh ((↑(ByteArray.size y3) : Int)) fun y4 =>
      bif Decidable.decide (y4 > (200 : Int)) then
        k ((.inl Bool.true))
      else
        (l17_4 (x1, Go.IntKind.wrap Go.IntKind.i64 (x2 + (1 : Int)))).bind k
    else none
  else
    k ((.inr ()))
theorem u17_4_eq {R : Type} (sh : Sh) (hsh : ∀ {α R : Type} (x : α) (K : α → Option R), sh x K = K x) (l17_4 : iL17_4 → Option oL17_4) (x1 : Rows) (x2 : Int) (K : Ex → CSt → Option R) : roundK Tryd.prog (tabO sh hsh br17 ar17 []) (tabL [entL17_4 l17_4]) ann17 0 Tryd.f17 4 (encL17_4 (x1, x2)) K = u17_4 sh l17_4 x1 x2 (retKL17_4 K) := by kernel_rfl
theorem u17_4_law {R : Type} (l17_4 : iL17_4 → Option oL17_4) (x1 : Rows) (x2 : Int) (K : oL17_4 → Option R) : u17_4 sh0 l17_4 x1 x2 K = (u17_4 sh0 l17_4 x1 x2 some).bind K := by
  have key : ∀ (sh : Sh) (_ : ∀ {α R S : Type} (x : α) (f : α → Option R) (K : R → Option S), (sh x f).bind K = sh x fun y => (f y).bind K), u17_4 sh l17_4 x1 x2 K = (u17_4 sh l17_4 x1 x2 some).bind K := by
    intro sh hb
    simp only [u17_4, hb, cond_bind', two_bind, none_bind', Option.bind_assoc, Option.bind_some]
  exact key sh0 (fun _ _ _ => rfl)
theorem okL17_4 (l17_4 : iL17_4 → Option oL17_4) (hl17_4 : SdL17_4 l17_4) : SdL17_4 (fun a => u17_4 sh0 l17_4 a.1 a.2 some) := by
  intro nt a b h
  refine round_ok (sh := sh0) (hsh := fun _ _ => rfl) (br := br17) (ar := ar17) Tryd.mixed (by kernel_rfl) .nil (.cons (mkLEnt_ok (hl17_4 nt)) .nil) ((u17_4_eq sh0 (fun _ _ => rfl) l17_4  a.1 a.2 _).trans ?_)
  rw [u17_4_law]
  simp only at h
  rw [h, Option.bind_some, retKL17_4_eq]
noncomputable def t17 {R : Type} (sh : Sh) (l17_4 : iL17_4 → Option oL17_4) (x1 : Rows) (k : o17 → Option R) : Option R :=
  sh ((↑(List.length x1) : Int)) fun y1 =>
  bif Decidable.decide (y1 > (40 : Int)) then
    k (Bool.true)
  else
    (l17_4 (x1, (0 : Int))).bind (two (fun (r5 : Bool) =>
      k (r5)
    ) (fun _ =>
      k (Bool.false)
    ))
theorem t17_eq {R : Type} (sh : Sh) (hsh : ∀ {α R : Type} (x : α) (K : α → Option R), sh x K = K x) (l17_4 : iL17_4 → Option oL17_4) (x1 : Rows) (K : CSt → Option R) : bodyK Tryd.prog (tabO sh hsh br17 ar17 []) (tabL [entL17_4 l17_4]) ann17 false Tryd.f17 (enc17 x1) K = t17 sh l17_4 x1 (retK17 K) := by kernel_rfl
theorem t17_law {R : Type} (l17_4 : iL17_4 → Option oL17_4) (x1 : Rows) (K : o17 → Option R) : t17 sh0 l17_4 x1 K = (t17 sh0 l17_4 x1 some).bind K := by
  have key : ∀ (sh : Sh) (_ : ∀ {α R S : Type} (x : α) (f : α → Option R) (K : R → Option S), (sh x f).bind K = sh x fun y => (f y).bind K), t17 sh l17_4 x1 K = (t17 sh l17_4 x1 some).bind K := by
    intro sh hb
    simp only [t17, hb, cond_bind', two_bind, none_bind', Option.bind_assoc, Option.bind_some]
  exact key sh0 (fun _ _ _ => rfl)
theorem ok17 (l17_4 : iL17_4 → Option oL17_4) (hl17_4 : SdL17_4 l17_4) : Sd17 (fun a => t17 sh0 l17_4 a some) := by
  intro a b h
  refine call_ok (sh := sh0) (hsh := fun _ _ => rfl) (br := br17) (ar := ar17) (own := false) Tryd.mixed Tryd.func17 (by kernel_rfl) .nil (fun nt => (.cons (mkLEnt_ok (hl17_4 nt)) .nil)) ((t17_eq sh0 (fun _ _ => rfl) l17_4 a _).trans ?_)
  rw [t17_law]
  simp only at h
  rw [h, Option.bind_some, retK17_eq]

/-! 45 erasure/value.inRange -/
abbrev i45 : Type := Int
def enc45 : i45 → CSt := fun a => ([Go.Ev.SV.one (Go.Ev.SL.d (Go.Ev.DL.int Go.IntKind.i64 a))], [])
def dec45 : (c : CSt) → Option { a : i45 // c = enc45 a }
  | ([Go.Ev.SV.one (Go.Ev.SL.d (Go.Ev.DL.int Go.IntKind.i64 x1))], []) => some ⟨x1, rfl⟩
  | _ => none
abbrev o45 : Type := Bool
def ret45 : o45 → CSt := fun b => ([Go.Ev.SV.one (Go.Ev.SL.d (Go.Ev.DL.bool b))], [])
def retK45 {R : Type} (K : CSt → Option R) : o45 → Option R := fun b => K (([Go.Ev.SV.one (Go.Ev.SL.d (Go.Ev.DL.bool b))], []))
theorem retK45_eq {R : Type} (K : CSt → Option R) (b : o45) : retK45 K b = K (ret45 b) := rfl
abbrev Sd45 (f : i45 → Option o45) : Prop := ∀ a b, f a = some b → CallOk Tryd.prog 45 (enc45 a) (ret45 b)
def ent45 (f : i45 → Option o45) : Ent := mkEnt 45 dec45 ret45 retK45 retK45_eq f
def ann45 : Nat → List Nat × List Nat := fun id => ([], [])
def br45 : FuncId → Bool := fun (g : Nat) => ([71] : List Nat).any (Nat.beq g)
def ar45 : TypeId → Bool := fun (t : Nat) => ([88, 91, 97] : List Nat).any (Nat.beq t)
noncomputable def t45 {R : Type} (sh : Sh) (x1 : Int) (k : o45 → Option R) : Option R :=
  bif Decidable.decide (x1 ≥ (-4294967296 : Int)) then
    k (Decidable.decide (x1 ≤ (4294967296 : Int)))
  else
    k (Bool.false)
theorem t45_eq {R : Type} (sh : Sh) (hsh : ∀ {α R : Type} (x : α) (K : α → Option R), sh x K = K x) (x1 : Int) (K : CSt → Option R) : bodyK Tryd.prog (tabO sh hsh br45 ar45 []) (tabL []) ann45 false Tryd.f45 (enc45 x1) K = t45 sh x1 (retK45 K) := by kernel_rfl
theorem t45_law {R : Type} (x1 : Int) (K : o45 → Option R) : t45 sh0 x1 K = (t45 sh0 x1 some).bind K := by
  have key : ∀ (sh : Sh) (_ : ∀ {α R S : Type} (x : α) (f : α → Option R) (K : R → Option S), (sh x f).bind K = sh x fun y => (f y).bind K), t45 sh x1 K = (t45 sh x1 some).bind K := by
    intro sh hb
    simp only [t45, hb, cond_bind', two_bind, none_bind', Option.bind_assoc, Option.bind_some]
  exact key sh0 (fun _ _ _ => rfl)
theorem ok45 : Sd45 (fun a => t45 sh0 a some) := by
  intro a b h
  refine call_ok (sh := sh0) (hsh := fun _ _ => rfl) (br := br45) (ar := ar45) (own := false) Tryd.mixed Tryd.func45 (by kernel_rfl) .nil (fun nt => .nil) ((t45_eq sh0 (fun _ _ => rfl) a _).trans ?_)
  rw [t45_law]
  simp only at h
  rw [h, Option.bind_some, retK45_eq]

/-! 18 erasure/value.Valid -/
abbrev i18 : Type := Int × Int × ByteArray
def enc18 : i18 → CSt := fun a => ([Go.Ev.SV.agg [Go.Ev.SL.d (Go.Ev.DL.int Go.IntKind.i64 a.1), Go.Ev.SL.d (Go.Ev.DL.int Go.IntKind.i64 a.2.1), Go.Ev.SL.d (Go.Ev.DL.str a.2.2)]], [])
def dec18 : (c : CSt) → Option { a : i18 // c = enc18 a }
  | ([Go.Ev.SV.agg [Go.Ev.SL.d (Go.Ev.DL.int Go.IntKind.i64 x1), Go.Ev.SL.d (Go.Ev.DL.int Go.IntKind.i64 x2), Go.Ev.SL.d (Go.Ev.DL.str x3)]], []) => some ⟨(x1, x2, x3), rfl⟩
  | _ => none
abbrev o18 : Type := Bool
def ret18 : o18 → CSt := fun b => ([Go.Ev.SV.one (Go.Ev.SL.d (Go.Ev.DL.bool b))], [])
def retK18 {R : Type} (K : CSt → Option R) : o18 → Option R := fun b => K (([Go.Ev.SV.one (Go.Ev.SL.d (Go.Ev.DL.bool b))], []))
theorem retK18_eq {R : Type} (K : CSt → Option R) (b : o18) : retK18 K b = K (ret18 b) := rfl
abbrev Sd18 (f : i18 → Option o18) : Prop := ∀ a b, f a = some b → CallOk Tryd.prog 18 (enc18 a) (ret18 b)
def ent18 (f : i18 → Option o18) : Ent := mkEnt 18 dec18 ret18 retK18 retK18_eq f
def ann18 : Nat → List Nat × List Nat := fun id => ([], [])
def br18 : FuncId → Bool := fun (g : Nat) => ([71] : List Nat).any (Nat.beq g)
def ar18 : TypeId → Bool := fun (t : Nat) => ([88, 91, 97] : List Nat).any (Nat.beq t)
noncomputable def t18 {R : Type} (sh : Sh) (f45 : i45 → Option o45) (x1 : Int) (x2 : Int) (x3 : ByteArray) (k : o18 → Option R) : Option R :=
  bif x1 == (0 : Int) then
    bif x2 == (0 : Int) then
      k (Go.Ev.strEq x3 { data := #[] })
    else
      k (Bool.false)
  else
    bif x1 == (1 : Int) then
      (f45 (x2)).bind fun (r1 : Bool) =>
      bif r1 then
        k (Go.Ev.strEq x3 { data := #[] })
      else
        k (Bool.false)
    else
      bif x1 == (2 : Int) then
        bif x2 == (0 : Int) then
          sh ((↑(ByteArray.size x3) : Int)) fun y2 =>
          k (Decidable.decide (y2 ≤ (32 : Int)))
        else
          k (Bool.false)
      else
        k (Bool.false)
theorem t18_eq {R : Type} (sh : Sh) (hsh : ∀ {α R : Type} (x : α) (K : α → Option R), sh x K = K x) (f45 : i45 → Option o45) (x1 : Int) (x2 : Int) (x3 : ByteArray) (K : CSt → Option R) : bodyK Tryd.prog (tabO sh hsh br18 ar18 [ent45 f45]) (tabL []) ann18 false Tryd.f18 (enc18 (x1, x2, x3)) K = t18 sh f45 x1 x2 x3 (retK18 K) := by kernel_rfl
theorem t18_law {R : Type} (f45 : i45 → Option o45) (x1 : Int) (x2 : Int) (x3 : ByteArray) (K : o18 → Option R) : t18 sh0 f45 x1 x2 x3 K = (t18 sh0 f45 x1 x2 x3 some).bind K := by
  have key : ∀ (sh : Sh) (_ : ∀ {α R S : Type} (x : α) (f : α → Option R) (K : R → Option S), (sh x f).bind K = sh x fun y => (f y).bind K), t18 sh f45 x1 x2 x3 K = (t18 sh f45 x1 x2 x3 some).bind K := by
    intro sh hb
    simp only [t18, hb, cond_bind', two_bind, none_bind', Option.bind_assoc, Option.bind_some]
  exact key sh0 (fun _ _ _ => rfl)
theorem ok18 (f45 : i45 → Option o45) (hf45 : Sd45 f45) : Sd18 (fun a => t18 sh0 f45 a.1 a.2.1 a.2.2 some) := by
  intro a b h
  refine call_ok (sh := sh0) (hsh := fun _ _ => rfl) (br := br18) (ar := ar18) (own := false) Tryd.mixed Tryd.func18 (by kernel_rfl) (.cons (mkEnt_ok hf45) .nil) (fun nt => .nil) ((t18_eq sh0 (fun _ _ => rfl) f45 a.1 a.2.1 a.2.2 _).trans ?_)
  rw [t18_law]
  simp only at h
  rw [h, Option.bind_some, retK18_eq]

/-! 20 erasure/value.Clean -/
abbrev i20 : Type := Int × Int × ByteArray
def enc20 : i20 → CSt := fun a => ([Go.Ev.SV.agg [Go.Ev.SL.d (Go.Ev.DL.int Go.IntKind.i64 a.1), Go.Ev.SL.d (Go.Ev.DL.int Go.IntKind.i64 a.2.1), Go.Ev.SL.d (Go.Ev.DL.str a.2.2)]], [])
def dec20 : (c : CSt) → Option { a : i20 // c = enc20 a }
  | ([Go.Ev.SV.agg [Go.Ev.SL.d (Go.Ev.DL.int Go.IntKind.i64 x1), Go.Ev.SL.d (Go.Ev.DL.int Go.IntKind.i64 x2), Go.Ev.SL.d (Go.Ev.DL.str x3)]], []) => some ⟨(x1, x2, x3), rfl⟩
  | _ => none
abbrev o20 : Type := Int × Int × ByteArray
def ret20 : o20 → CSt := fun b => ([Go.Ev.SV.agg [Go.Ev.SL.d (Go.Ev.DL.int Go.IntKind.i64 b.1), Go.Ev.SL.d (Go.Ev.DL.int Go.IntKind.i64 b.2.1), Go.Ev.SL.d (Go.Ev.DL.str b.2.2)]], [])
def retK20 {R : Type} (K : CSt → Option R) : o20 → Option R := fun b => K (([Go.Ev.SV.agg [Go.Ev.SL.d (Go.Ev.DL.int Go.IntKind.i64 b.1), Go.Ev.SL.d (Go.Ev.DL.int Go.IntKind.i64 b.2.1), Go.Ev.SL.d (Go.Ev.DL.str b.2.2)]], []))
theorem retK20_eq {R : Type} (K : CSt → Option R) (b : o20) : retK20 K b = K (ret20 b) := rfl
abbrev Sd20 (f : i20 → Option o20) : Prop := ∀ a b, f a = some b → CallOk Tryd.prog 20 (enc20 a) (ret20 b)
def ent20 (f : i20 → Option o20) : Ent := mkEnt 20 dec20 ret20 retK20 retK20_eq f
def ann20 : Nat → List Nat × List Nat := fun id => ([], [])
def br20 : FuncId → Bool := fun (g : Nat) => ([71] : List Nat).any (Nat.beq g)
def ar20 : TypeId → Bool := fun (t : Nat) => ([88, 91, 97] : List Nat).any (Nat.beq t)
noncomputable def t20 {R : Type} (sh : Sh) (f18 : i18 → Option o18) (x1 : Int) (x2 : Int) (x3 : ByteArray) (k : o20 → Option R) : Option R :=
  (f18 (x1, x2, x3)).bind fun (r1 : Bool) =>
  bif r1 then
    k ((x1, x2, x3))
  else
    k (((0 : Int), (0 : Int), { data := #[] }))
theorem t20_eq {R : Type} (sh : Sh) (hsh : ∀ {α R : Type} (x : α) (K : α → Option R), sh x K = K x) (f18 : i18 → Option o18) (x1 : Int) (x2 : Int) (x3 : ByteArray) (K : CSt → Option R) : bodyK Tryd.prog (tabO sh hsh br20 ar20 [ent18 f18]) (tabL []) ann20 false Tryd.f20 (enc20 (x1, x2, x3)) K = t20 sh f18 x1 x2 x3 (retK20 K) := by kernel_rfl
theorem t20_law {R : Type} (f18 : i18 → Option o18) (x1 : Int) (x2 : Int) (x3 : ByteArray) (K : o20 → Option R) : t20 sh0 f18 x1 x2 x3 K = (t20 sh0 f18 x1 x2 x3 some).bind K := by
  have key : ∀ (sh : Sh) (_ : ∀ {α R S : Type} (x : α) (f : α → Option R) (K : R → Option S), (sh x f).bind K = sh x fun y => (f y).bind K), t20 sh f18 x1 x2 x3 K = (t20 sh f18 x1 x2 x3 some).bind K := by
    intro sh hb
    simp only [t20, hb, cond_bind', two_bind, none_bind', Option.bind_assoc, Option.bind_some]
  exact key sh0 (fun _ _ _ => rfl)
theorem ok20 (f18 : i18 → Option o18) (hf18 : Sd18 f18) : Sd20 (fun a => t20 sh0 f18 a.1 a.2.1 a.2.2 some) := by
  intro a b h
  refine call_ok (sh := sh0) (hsh := fun _ _ => rfl) (br := br20) (ar := ar20) (own := false) Tryd.mixed Tryd.func20 (by kernel_rfl) (.cons (mkEnt_ok hf18) .nil) (fun nt => .nil) ((t20_eq sh0 (fun _ _ => rfl) f18 a.1 a.2.1 a.2.2 _).trans ?_)
  rw [t20_law]
  simp only at h
  rw [h, Option.bind_some, retK20_eq]

/-! 41 strconv.FormatInt -/
abbrev i41 : Type := Int × Int
def enc41 : i41 → CSt := fun a => ([Go.Ev.SV.one (Go.Ev.SL.d (Go.Ev.DL.int Go.IntKind.i64 a.1)), Go.Ev.SV.one (Go.Ev.SL.d (Go.Ev.DL.int Go.IntKind.i64 a.2))], [])
def dec41 : (c : CSt) → Option { a : i41 // c = enc41 a }
  | ([Go.Ev.SV.one (Go.Ev.SL.d (Go.Ev.DL.int Go.IntKind.i64 x1)), Go.Ev.SV.one (Go.Ev.SL.d (Go.Ev.DL.int Go.IntKind.i64 x2))], []) => some ⟨(x1, x2), rfl⟩
  | _ => none
abbrev o41 : Type := ByteArray
def ret41 : o41 → CSt := fun b => ([Go.Ev.SV.one (Go.Ev.SL.d (Go.Ev.DL.str b))], [])
def retK41 {R : Type} (K : CSt → Option R) : o41 → Option R := fun b => K (([Go.Ev.SV.one (Go.Ev.SL.d (Go.Ev.DL.str b))], []))
theorem retK41_eq {R : Type} (K : CSt → Option R) (b : o41) : retK41 K b = K (ret41 b) := rfl
abbrev Sd41 (f : i41 → Option o41) : Prop := ∀ a b, f a = some b → CallOk Tryd.prog 41 (enc41 a) (ret41 b)
def ent41 (f : i41 → Option o41) : Ent := mkEnt 41 dec41 ret41 retK41 retK41_eq f

/-! 61 erasure/value.plain -/
abbrev i61 : Type := Int
def enc61 : i61 → CSt := fun a => ([Go.Ev.SV.one (Go.Ev.SL.d (Go.Ev.DL.int Go.IntKind.u8 a))], [])
def dec61 : (c : CSt) → Option { a : i61 // c = enc61 a }
  | ([Go.Ev.SV.one (Go.Ev.SL.d (Go.Ev.DL.int Go.IntKind.u8 x1))], []) => some ⟨x1, rfl⟩
  | _ => none
abbrev o61 : Type := Bool
def ret61 : o61 → CSt := fun b => ([Go.Ev.SV.one (Go.Ev.SL.d (Go.Ev.DL.bool b))], [])
def retK61 {R : Type} (K : CSt → Option R) : o61 → Option R := fun b => K (([Go.Ev.SV.one (Go.Ev.SL.d (Go.Ev.DL.bool b))], []))
theorem retK61_eq {R : Type} (K : CSt → Option R) (b : o61) : retK61 K b = K (ret61 b) := rfl
abbrev Sd61 (f : i61 → Option o61) : Prop := ∀ a b, f a = some b → CallOk Tryd.prog 61 (enc61 a) (ret61 b)
def ent61 (f : i61 → Option o61) : Ent := mkEnt 61 dec61 ret61 retK61 retK61_eq f
def ann61 : Nat → List Nat × List Nat := fun id => ([], [])
def br61 : FuncId → Bool := fun (g : Nat) => ([71] : List Nat).any (Nat.beq g)
def ar61 : TypeId → Bool := fun (t : Nat) => ([88, 91, 97] : List Nat).any (Nat.beq t)
noncomputable def t61 {R : Type} (sh : Sh) (x1 : Int) (k : o61 → Option R) : Option R :=
  bif Decidable.decide (x1 ≥ (32 : Int)) then
    bif Decidable.decide (x1 ≤ (126 : Int)) then
      bif x1 != (34 : Int) then
        k (x1 != (92 : Int))
      else
        k (Bool.false)
    else
      k (Bool.false)
  else
    k (Bool.false)
theorem t61_eq {R : Type} (sh : Sh) (hsh : ∀ {α R : Type} (x : α) (K : α → Option R), sh x K = K x) (x1 : Int) (K : CSt → Option R) : bodyK Tryd.prog (tabO sh hsh br61 ar61 []) (tabL []) ann61 false Tryd.f61 (enc61 x1) K = t61 sh x1 (retK61 K) := by kernel_rfl
theorem t61_law {R : Type} (x1 : Int) (K : o61 → Option R) : t61 sh0 x1 K = (t61 sh0 x1 some).bind K := by
  have key : ∀ (sh : Sh) (_ : ∀ {α R S : Type} (x : α) (f : α → Option R) (K : R → Option S), (sh x f).bind K = sh x fun y => (f y).bind K), t61 sh x1 K = (t61 sh x1 some).bind K := by
    intro sh hb
    simp only [t61, hb, cond_bind', two_bind, none_bind', Option.bind_assoc, Option.bind_some]
  exact key sh0 (fun _ _ _ => rfl)
theorem ok61 : Sd61 (fun a => t61 sh0 a some) := by
  intro a b h
  refine call_ok (sh := sh0) (hsh := fun _ _ => rfl) (br := br61) (ar := ar61) (own := false) Tryd.mixed Tryd.func61 (by kernel_rfl) .nil (fun nt => .nil) ((t61_eq sh0 (fun _ _ => rfl) a _).trans ?_)
  rw [t61_law]
  simp only at h
  rw [h, Option.bind_some, retK61_eq]

/-! 42 erasure/value.quote -/
abbrev i42 : Type := ByteArray
def enc42 : i42 → CSt := fun a => ([Go.Ev.SV.one (Go.Ev.SL.d (Go.Ev.DL.str a))], [])
def dec42 : (c : CSt) → Option { a : i42 // c = enc42 a }
  | ([Go.Ev.SV.one (Go.Ev.SL.d (Go.Ev.DL.str x1))], []) => some ⟨x1, rfl⟩
  | _ => none
abbrev o42 : Type := ByteArray
def ret42 : o42 → CSt := fun b => ([Go.Ev.SV.one (Go.Ev.SL.d (Go.Ev.DL.str b))], [])
def retK42 {R : Type} (K : CSt → Option R) : o42 → Option R := fun b => K (([Go.Ev.SV.one (Go.Ev.SL.d (Go.Ev.DL.str b))], []))
theorem retK42_eq {R : Type} (K : CSt → Option R) (b : o42) : retK42 K b = K (ret42 b) := rfl
abbrev Sd42 (f : i42 → Option o42) : Prop := ∀ a b, f a = some b → CallOk Tryd.prog 42 (enc42 a) (ret42 b)
def ent42 (f : i42 → Option o42) : Ent := mkEnt 42 dec42 ret42 retK42 retK42_eq f
def ann42 : Nat → List Nat × List Nat := fun id => bif Nat.beq id 3 then ([3, 8, 9, 10], [3]) else ([], [])
def br42 : FuncId → Bool := fun (g : Nat) => ([71] : List Nat).any (Nat.beq g)
def ar42 : TypeId → Bool := fun (t : Nat) => ([88, 91, 97] : List Nat).any (Nat.beq t)
abbrev iL42_3 : Type := Int × Int × Rows × Rows
def encL42_3 : iL42_3 → CSt := fun a => ([Go.Ev.SV.one (Go.Ev.SL.vr (0 : Nat)), Go.Ev.SV.one (Go.Ev.SL.vr (1 : Nat)), Go.Ev.SV.one (Go.Ev.SL.d (Go.Ev.DL.int Go.IntKind.i64 a.1)), Go.Ev.SV.one (Go.Ev.SL.d (Go.Ev.DL.int Go.IntKind.i64 a.2.1))], [Go.Ev.Obj.vec (5 : Nat) Bool.false a.2.2.1, Go.Ev.Obj.vec (5 : Nat) Bool.false a.2.2.2])
def decL42_3 : (c : CSt) → Option { a : iL42_3 // c = encL42_3 a }
  | ([Go.Ev.SV.one (Go.Ev.SL.vr (0 : Nat)), Go.Ev.SV.one (Go.Ev.SL.vr (1 : Nat)), Go.Ev.SV.one (Go.Ev.SL.d (Go.Ev.DL.int Go.IntKind.i64 x1)), Go.Ev.SV.one (Go.Ev.SL.d (Go.Ev.DL.int Go.IntKind.i64 x2))], [Go.Ev.Obj.vec (5 : Nat) Bool.false x3, Go.Ev.Obj.vec (5 : Nat) Bool.false x4]) => some ⟨(x1, x2, x3, x4), rfl⟩
  | _ => none
abbrev oL42_3 : Type := Rows
def retL42_3 : oL42_3 → Ex × CSt := fun b => (Go.Ev.Ex.exit (0 : Nat), ([Go.Ev.SV.one (Go.Ev.SL.vr (0 : Nat))], [Go.Ev.Obj.vec (5 : Nat) Bool.false b]))
def retKL42_3 {R : Type} (K : Ex → CSt → Option R) : oL42_3 → Option R := fun b => K (Go.Ev.Ex.exit (0 : Nat)) (([Go.Ev.SV.one (Go.Ev.SL.vr (0 : Nat))], [Go.Ev.Obj.vec (5 : Nat) Bool.false b]))
theorem retKL42_3_eq {R : Type} (K : Ex → CSt → Option R) (b : oL42_3) : retKL42_3 K b = K (retL42_3 b).1 (retL42_3 b).2 := rfl
def entL42_3 (l : iL42_3 → Option oL42_3) : LEnt := mkLEnt 3 decL42_3 retL42_3 retKL42_3 retKL42_3_eq l
abbrev SdL42_3 (l : iL42_3 → Option oL42_3) : Prop := ∀ nt a b, l a = some b → LoopAt Tryd.prog nt 0 ann42 Tryd.f42 3 (encL42_3 a) (retL42_3 b)
noncomputable def u42_3 {R : Type} (sh : Sh) (f61 : i61 → Option o61) (l42_3 : iL42_3 → Option oL42_3) (x1 : Int) (x2 : Int) (x3 : Rows) (x4 : Rows) (k : oL42_3 → Option R) : Option R :=
  bif Decidable.decide (x2 < x1) then
    bif Decidable.decide ((0 : Int) ≤ x2 ∧ x2 < (↑(List.length x4) : Int)) then
      bif Decidable.decide (Int.toNat x2 < List.length x4) then
        sh (Go.Ev.DL.getI (Go.Ev.cellAt x4 (Int.toNat x2) (0 : Nat))) fun y4 =>
        (f61 (y4)).bind fun (r5 : Bool) =>
        bif r5 then
          sh ([[Go.Ev.DL.int Go.IntKind.u8 y4]] : Rows) fun y6 =>
          bif Go.Ev.roomE Go.Proofs.Tryd.prog (5 : Nat) (List.length x3 + List.length y6) then
            sh (x3 ++ y6 : Rows) fun y7 =>
            (l42_3 (x1, Go.IntKind.wrap Go.IntKind.i64 (x2 + (1 : Int)), y7, x4)).bind k
          else none
        else
          bif Decidable.decide ((0 : Int) ≤ Int.fdiv y4 (16 : Int) ∧ Int.fdiv y4 (16 : Int) < (16 : Int)) then
            sh ((↑(UInt8.toNat (List.getD [(48 : UInt8), (49 : UInt8), (50 : UInt8), (51 : UInt8), (52 : UInt8), (53 : UInt8), (54 : UInt8), (55 : UInt8), (56 : UInt8), (57 : UInt8), (97 : UInt8), (98 : UInt8), (99 : UInt8), (100 : UInt8), (101 : UInt8), (102 : UInt8)] (Int.toNat (Int.fdiv y4 (16 : Int))) (0 : UInt8))) : Int)) fun y8 =>
            sh (Go.IntKind.wrap Go.IntKind.u8 (↑(BitVec.toNat (BitVec.ofInt (8 : Nat) y4 &&& BitVec.ofInt (8 : Nat) (15 : Int))) : Int)) fun y9 =>
            bif Decidable.decide ((0 : Int) ≤ y9 ∧ y9 < (16 : Int)) then
              sh ((↑(UInt8.toNat (List.getD [(48 : UInt8), (49 : UInt8), (50 : UInt8), (51 : UInt8), (52 : UInt8), (53 : UInt8), (54 : UInt8), (55 : UInt8), (56 : UInt8), (57 : UInt8), (97 : UInt8), (98 : UInt8), (99 : UInt8), (100 : UInt8), (101 : UInt8), (102 : UInt8)] (Int.toNat y9) (0 : UInt8))) : Int)) fun y10 =>
              sh ([[Go.Ev.DL.int Go.IntKind.u8 (92 : Int)], [Go.Ev.DL.int Go.IntKind.u8 y8], [Go.Ev.DL.int Go.IntKind.u8 y10]] : Rows) fun y11 =>
              bif Go.Ev.roomE Go.Proofs.Tryd.prog (5 : Nat) (List.length x3 + List.length y11) then
                sh (x3 ++ y11 : Rows) fun y12 =>
                (l42_3 (x1, Go.IntKind.wrap Go.IntKind.i64 (x2 + (1 : Int)), y12, x4)).bind k
              else none
            else none
          else none
      else none
    else none
  else
    k (x3)
theorem u42_3_eq {R : Type} (sh : Sh) (hsh : ∀ {α R : Type} (x : α) (K : α → Option R), sh x K = K x) (f61 : i61 → Option o61) (l42_3 : iL42_3 → Option oL42_3) (x1 : Int) (x2 : Int) (x3 : Rows) (x4 : Rows) (K : Ex → CSt → Option R) : roundK Tryd.prog (tabO sh hsh br42 ar42 [ent61 f61]) (tabL [entL42_3 l42_3]) ann42 0 Tryd.f42 3 (encL42_3 (x1, x2, x3, x4)) K = u42_3 sh f61 l42_3 x1 x2 x3 x4 (retKL42_3 K) := by kernel_rfl
theorem u42_3_law {R : Type} (f61 : i61 → Option o61) (l42_3 : iL42_3 → Option oL42_3) (x1 : Int) (x2 : Int) (x3 : Rows) (x4 : Rows) (K : oL42_3 → Option R) : u42_3 sh0 f61 l42_3 x1 x2 x3 x4 K = (u42_3 sh0 f61 l42_3 x1 x2 x3 x4 some).bind K := by
  have key : ∀ (sh : Sh) (_ : ∀ {α R S : Type} (x : α) (f : α → Option R) (K : R → Option S), (sh x f).bind K = sh x fun y => (f y).bind K), u42_3 sh f61 l42_3 x1 x2 x3 x4 K = (u42_3 sh f61 l42_3 x1 x2 x3 x4 some).bind K := by
    intro sh hb
    simp only [u42_3, hb, cond_bind', two_bind, none_bind', Option.bind_assoc, Option.bind_some]
  exact key sh0 (fun _ _ _ => rfl)
theorem okL42_3 (f61 : i61 → Option o61) (l42_3 : iL42_3 → Option oL42_3) (hf61 : Sd61 f61) (hl42_3 : SdL42_3 l42_3) : SdL42_3 (fun a => u42_3 sh0 f61 l42_3 a.1 a.2.1 a.2.2.1 a.2.2.2 some) := by
  intro nt a b h
  refine round_ok (sh := sh0) (hsh := fun _ _ => rfl) (br := br42) (ar := ar42) Tryd.mixed (by kernel_rfl) (.cons (mkEnt_ok hf61) .nil) (.cons (mkLEnt_ok (hl42_3 nt)) .nil) ((u42_3_eq sh0 (fun _ _ => rfl) f61 l42_3  a.1 a.2.1 a.2.2.1 a.2.2.2 _).trans ?_)
  rw [u42_3_law]
  simp only at h
  rw [h, Option.bind_some, retKL42_3_eq]
noncomputable def t42 {R : Type} (sh : Sh) (l42_3 : iL42_3 → Option oL42_3) (x1 : ByteArray) (k : o42 → Option R) : Option R :=
  sh ([[Go.Ev.DL.int Go.IntKind.u8 (34 : Int)]] : Rows) fun y1 =>
  bif Go.Ev.roomE Go.Proofs.Tryd.prog (5 : Nat) (ByteArray.size x1) then
    sh (Go.Ev.bytesOfStr x1 : Rows) fun y2 =>
    sh ((↑(List.length y2) : Int)) fun y3 =>
    (l42_3 (y3, (0 : Int), y1, y2)).bind fun (r13 : Rows) =>
    sh ([[Go.Ev.DL.int Go.IntKind.u8 (34 : Int)]] : Rows) fun y14 =>
    bif Go.Ev.roomE Go.Proofs.Tryd.prog (5 : Nat) (List.length r13 + List.length y14) then
      sh (r13 ++ y14 : Rows) fun y15 =>
      sh (Go.Ev.strOfBytes y15) fun y16 =>
      k (y16)
    else none
  else none
theorem t42_eq {R : Type} (sh : Sh) (hsh : ∀ {α R : Type} (x : α) (K : α → Option R), sh x K = K x) (l42_3 : iL42_3 → Option oL42_3) (x1 : ByteArray) (K : CSt → Option R) : bodyK Tryd.prog (tabO sh hsh br42 ar42 []) (tabL [entL42_3 l42_3]) ann42 false Tryd.f42 (enc42 x1) K = t42 sh l42_3 x1 (retK42 K) := by kernel_rfl
theorem t42_law {R : Type} (l42_3 : iL42_3 → Option oL42_3) (x1 : ByteArray) (K : o42 → Option R) : t42 sh0 l42_3 x1 K = (t42 sh0 l42_3 x1 some).bind K := by
  have key : ∀ (sh : Sh) (_ : ∀ {α R S : Type} (x : α) (f : α → Option R) (K : R → Option S), (sh x f).bind K = sh x fun y => (f y).bind K), t42 sh l42_3 x1 K = (t42 sh l42_3 x1 some).bind K := by
    intro sh hb
    simp only [t42, hb, cond_bind', two_bind, none_bind', Option.bind_assoc, Option.bind_some]
  exact key sh0 (fun _ _ _ => rfl)
theorem ok42 (l42_3 : iL42_3 → Option oL42_3) (hl42_3 : SdL42_3 l42_3) : Sd42 (fun a => t42 sh0 l42_3 a some) := by
  intro a b h
  refine call_ok (sh := sh0) (hsh := fun _ _ => rfl) (br := br42) (ar := ar42) (own := false) Tryd.mixed Tryd.func42 (by kernel_rfl) .nil (fun nt => (.cons (mkLEnt_ok (hl42_3 nt)) .nil)) ((t42_eq sh0 (fun _ _ => rfl) l42_3 a _).trans ?_)
  rw [t42_law]
  simp only at h
  rw [h, Option.bind_some, retK42_eq]

/-! 15 erasure/value.Format -/
abbrev i15 : Type := Int × Int × ByteArray
def enc15 : i15 → CSt := fun a => ([Go.Ev.SV.agg [Go.Ev.SL.d (Go.Ev.DL.int Go.IntKind.i64 a.1), Go.Ev.SL.d (Go.Ev.DL.int Go.IntKind.i64 a.2.1), Go.Ev.SL.d (Go.Ev.DL.str a.2.2)]], [])
def dec15 : (c : CSt) → Option { a : i15 // c = enc15 a }
  | ([Go.Ev.SV.agg [Go.Ev.SL.d (Go.Ev.DL.int Go.IntKind.i64 x1), Go.Ev.SL.d (Go.Ev.DL.int Go.IntKind.i64 x2), Go.Ev.SL.d (Go.Ev.DL.str x3)]], []) => some ⟨(x1, x2, x3), rfl⟩
  | _ => none
abbrev o15 : Type := ByteArray
def ret15 : o15 → CSt := fun b => ([Go.Ev.SV.one (Go.Ev.SL.d (Go.Ev.DL.str b))], [])
def retK15 {R : Type} (K : CSt → Option R) : o15 → Option R := fun b => K (([Go.Ev.SV.one (Go.Ev.SL.d (Go.Ev.DL.str b))], []))
theorem retK15_eq {R : Type} (K : CSt → Option R) (b : o15) : retK15 K b = K (ret15 b) := rfl
abbrev Sd15 (f : i15 → Option o15) : Prop := ∀ a b, f a = some b → CallOk Tryd.prog 15 (enc15 a) (ret15 b)
def ent15 (f : i15 → Option o15) : Ent := mkEnt 15 dec15 ret15 retK15 retK15_eq f
def ann15 : Nat → List Nat × List Nat := fun id => ([], [])
def br15 : FuncId → Bool := fun (g : Nat) => ([71] : List Nat).any (Nat.beq g)
def ar15 : TypeId → Bool := fun (t : Nat) => ([88, 91, 97] : List Nat).any (Nat.beq t)
noncomputable def t15 {R : Type} (sh : Sh) (f20 : i20 → Option o20) (f41 : i41 → Option o41) (f42 : i42 → Option o42) (x1 : Int) (x2 : Int) (x3 : ByteArray) (k : o15 → Option R) : Option R :=
  (f20 (x1, x2, x3)).bind fun (r1 : Int × Int × ByteArray) =>
  bif Prod.fst r1 == (1 : Int) then
    (f41 (Prod.fst r1.2, (10 : Int))).bind fun (r2 : ByteArray) =>
    k (r2)
  else
    bif Prod.fst r1 == (2 : Int) then
      (f42 (Prod.snd r1.2)).bind fun (r3 : ByteArray) =>
      k (r3)
    else
      k ({ data := #[(110 : UInt8), (117 : UInt8), (108 : UInt8), (108 : UInt8)] })
theorem t15_eq {R : Type} (sh : Sh) (hsh : ∀ {α R : Type} (x : α) (K : α → Option R), sh x K = K x) (f20 : i20 → Option o20) (f41 : i41 → Option o41) (f42 : i42 → Option o42) (x1 : Int) (x2 : Int) (x3 : ByteArray) (K : CSt → Option R) : bodyK Tryd.prog (tabO sh hsh br15 ar15 [ent20 f20, ent41 f41, ent42 f42]) (tabL []) ann15 false Tryd.f15 (enc15 (x1, x2, x3)) K = t15 sh f20 f41 f42 x1 x2 x3 (retK15 K) := by kernel_rfl
theorem t15_law {R : Type} (f20 : i20 → Option o20) (f41 : i41 → Option o41) (f42 : i42 → Option o42) (x1 : Int) (x2 : Int) (x3 : ByteArray) (K : o15 → Option R) : t15 sh0 f20 f41 f42 x1 x2 x3 K = (t15 sh0 f20 f41 f42 x1 x2 x3 some).bind K := by
  have key : ∀ (sh : Sh) (_ : ∀ {α R S : Type} (x : α) (f : α → Option R) (K : R → Option S), (sh x f).bind K = sh x fun y => (f y).bind K), t15 sh f20 f41 f42 x1 x2 x3 K = (t15 sh f20 f41 f42 x1 x2 x3 some).bind K := by
    intro sh hb
    simp only [t15, hb, cond_bind', two_bind, none_bind', Option.bind_assoc, Option.bind_some]
  exact key sh0 (fun _ _ _ => rfl)
theorem ok15 (f20 : i20 → Option o20) (f41 : i41 → Option o41) (f42 : i42 → Option o42) (hf20 : Sd20 f20) (hf41 : Sd41 f41) (hf42 : Sd42 f42) : Sd15 (fun a => t15 sh0 f20 f41 f42 a.1 a.2.1 a.2.2 some) := by
  intro a b h
  refine call_ok (sh := sh0) (hsh := fun _ _ => rfl) (br := br15) (ar := ar15) (own := false) Tryd.mixed Tryd.func15 (by kernel_rfl) (.cons (mkEnt_ok hf20) (.cons (mkEnt_ok hf41) (.cons (mkEnt_ok hf42) .nil))) (fun nt => .nil) ((t15_eq sh0 (fun _ _ => rfl) f20 f41 f42 a.1 a.2.1 a.2.2 _).trans ?_)
  rw [t15_law]
  simp only at h
  rw [h, Option.bind_some, retK15_eq]

/-! 33 erasure/value.EncodeRow -/
abbrev i33 : Type := Rows
def enc33 : i33 → CSt := fun a => ([Go.Ev.SV.one (Go.Ev.SL.d (Go.Ev.DL.lst (23 : Nat) a))], [])
def dec33 : (c : CSt) → Option { a : i33 // c = enc33 a }
  | ([Go.Ev.SV.one (Go.Ev.SL.d (Go.Ev.DL.lst (23 : Nat) x1))], []) => some ⟨x1, rfl⟩
  | _ => none
abbrev o33 : Type := ByteArray
def ret33 : o33 → CSt := fun b => ([Go.Ev.SV.one (Go.Ev.SL.d (Go.Ev.DL.str b))], [])
def retK33 {R : Type} (K : CSt → Option R) : o33 → Option R := fun b => K (([Go.Ev.SV.one (Go.Ev.SL.d (Go.Ev.DL.str b))], []))
theorem retK33_eq {R : Type} (K : CSt → Option R) (b : o33) : retK33 K b = K (ret33 b) := rfl
abbrev Sd33 (f : i33 → Option o33) : Prop := ∀ a b, f a = some b → CallOk Tryd.prog 33 (enc33 a) (ret33 b)
def ent33 (f : i33 → Option o33) : Ent := mkEnt 33 dec33 ret33 retK33 retK33_eq f
def ann33 : Nat → List Nat × List Nat := fun id => bif Nat.beq id 3 then ([3, 10, 11, 12], [3]) else bif Nat.beq id 12 then ([3, 6, 7, 10, 11, 12], [3, 10, 11, 12]) else bif Nat.beq id 18 then ([3, 10, 11, 12, 51, 52, 53], [3, 10, 11, 12]) else ([], [])
def br33 : FuncId → Bool := fun (g : Nat) => ([71] : List Nat).any (Nat.beq g)
def ar33 : TypeId → Bool := fun (t : Nat) => ([88, 91, 97] : List Nat).any (Nat.beq t)
abbrev iL33_3 : Type := Rows × Int × Int × Rows
def encL33_3 : iL33_3 → CSt := fun a => ([Go.Ev.SV.one (Go.Ev.SL.vr (0 : Nat)), Go.Ev.SV.one (Go.Ev.SL.d (Go.Ev.DL.lst (23 : Nat) a.1)), Go.Ev.SV.one (Go.Ev.SL.d (Go.Ev.DL.int Go.IntKind.i64 a.2.1)), Go.Ev.SV.one (Go.Ev.SL.d (Go.Ev.DL.int Go.IntKind.i64 a.2.2.1))], [Go.Ev.Obj.vec (5 : Nat) Bool.false a.2.2.2])
def decL33_3 : (c : CSt) → Option { a : iL33_3 // c = encL33_3 a }
  | ([Go.Ev.SV.one (Go.Ev.SL.vr (0 : Nat)), Go.Ev.SV.one (Go.Ev.SL.d (Go.Ev.DL.lst (23 : Nat) x1)), Go.Ev.SV.one (Go.Ev.SL.d (Go.Ev.DL.int Go.IntKind.i64 x2)), Go.Ev.SV.one (Go.Ev.SL.d (Go.Ev.DL.int Go.IntKind.i64 x3))], [Go.Ev.Obj.vec (5 : Nat) Bool.false x4]) => some ⟨(x1, x2, x3, x4), rfl⟩
  | _ => none
abbrev oL33_3 : Type := Rows
def retL33_3 : oL33_3 → Ex × CSt := fun b => (Go.Ev.Ex.exit (0 : Nat), ([Go.Ev.SV.one (Go.Ev.SL.vr (0 : Nat))], [Go.Ev.Obj.vec (5 : Nat) Bool.false b]))
def retKL33_3 {R : Type} (K : Ex → CSt → Option R) : oL33_3 → Option R := fun b => K (Go.Ev.Ex.exit (0 : Nat)) (([Go.Ev.SV.one (Go.Ev.SL.vr (0 : Nat))], [Go.Ev.Obj.vec (5 : Nat) Bool.false b]))
theorem retKL33_3_eq {R : Type} (K : Ex → CSt → Option R) (b : oL33_3) : retKL33_3 K b = K (retL33_3 b).1 (retL33_3 b).2 := rfl
def entL33_3 (l : iL33_3 → Option oL33_3) : LEnt := mkLEnt 3 decL33_3 retL33_3 retKL33_3 retKL33_3_eq l
abbrev SdL33_3 (l : iL33_3 → Option oL33_3) : Prop := ∀ nt a b, l a = some b → LoopAt Tryd.prog nt 0 ann33 Tryd.f33 3 (encL33_3 a) (retL33_3 b)
abbrev iL33_12 : Type := Int × Int × Rows × Int × Int × Rows
def encL33_12 : iL33_12 → CSt := fun a => ([Go.Ev.SV.one (Go.Ev.SL.vr (0 : Nat)), Go.Ev.SV.one (Go.Ev.SL.d (Go.Ev.DL.int Go.IntKind.u64 a.1)), Go.Ev.SV.one (Go.Ev.SL.d (Go.Ev.DL.int Go.IntKind.i64 a.2.1)), Go.Ev.SV.one (Go.Ev.SL.d (Go.Ev.DL.lst (23 : Nat) a.2.2.1)), Go.Ev.SV.one (Go.Ev.SL.d (Go.Ev.DL.int Go.IntKind.i64 a.2.2.2.1)), Go.Ev.SV.one (Go.Ev.SL.d (Go.Ev.DL.int Go.IntKind.i64 a.2.2.2.2.1))], [Go.Ev.Obj.vec (5 : Nat) Bool.false a.2.2.2.2.2])
def decL33_12 : (c : CSt) → Option { a : iL33_12 // c = encL33_12 a }
  | ([Go.Ev.SV.one (Go.Ev.SL.vr (0 : Nat)), Go.Ev.SV.one (Go.Ev.SL.d (Go.Ev.DL.int Go.IntKind.u64 x1)), Go.Ev.SV.one (Go.Ev.SL.d (Go.Ev.DL.int Go.IntKind.i64 x2)), Go.Ev.SV.one (Go.Ev.SL.d (Go.Ev.DL.lst (23 : Nat) x3)), Go.Ev.SV.one (Go.Ev.SL.d (Go.Ev.DL.int Go.IntKind.i64 x4)), Go.Ev.SV.one (Go.Ev.SL.d (Go.Ev.DL.int Go.IntKind.i64 x5))], [Go.Ev.Obj.vec (5 : Nat) Bool.false x6]) => some ⟨(x1, x2, x3, x4, x5, x6), rfl⟩
  | _ => none
abbrev oL33_12 : Type := Rows × Int × Int × Rows
def retL33_12 : oL33_12 → Ex × CSt := fun b => (Go.Ev.Ex.exit (3 : Nat), ([Go.Ev.SV.one (Go.Ev.SL.vr (0 : Nat)), Go.Ev.SV.one (Go.Ev.SL.d (Go.Ev.DL.lst (23 : Nat) b.1)), Go.Ev.SV.one (Go.Ev.SL.d (Go.Ev.DL.int Go.IntKind.i64 b.2.1)), Go.Ev.SV.one (Go.Ev.SL.d (Go.Ev.DL.int Go.IntKind.i64 b.2.2.1))], [Go.Ev.Obj.vec (5 : Nat) Bool.false b.2.2.2]))
def retKL33_12 {R : Type} (K : Ex → CSt → Option R) : oL33_12 → Option R := fun b => K (Go.Ev.Ex.exit (3 : Nat)) (([Go.Ev.SV.one (Go.Ev.SL.vr (0 : Nat)), Go.Ev.SV.one (Go.Ev.SL.d (Go.Ev.DL.lst (23 : Nat) b.1)), Go.Ev.SV.one (Go.Ev.SL.d (Go.Ev.DL.int Go.IntKind.i64 b.2.1)), Go.Ev.SV.one (Go.Ev.SL.d (Go.Ev.DL.int Go.IntKind.i64 b.2.2.1))], [Go.Ev.Obj.vec (5 : Nat) Bool.false b.2.2.2]))
theorem retKL33_12_eq {R : Type} (K : Ex → CSt → Option R) (b : oL33_12) : retKL33_12 K b = K (retL33_12 b).1 (retL33_12 b).2 := rfl
def entL33_12 (l : iL33_12 → Option oL33_12) : LEnt := mkLEnt 12 decL33_12 retL33_12 retKL33_12 retKL33_12_eq l
abbrev SdL33_12 (l : iL33_12 → Option oL33_12) : Prop := ∀ nt a b, l a = some b → LoopAt Tryd.prog nt 0 ann33 Tryd.f33 12 (encL33_12 a) (retL33_12 b)
abbrev iL33_18 : Type := Rows × Int × Int × Int × Int × Rows × Rows
def encL33_18 : iL33_18 → CSt := fun a => ([Go.Ev.SV.one (Go.Ev.SL.vr (0 : Nat)), Go.Ev.SV.one (Go.Ev.SL.d (Go.Ev.DL.lst (23 : Nat) a.1)), Go.Ev.SV.one (Go.Ev.SL.d (Go.Ev.DL.int Go.IntKind.i64 a.2.1)), Go.Ev.SV.one (Go.Ev.SL.d (Go.Ev.DL.int Go.IntKind.i64 a.2.2.1)), Go.Ev.SV.one (Go.Ev.SL.vr (1 : Nat)), Go.Ev.SV.one (Go.Ev.SL.d (Go.Ev.DL.int Go.IntKind.i64 a.2.2.2.1)), Go.Ev.SV.one (Go.Ev.SL.d (Go.Ev.DL.int Go.IntKind.i64 a.2.2.2.2.1))], [Go.Ev.Obj.vec (5 : Nat) Bool.false a.2.2.2.2.2.1, Go.Ev.Obj.vec (5 : Nat) Bool.false a.2.2.2.2.2.2])
def decL33_18 : (c : CSt) → Option { a : iL33_18 // c = encL33_18 a }
  | ([Go.Ev.SV.one (Go.Ev.SL.vr (0 : Nat)), Go.Ev.SV.one (Go.Ev.SL.d (Go.Ev.DL.lst (23 : Nat) x1)), Go.Ev.SV.one (Go.Ev.SL.d (Go.Ev.DL.int Go.IntKind.i64 x2)), Go.Ev.SV.one (Go.Ev.SL.d (Go.Ev.DL.int Go.IntKind.i64 x3)), Go.Ev.SV.one (Go.Ev.SL.vr (1 : Nat)), Go.Ev.SV.one (Go.Ev.SL.d (Go.Ev.DL.int Go.IntKind.i64 x4)), Go.Ev.SV.one (Go.Ev.SL.d (Go.Ev.DL.int Go.IntKind.i64 x5))], [Go.Ev.Obj.vec (5 : Nat) Bool.false x6, Go.Ev.Obj.vec (5 : Nat) Bool.false x7]) => some ⟨(x1, x2, x3, x4, x5, x6, x7), rfl⟩
  | _ => none
abbrev oL33_18 : Type := Rows × Int × Int × Rows
def retL33_18 : oL33_18 → Ex × CSt := fun b => (Go.Ev.Ex.exit (5 : Nat), ([Go.Ev.SV.one (Go.Ev.SL.vr (0 : Nat)), Go.Ev.SV.one (Go.Ev.SL.d (Go.Ev.DL.lst (23 : Nat) b.1)), Go.Ev.SV.one (Go.Ev.SL.d (Go.Ev.DL.int Go.IntKind.i64 b.2.1)), Go.Ev.SV.one (Go.Ev.SL.d (Go.Ev.DL.int Go.IntKind.i64 b.2.2.1))], [Go.Ev.Obj.vec (5 : Nat) Bool.false b.2.2.2]))
def retKL33_18 {R : Type} (K : Ex → CSt → Option R) : oL33_18 → Option R := fun b => K (Go.Ev.Ex.exit (5 : Nat)) (([Go.Ev.SV.one (Go.Ev.SL.vr (0 : Nat)), Go.Ev.SV.one (Go.Ev.SL.d (Go.Ev.DL.lst (23 : Nat) b.1)), Go.Ev.SV.one (Go.Ev.SL.d (Go.Ev.DL.int Go.IntKind.i64 b.2.1)), Go.Ev.SV.one (Go.Ev.SL.d (Go.Ev.DL.int Go.IntKind.i64 b.2.2.1))], [Go.Ev.Obj.vec (5 : Nat) Bool.false b.2.2.2]))
theorem retKL33_18_eq {R : Type} (K : Ex → CSt → Option R) (b : oL33_18) : retKL33_18 K b = K (retL33_18 b).1 (retL33_18 b).2 := rfl
def entL33_18 (l : iL33_18 → Option oL33_18) : LEnt := mkLEnt 18 decL33_18 retL33_18 retKL33_18 retKL33_18_eq l
abbrev SdL33_18 (l : iL33_18 → Option oL33_18) : Prop := ∀ nt a b, l a = some b → LoopAt Tryd.prog nt 0 ann33 Tryd.f33 18 (encL33_18 a) (retL33_18 b)
noncomputable def u33_3 {R : Type} (sh : Sh) (f20 : i20 → Option o20) (l33_12 : iL33_12 → Option oL33_12) (l33_3 : iL33_3 → Option oL33_3) (l33_18 : iL33_18 → Option oL33_18) (x1 : Rows) (x2 : Int) (x3 : Int) (x4 : Rows) (k : oL33_3 → Option R) : Option R :=
  bif Decidable.decide (x3 < x2) then
    bif Decidable.decide ((0 : Int) ≤ x3 ∧ x3 < (↑(List.length x1) : Int)) then
      (f20 (Go.Ev.DL.getI (Go.Ev.cellAt x1 (Int.toNat x3) (0 : Nat)), Go.Ev.DL.getI (Go.Ev.cellAt x1 (Int.toNat x3) (1 : Nat)), Go.Ev.DL.getS (Go.Ev.cellAt x1 (Int.toNat x3) (2 : Nat)))).bind fun (r3 : Int × Int × ByteArray) =>
      bif Prod.fst r3 == (1 : Int) then
        sh ([[Go.Ev.DL.int Go.IntKind.u8 (2 : Int)]] : Rows) fun y4 =>
        bif Go.Ev.roomE Go.Proofs.Tryd.prog (5 : Nat) (List.length x4 + List.length y4) then
          sh (x4 ++ y4 : Rows) fun y5 =>
          (l33_12 (Go.IntKind.wrap Go.IntKind.u64 (Go.IntKind.wrap Go.IntKind.i64 (Prod.fst r3.2 + (4294967296 : Int))), (4 : Int), x1, x2, x3, y5)).bind fun (r9 : Rows × Int × Int × Rows) =>
          (l33_3 (Prod.fst r9, Prod.fst r9.2, Go.IntKind.wrap Go.IntKind.i64 (Prod.fst (Prod.snd r9).2 + (1 : Int)), Prod.snd (Prod.snd r9).2)).bind k
        else none
      else
        bif Prod.fst r3 == (2 : Int) then
          sh ([[Go.Ev.DL.int Go.IntKind.u8 (3 : Int)]] : Rows) fun y10 =>
          bif Go.Ev.roomE Go.Proofs.Tryd.prog (5 : Nat) (List.length x4 + List.length y10) then
            sh (x4 ++ y10 : Rows) fun y11 =>
            bif Go.Ev.roomE Go.Proofs.Tryd.prog (5 : Nat) (ByteArray.size (Prod.snd r3.2)) then
              sh (Go.Ev.bytesOfStr (Prod.snd r3.2) : Rows) fun y12 =>
              sh ((↑(List.length y12) : Int)) fun y13 =>
              (l33_18 (x1, x2, x3, y13, (0 : Int), y11, y12)).bind fun (r19 : Rows × Int × Int × Rows) =>
              sh ([[Go.Ev.DL.int Go.IntKind.u8 (0 : Int)], [Go.Ev.DL.int Go.IntKind.u8 (0 : Int)]] : Rows) fun y20 =>
              bif Go.Ev.roomE Go.Proofs.Tryd.prog (5 : Nat) (List.length (Prod.snd (Prod.snd r19).2) + List.length y20) then
                sh (Prod.snd (Prod.snd r19).2 ++ y20 : Rows) fun y21 =>
                (l33_3 (Prod.fst r19, Prod.fst r19.2, Go.IntKind.wrap Go.IntKind.i64 (Prod.fst (Prod.snd r19).2 + (1 : Int)), y21)).bind k
              else none
            else none
          else none
        else
          sh ([[Go.Ev.DL.int Go.IntKind.u8 (1 : Int)]] : Rows) fun y22 =>
          bif Go.Ev.roomE Go.Proofs.Tryd.prog (5 : Nat) (List.length x4 + List.length y22) then
            sh (x4 ++ y22 : Rows) fun y23 =>
            (l33_3 (x1, x2, Go.IntKind.wrap Go.IntKind.i64 (x3 + (1 : Int)), y23)).bind k
          else none
    else none
  else
    k (x4)
theorem u33_3_eq {R : Type} (sh : Sh) (hsh : ∀ {α R : Type} (x : α) (K : α → Option R), sh x K = K x) (f20 : i20 → Option o20) (l33_12 : iL33_12 → Option oL33_12) (l33_3 : iL33_3 → Option oL33_3) (l33_18 : iL33_18 → Option oL33_18) (x1 : Rows) (x2 : Int) (x3 : Int) (x4 : Rows) (K : Ex → CSt → Option R) : roundK Tryd.prog (tabO sh hsh br33 ar33 [ent20 f20]) (tabL [entL33_12 l33_12, entL33_3 l33_3, entL33_18 l33_18]) ann33 0 Tryd.f33 3 (encL33_3 (x1, x2, x3, x4)) K = u33_3 sh f20 l33_12 l33_3 l33_18 x1 x2 x3 x4 (retKL33_3 K) := by kernel_rfl
theorem u33_3_law {R : Type} (f20 : i20 → Option o20) (l33_12 : iL33_12 → Option oL33_12) (l33_3 : iL33_3 → Option oL33_3) (l33_18 : iL33_18 → Option oL33_18) (x1 : Rows) (x2 : Int) (x3 : Int) (x4 : Rows) (K : oL33_3 → Option R) : u33_3 sh0 f20 l33_12 l33_3 l33_18 x1 x2 x3 x4 K = (u33_3 sh0 f20 l33_12 l33_3 l33_18 x1 x2 x3 x4 some).bind K := by
  have key : ∀ (sh : Sh) (_ : ∀ {α R S : Type} (x : α) (f : α → Option R) (K : R → Option S), (sh x f).bind K = sh x fun y => (f y).bind K), u33_3 sh f20 l33_12 l33_3 l33_18 x1 x2 x3 x4 K = (u33_3 sh f20 l33_12 l33_3 l33_18 x1 x2 x3 x4 some).bind K := by
    intro sh hb
    simp only [u33_3, hb, cond_bind', two_bind, none_bind', Option.bind_assoc, Option.bind_some]
  exact key sh0 (fun _ _ _ => rfl)
theorem okL33_3 (f20 : i20 → Option o20) (l33_12 : iL33_12 → Option oL33_12) (l33_3 : iL33_3 → Option oL33_3) (l33_18 : iL33_18 → Option oL33_18) (hf20 : Sd20 f20) (hl33_12 : SdL33_12 l33_12) (hl33_3 : SdL33_3 l33_3) (hl33_18 : SdL33_18 l33_18) : SdL33_3 (fun a => u33_3 sh0 f20 l33_12 l33_3 l33_18 a.1 a.2.1 a.2.2.1 a.2.2.2 some) := by
  intro nt a b h
  refine round_ok (sh := sh0) (hsh := fun _ _ => rfl) (br := br33) (ar := ar33) Tryd.mixed (by kernel_rfl) (.cons (mkEnt_ok hf20) .nil) (.cons (mkLEnt_ok (hl33_12 nt)) (.cons (mkLEnt_ok (hl33_3 nt)) (.cons (mkLEnt_ok (hl33_18 nt)) .nil))) ((u33_3_eq sh0 (fun _ _ => rfl) f20 l33_12 l33_3 l33_18  a.1 a.2.1 a.2.2.1 a.2.2.2 _).trans ?_)
  rw [u33_3_law]
  simp only at h
  rw [h, Option.bind_some, retKL33_3_eq]
noncomputable def u33_12 {R : Type} (sh : Sh) (l33_12 : iL33_12 → Option oL33_12) (x1 : Int) (x2 : Int) (x3 : Rows) (x4 : Int) (x5 : Int) (x6 : Rows) (k : oL33_12 → Option R) : Option R :=
  bif Decidable.decide (x2 ≥ (0 : Int)) then
    bif Decidable.decide ((0 : Int) ≤ Go.IntKind.wrap Go.IntKind.i64 ((8 : Int) * x2)) then
      sh (Int.fdiv x1 ((2 : Int) ^ Min.min (Int.toNat (Go.IntKind.wrap Go.IntKind.i64 ((8 : Int) * x2))) (64 : Nat))) fun y6 =>
      sh ([[Go.Ev.DL.int Go.IntKind.u8 (Go.IntKind.wrap Go.IntKind.u8 y6)]] : Rows) fun y7 =>
      bif Go.Ev.roomE Go.Proofs.Tryd.prog (5 : Nat) (List.length x6 + List.length y7) then
        sh (x6 ++ y7 : Rows) fun y8 =>
        (l33_12 (x1, Go.IntKind.wrap Go.IntKind.i64 (x2 - (1 : Int)), x3, x4, x5, y8)).bind k
      else none
    else none
  else
    k ((x3, x4, x5, x6))
theorem u33_12_eq {R : Type} (sh : Sh) (hsh : ∀ {α R : Type} (x : α) (K : α → Option R), sh x K = K x) (l33_12 : iL33_12 → Option oL33_12) (x1 : Int) (x2 : Int) (x3 : Rows) (x4 : Int) (x5 : Int) (x6 : Rows) (K : Ex → CSt → Option R) : roundK Tryd.prog (tabO sh hsh br33 ar33 []) (tabL [entL33_12 l33_12]) ann33 0 Tryd.f33 12 (encL33_12 (x1, x2, x3, x4, x5, x6)) K = u33_12 sh l33_12 x1 x2 x3 x4 x5 x6 (retKL33_12 K) := by kernel_rfl
theorem u33_12_law {R : Type} (l33_12 : iL33_12 → Option oL33_12) (x1 : Int) (x2 : Int) (x3 : Rows) (x4 : Int) (x5 : Int) (x6 : Rows) (K : oL33_12 → Option R) : u33_12 sh0 l33_12 x1 x2 x3 x4 x5 x6 K = (u33_12 sh0 l33_12 x1 x2 x3 x4 x5 x6 some).bind K := by
  have key : ∀ (sh : Sh) (_ : ∀ {α R S : Type} (x : α) (f : α → Option R) (K : R → Option S), (sh x f).bind K = sh x fun y => (f y).bind K), u33_12 sh l33_12 x1 x2 x3 x4 x5 x6 K = (u33_12 sh l33_12 x1 x2 x3 x4 x5 x6 some).bind K := by
    intro sh hb
    simp only [u33_12, hb, cond_bind', two_bind, none_bind', Option.bind_assoc, Option.bind_some]
  exact key sh0 (fun _ _ _ => rfl)
theorem okL33_12 (l33_12 : iL33_12 → Option oL33_12) (hl33_12 : SdL33_12 l33_12) : SdL33_12 (fun a => u33_12 sh0 l33_12 a.1 a.2.1 a.2.2.1 a.2.2.2.1 a.2.2.2.2.1 a.2.2.2.2.2 some) := by
  intro nt a b h
  refine round_ok (sh := sh0) (hsh := fun _ _ => rfl) (br := br33) (ar := ar33) Tryd.mixed (by kernel_rfl) .nil (.cons (mkLEnt_ok (hl33_12 nt)) .nil) ((u33_12_eq sh0 (fun _ _ => rfl) l33_12  a.1 a.2.1 a.2.2.1 a.2.2.2.1 a.2.2.2.2.1 a.2.2.2.2.2 _).trans ?_)
  rw [u33_12_law]
  simp only at h
  rw [h, Option.bind_some, retKL33_12_eq]
noncomputable def u33_18 {R : Type} (sh : Sh) (l33_18 : iL33_18 → Option oL33_18) (x1 : Rows) (x2 : Int) (x3 : Int) (x4 : Int) (x5 : Int) (x6 : Rows) (x7 : Rows) (k : oL33_18 → Option R) : Option R :=
  bif Decidable.decide (x5 < x4) then
    bif Decidable.decide ((0 : Int) ≤ x5 ∧ x5 < (↑(List.length x7) : Int)) then
      bif Decidable.decide (Int.toNat x5 < List.length x7) then
        sh (Go.Ev.DL.getI (Go.Ev.cellAt x7 (Int.toNat x5) (0 : Nat))) fun y14 =>
        sh ([[Go.Ev.DL.int Go.IntKind.u8 y14]] : Rows) fun y15 =>
        bif Go.Ev.roomE Go.Proofs.Tryd.prog (5 : Nat) (List.length x6 + List.length y15) then
          sh (x6 ++ y15 : Rows) fun y16 =>
          bif y14 == (0 : Int) then
            sh ([[Go.Ev.DL.int Go.IntKind.u8 (255 : Int)]] : Rows) fun y17 =>
            bif Go.Ev.roomE Go.Proofs.Tryd.prog (5 : Nat) (List.length y16 + List.length y17) then
              sh (y16 ++ y17 : Rows) fun y18 =>
              (l33_18 (x1, x2, x3, x4, Go.IntKind.wrap Go.IntKind.i64 (x5 + (1 : Int)), y18, x7)).bind k
            else none
          else
            (l33_18 (x1, x2, x3, x4, Go.IntKind.wrap Go.IntKind.i64 (x5 + (1 : Int)), y16, x7)).bind k
        else none
      else none
    else none
  else
    k ((x1, x2, x3, x6))
theorem u33_18_eq {R : Type} (sh : Sh) (hsh : ∀ {α R : Type} (x : α) (K : α → Option R), sh x K = K x) (l33_18 : iL33_18 → Option oL33_18) (x1 : Rows) (x2 : Int) (x3 : Int) (x4 : Int) (x5 : Int) (x6 : Rows) (x7 : Rows) (K : Ex → CSt → Option R) : roundK Tryd.prog (tabO sh hsh br33 ar33 []) (tabL [entL33_18 l33_18]) ann33 0 Tryd.f33 18 (encL33_18 (x1, x2, x3, x4, x5, x6, x7)) K = u33_18 sh l33_18 x1 x2 x3 x4 x5 x6 x7 (retKL33_18 K) := by kernel_rfl
theorem u33_18_law {R : Type} (l33_18 : iL33_18 → Option oL33_18) (x1 : Rows) (x2 : Int) (x3 : Int) (x4 : Int) (x5 : Int) (x6 : Rows) (x7 : Rows) (K : oL33_18 → Option R) : u33_18 sh0 l33_18 x1 x2 x3 x4 x5 x6 x7 K = (u33_18 sh0 l33_18 x1 x2 x3 x4 x5 x6 x7 some).bind K := by
  have key : ∀ (sh : Sh) (_ : ∀ {α R S : Type} (x : α) (f : α → Option R) (K : R → Option S), (sh x f).bind K = sh x fun y => (f y).bind K), u33_18 sh l33_18 x1 x2 x3 x4 x5 x6 x7 K = (u33_18 sh l33_18 x1 x2 x3 x4 x5 x6 x7 some).bind K := by
    intro sh hb
    simp only [u33_18, hb, cond_bind', two_bind, none_bind', Option.bind_assoc, Option.bind_some]
  exact key sh0 (fun _ _ _ => rfl)
theorem okL33_18 (l33_18 : iL33_18 → Option oL33_18) (hl33_18 : SdL33_18 l33_18) : SdL33_18 (fun a => u33_18 sh0 l33_18 a.1 a.2.1 a.2.2.1 a.2.2.2.1 a.2.2.2.2.1 a.2.2.2.2.2.1 a.2.2.2.2.2.2 some) := by
  intro nt a b h
  refine round_ok (sh := sh0) (hsh := fun _ _ => rfl) (br := br33) (ar := ar33) Tryd.mixed (by kernel_rfl) .nil (.cons (mkLEnt_ok (hl33_18 nt)) .nil) ((u33_18_eq sh0 (fun _ _ => rfl) l33_18  a.1 a.2.1 a.2.2.1 a.2.2.2.1 a.2.2.2.2.1 a.2.2.2.2.2.1 a.2.2.2.2.2.2 _).trans ?_)
  rw [u33_18_law]
  simp only at h
  rw [h, Option.bind_some, retKL33_18_eq]
noncomputable def t33 {R : Type} (sh : Sh) (l33_3 : iL33_3 → Option oL33_3) (x1 : Rows) (k : o33 → Option R) : Option R :=
  sh ([] : Rows) fun y1 =>
  sh ((↑(List.length x1) : Int)) fun y2 =>
  (l33_3 (x1, y2, (0 : Int), y1)).bind fun (r24 : Rows) =>
  sh (Go.Ev.strOfBytes r24) fun y25 =>
  k (y25)
theorem t33_eq {R : Type} (sh : Sh) (hsh : ∀ {α R : Type} (x : α) (K : α → Option R), sh x K = K x) (l33_3 : iL33_3 → Option oL33_3) (x1 : Rows) (K : CSt → Option R) : bodyK Tryd.prog (tabO sh hsh br33 ar33 []) (tabL [entL33_3 l33_3]) ann33 false Tryd.f33 (enc33 x1) K = t33 sh l33_3 x1 (retK33 K) := by kernel_rfl
theorem t33_law {R : Type} (l33_3 : iL33_3 → Option oL33_3) (x1 : Rows) (K : o33 → Option R) : t33 sh0 l33_3 x1 K = (t33 sh0 l33_3 x1 some).bind K := by
  have key : ∀ (sh : Sh) (_ : ∀ {α R S : Type} (x : α) (f : α → Option R) (K : R → Option S), (sh x f).bind K = sh x fun y => (f y).bind K), t33 sh l33_3 x1 K = (t33 sh l33_3 x1 some).bind K := by
    intro sh hb
    simp only [t33, hb, cond_bind', two_bind, none_bind', Option.bind_assoc, Option.bind_some]
  exact key sh0 (fun _ _ _ => rfl)
theorem ok33 (l33_3 : iL33_3 → Option oL33_3) (hl33_3 : SdL33_3 l33_3) : Sd33 (fun a => t33 sh0 l33_3 a some) := by
  intro a b h
  refine call_ok (sh := sh0) (hsh := fun _ _ => rfl) (br := br33) (ar := ar33) (own := false) Tryd.mixed Tryd.func33 (by kernel_rfl) .nil (fun nt => (.cons (mkLEnt_ok (hl33_3 nt)) .nil)) ((t33_eq sh0 (fun _ _ => rfl) l33_3 a _).trans ?_)
  rw [t33_law]
  simp only at h
  rw [h, Option.bind_some, retK33_eq]

/-! 14 erasure/erasurelaw01.awake -/
abbrev i14 : Type := Unit
def enc14 : i14 → CSt := fun a => ([], [])
def dec14 : (c : CSt) → Option { a : i14 // c = enc14 a }
  | ([], []) => some ⟨(), rfl⟩
  | _ => none
abbrev o14 : Type := Bool
def ret14 : o14 → CSt := fun b => ([Go.Ev.SV.one (Go.Ev.SL.d (Go.Ev.DL.bool b))], [])
def retK14 {R : Type} (K : CSt → Option R) : o14 → Option R := fun b => K (([Go.Ev.SV.one (Go.Ev.SL.d (Go.Ev.DL.bool b))], []))
theorem retK14_eq {R : Type} (K : CSt → Option R) (b : o14) : retK14 K b = K (ret14 b) := rfl
abbrev Sd14 (f : i14 → Option o14) : Prop := ∀ a b, f a = some b → CallOk Tryd.prog 14 (enc14 a) (ret14 b)
def ent14 (f : i14 → Option o14) : Ent := mkEnt 14 dec14 ret14 retK14 retK14_eq f
def ann14 : Nat → List Nat × List Nat := fun id => ([], [])
def br14 : FuncId → Bool := fun (g : Nat) => ([71] : List Nat).any (Nat.beq g)
def ar14 : TypeId → Bool := fun (t : Nat) => ([88, 91, 97] : List Nat).any (Nat.beq t)
noncomputable def t14 {R : Type} (sh : Sh) (f18 : i18 → Option o18) (f15 : i15 → Option o15) (f33 : i33 → Option o33) (k : o14 → Option R) : Option R :=
  (f18 ((2 : Int), (0 : Int), { data := #[(97 : UInt8), (34 : UInt8), (10 : UInt8)] })).bind fun (r1 : Bool) =>
  bif r1 then
    (f15 ((2 : Int), (0 : Int), { data := #[(97 : UInt8), (34 : UInt8), (10 : UInt8)] })).bind fun (r2 : ByteArray) =>
    bif Go.Ev.strEq r2 { data := #[(34 : UInt8), (97 : UInt8), (92 : UInt8), (50 : UInt8), (50 : UInt8), (92 : UInt8), (48 : UInt8), (97 : UInt8), (34 : UInt8)] } then
      sh ([[Go.Ev.DL.int Go.IntKind.i64 (0 : Int), Go.Ev.DL.int Go.IntKind.i64 (0 : Int), Go.Ev.DL.str { data := #[] }], [Go.Ev.DL.int Go.IntKind.i64 (2 : Int), Go.Ev.DL.int Go.IntKind.i64 (0 : Int), Go.Ev.DL.str { data := #[(97 : UInt8)] }]] : Rows) fun y3 =>
      (f33 (y3)).bind fun (r4 : ByteArray) =>
      k (Go.Ev.strEq r4 { data := #[(1 : UInt8), (3 : UInt8), (97 : UInt8), (0 : UInt8), (0 : UInt8)] })
    else
      k (Bool.false)
  else
    k (Bool.false)
theorem t14_eq {R : Type} (sh : Sh) (hsh : ∀ {α R : Type} (x : α) (K : α → Option R), sh x K = K x) (f18 : i18 → Option o18) (f15 : i15 → Option o15) (f33 : i33 → Option o33) (K : CSt → Option R) : bodyK Tryd.prog (tabO sh hsh br14 ar14 [ent18 f18, ent15 f15, ent33 f33]) (tabL []) ann14 false Tryd.f14 (enc14 ()) K = t14 sh f18 f15 f33 (retK14 K) := by kernel_rfl
theorem t14_law {R : Type} (f18 : i18 → Option o18) (f15 : i15 → Option o15) (f33 : i33 → Option o33) (K : o14 → Option R) : t14 sh0 f18 f15 f33 K = (t14 sh0 f18 f15 f33 some).bind K := by
  have key : ∀ (sh : Sh) (_ : ∀ {α R S : Type} (x : α) (f : α → Option R) (K : R → Option S), (sh x f).bind K = sh x fun y => (f y).bind K), t14 sh f18 f15 f33 K = (t14 sh f18 f15 f33 some).bind K := by
    intro sh hb
    simp only [t14, hb, cond_bind', two_bind, none_bind', Option.bind_assoc, Option.bind_some]
  exact key sh0 (fun _ _ _ => rfl)
theorem ok14 (f18 : i18 → Option o18) (f15 : i15 → Option o15) (f33 : i33 → Option o33) (hf18 : Sd18 f18) (hf15 : Sd15 f15) (hf33 : Sd33 f33) : Sd14 (fun a => t14 sh0 f18 f15 f33 some) := by
  intro a b h
  refine call_ok (sh := sh0) (hsh := fun _ _ => rfl) (br := br14) (ar := ar14) (own := false) Tryd.mixed Tryd.func14 (by kernel_rfl) (.cons (mkEnt_ok hf18) (.cons (mkEnt_ok hf15) (.cons (mkEnt_ok hf33) .nil))) (fun nt => .nil) ((t14_eq sh0 (fun _ _ => rfl) f18 f15 f33 _).trans ?_)
  rw [t14_law]
  simp only at h
  rw [h, Option.bind_some, retK14_eq]

end Go.Proofs.VaG
