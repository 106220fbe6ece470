/- A part of the proof: texts joined. -/
import Derived.Test.YtmhdaiichfphjaaE3
import Derived.Test.YtmhdaiichfphjaaChecked
import Derived.Eval
import Derived.KernelRfl
set_option linter.unusedVariables false
set_option linter.unusedSimpArgs false
namespace Go.Proofs.LeG
open Go Go.Ev
abbrev Rows := List (List DL)
theorem Try.mixed : Try.prog.follows .mixedOrders = true := Try.checked.mixed
/-! 10 erasure/lease.New -/
abbrev i10 : Type := Unit
def enc10 : i10 → CSt := fun a => ([], [])
def dec10 : (c : CSt) → Option { a : i10 // c = enc10 a }
  | ([], []) => some ⟨(), rfl⟩
  | _ => none
abbrev o10 : Type := Int × Rows
def ret10 : o10 → CSt := fun b => ([Go.Ev.SV.agg [Go.Ev.SL.d (Go.Ev.DL.int Go.IntKind.i64 b.1), Go.Ev.SL.d (Go.Ev.DL.lst (38 : Nat) b.2)]], [])
def retK10 {R : Type} (K : CSt → Option R) : o10 → Option R := fun b => K (([Go.Ev.SV.agg [Go.Ev.SL.d (Go.Ev.DL.int Go.IntKind.i64 b.1), Go.Ev.SL.d (Go.Ev.DL.lst (38 : Nat) b.2)]], []))
theorem retK10_eq {R : Type} (K : CSt → Option R) (b : o10) : retK10 K b = K (ret10 b) := rfl
abbrev Sd10 (f : i10 → Option o10) : Prop := ∀ a b, f a = some b → CallOk Try.prog 10 (enc10 a) (ret10 b)
def ent10 (f : i10 → Option o10) : Ent := mkEnt 10 dec10 ret10 retK10 retK10_eq f
def ann10 : Nat → List Nat × List Nat := fun id => ([], [])
def br10 : FuncId → Bool := fun (g : Nat) => false
noncomputable def t10 {R : Type} (sh : Sh) (k : o10 → Option R) : Option R :=
  sh ([] : Rows) fun y1 =>
  sh ([] : Rows) fun y2 =>
  k (((1 : Int), y2))
theorem t10_eq {R : Type} (sh : Sh) (hsh : ∀ {α R : Type} (x : α) (K : α → Option R), sh x K = K x) (K : CSt → Option R) : bodyK Try.prog (tabO sh hsh br10 []) (tabL []) ann10 false Try.f10 (enc10 ()) K = t10 sh (retK10 K) := by kernel_rfl
theorem t10_law {R : Type} (K : o10 → Option R) : t10 sh0 K = (t10 sh0 some).bind K := by
  simp only [t10, sh0, cond_bind', two_bind, none_bind', Option.bind_assoc, Option.bind_some]
theorem ok10 : Sd10 (fun a => t10 sh0 some) := by
  intro a b h
  refine call_ok (sh := sh0) (hsh := fun _ _ => rfl) (br := br10) (own := false) Try.mixed Try.func10 (by kernel_rfl) .nil (fun nt => .nil) ((t10_eq sh0 (fun _ _ => rfl) _).trans ?_)
  rw [t10_law]
  simp only at h
  rw [h, Option.bind_some, retK10_eq]

/-! 16 erasure/lease.Valid -/
abbrev i16 : Type := Int × Rows
def enc16 : i16 → CSt := fun a => ([Go.Ev.SV.agg [Go.Ev.SL.d (Go.Ev.DL.int Go.IntKind.i64 a.1), Go.Ev.SL.d (Go.Ev.DL.lst (38 : Nat) a.2)]], [])
def dec16 : (c : CSt) → Option { a : i16 // c = enc16 a }
  | ([Go.Ev.SV.agg [Go.Ev.SL.d (Go.Ev.DL.int Go.IntKind.i64 x1), Go.Ev.SL.d (Go.Ev.DL.lst (38 : Nat) x2)]], []) => some ⟨(x1, x2), rfl⟩
  | _ => none
abbrev o16 : Type := Bool
def ret16 : o16 → CSt := fun b => ([Go.Ev.SV.one (Go.Ev.SL.d (Go.Ev.DL.bool b))], [])
def retK16 {R : Type} (K : CSt → Option R) : o16 → Option R := fun b => K (([Go.Ev.SV.one (Go.Ev.SL.d (Go.Ev.DL.bool b))], []))
theorem retK16_eq {R : Type} (K : CSt → Option R) (b : o16) : retK16 K b = K (ret16 b) := rfl
abbrev Sd16 (f : i16 → Option o16) : Prop := ∀ a b, f a = some b → CallOk Try.prog 16 (enc16 a) (ret16 b)
def ent16 (f : i16 → Option o16) : Ent := mkEnt 16 dec16 ret16 retK16 retK16_eq f
def ann16 : Nat → List Nat × List Nat := fun id => bif Nat.beq id 4 then ([1, 3], [2]) else ([], [])
def br16 : FuncId → Bool := fun (g : Nat) => false
abbrev iL16_4 : Type := Int × Int × Rows
def encL16_4 : iL16_4 → CSt := fun a => ([Go.Ev.SV.one (Go.Ev.SL.ptr (0 : Nat) (0 : Nat)), Go.Ev.SV.one (Go.Ev.SL.d (Go.Ev.DL.int Go.IntKind.i64 a.1))], [Go.Ev.Obj.box (24 : Nat) [Go.Ev.SL.d (Go.Ev.DL.int Go.IntKind.i64 a.2.1), Go.Ev.SL.d (Go.Ev.DL.lst (38 : Nat) a.2.2)]])
def decL16_4 : (c : CSt) → Option { a : iL16_4 // c = encL16_4 a }
  | ([Go.Ev.SV.one (Go.Ev.SL.ptr (0 : Nat) (0 : Nat)), Go.Ev.SV.one (Go.Ev.SL.d (Go.Ev.DL.int Go.IntKind.i64 x1))], [Go.Ev.Obj.box (24 : Nat) [Go.Ev.SL.d (Go.Ev.DL.int Go.IntKind.i64 x2), Go.Ev.SL.d (Go.Ev.DL.lst (38 : Nat) x3)]]) => some ⟨(x1, x2, x3), rfl⟩
  | _ => none
abbrev oL16_4 : Type := (Bool) ⊕ (Unit)
def retL16_4 : oL16_4 → Ex × CSt := two (fun b => (Go.Ev.Ex.ret, ([Go.Ev.SV.one (Go.Ev.SL.d (Go.Ev.DL.bool b))], []))) (fun b => (Go.Ev.Ex.exit (0 : Nat), ([Go.Ev.SV.one Go.Ev.SL.un], [])))
def retKL16_4 {R : Type} (K : Ex → CSt → Option R) : oL16_4 → Option R := two (fun b => K (Go.Ev.Ex.ret) (([Go.Ev.SV.one (Go.Ev.SL.d (Go.Ev.DL.bool b))], []))) (fun b => K (Go.Ev.Ex.exit (0 : Nat)) (([Go.Ev.SV.one Go.Ev.SL.un], [])))
theorem retKL16_4_eq {R : Type} (K : Ex → CSt → Option R) (b : oL16_4) : retKL16_4 K b = K (retL16_4 b).1 (retL16_4 b).2 := by
  unfold retKL16_4 retL16_4
  repeat' (first | rfl | cases b with | inl b => rfl | inr b => ?_)
def entL16_4 (l : iL16_4 → Option oL16_4) : LEnt := mkLEnt 4 decL16_4 retL16_4 retKL16_4 retKL16_4_eq l
abbrev SdL16_4 (l : iL16_4 → Option oL16_4) : Prop := ∀ nt a b, l a = some b → LoopAt Try.prog nt 0 ann16 Try.f16 4 (encL16_4 a) (retL16_4 b)
noncomputable def u16_4 {R : Type} (sh : Sh) (l16_4 : iL16_4 → Option oL16_4) (x1 : Int) (x2 : Int) (x3 : Rows) (k : oL16_4 → Option R) : Option R :=
  sh ((↑(List.length x3) : Int)) fun y2 =>
  bif Decidable.decide (x1 < y2) then
    bif Decidable.decide ((0 : Int) ≤ x1 ∧ x1 < (↑(List.length x3) : Int)) then
      bif Decidable.decide (Go.Ev.DL.getI (Go.Ev.cellAt x3 (Int.toNat x1) (2 : Nat)) < (1 : Int)) then
        k ((.inl Bool.false))
      else
        bif Decidable.decide (Go.Ev.DL.getI (Go.Ev.cellAt x3 (Int.toNat x1) (2 : Nat)) ≥ x2) then
          k ((.inl Bool.false))
        else
          bif Decidable.decide (x1 > (0 : Int)) then
            sh (Go.IntKind.wrap Go.IntKind.i64 (x1 - (1 : Int))) fun y3 =>
            bif Decidable.decide ((0 : Int) ≤ y3 ∧ y3 < (↑(List.length x3) : Int)) then
              sh (Go.Ev.DL.getI (Go.Ev.cellAt x3 (Int.toNat y3) (0 : Nat))) fun y4 =>
              bif Decidable.decide (y4 ≥ Go.Ev.DL.getI (Go.Ev.cellAt x3 (Int.toNat x1) (0 : Nat))) then
                k ((.inl Bool.false))
              else
                sh (Go.IntKind.wrap Go.IntKind.i64 (x1 + (1 : Int))) fun y5 =>
                (l16_4 (y5, x2, x3)).bind k
            else none
          else
            sh (Go.IntKind.wrap Go.IntKind.i64 (x1 + (1 : Int))) fun y6 =>
            (l16_4 (y6, x2, x3)).bind k
    else none
  else
    k ((.inr ()))
theorem u16_4_eq {R : Type} (sh : Sh) (hsh : ∀ {α R : Type} (x : α) (K : α → Option R), sh x K = K x) (l16_4 : iL16_4 → Option oL16_4) (x1 : Int) (x2 : Int) (x3 : Rows) (K : Ex → CSt → Option R) : roundK Try.prog (tabO sh hsh br16 []) (tabL [entL16_4 l16_4]) ann16 0 Try.f16 4 (encL16_4 (x1, x2, x3)) K = u16_4 sh l16_4 x1 x2 x3 (retKL16_4 K) := by kernel_rfl
theorem u16_4_law {R : Type} (l16_4 : iL16_4 → Option oL16_4) (x1 : Int) (x2 : Int) (x3 : Rows) (K : oL16_4 → Option R) : u16_4 sh0 l16_4 x1 x2 x3 K = (u16_4 sh0 l16_4 x1 x2 x3 some).bind K := by
  simp only [u16_4, sh0, cond_bind', two_bind, none_bind', Option.bind_assoc, Option.bind_some]
theorem okL16_4 (l16_4 : iL16_4 → Option oL16_4) (hl16_4 : SdL16_4 l16_4) : SdL16_4 (fun a => u16_4 sh0 l16_4 a.1 a.2.1 a.2.2 some) := by
  intro nt a b h
  refine round_ok (sh := sh0) (hsh := fun _ _ => rfl) (br := br16) Try.mixed (by kernel_rfl) .nil (.cons (mkLEnt_ok (hl16_4 nt)) .nil) ((u16_4_eq sh0 (fun _ _ => rfl) l16_4  a.1 a.2.1 a.2.2 _).trans ?_)
  rw [u16_4_law]
  simp only at h
  rw [h, Option.bind_some, retKL16_4_eq]
noncomputable def t16 {R : Type} (sh : Sh) (l16_4 : iL16_4 → Option oL16_4) (x1 : Int) (x2 : Rows) (k : o16 → Option R) : Option R :=
  bif Decidable.decide (x1 < (1 : Int)) then
    k (Bool.false)
  else
    bif Decidable.decide (x1 > (1099511627776 : Int)) then
      k (Bool.false)
    else
      sh ((↑(List.length x2) : Int)) fun y1 =>
      bif Decidable.decide (y1 > (64 : Int)) then
        k (Bool.false)
      else
        (l16_4 ((0 : Int), x1, x2)).bind (two (fun (r7 : Bool) =>
          k (r7)
        ) (fun _ =>
          k (Bool.true)
        ))
theorem t16_eq {R : Type} (sh : Sh) (hsh : ∀ {α R : Type} (x : α) (K : α → Option R), sh x K = K x) (l16_4 : iL16_4 → Option oL16_4) (x1 : Int) (x2 : Rows) (K : CSt → Option R) : bodyK Try.prog (tabO sh hsh br16 []) (tabL [entL16_4 l16_4]) ann16 false Try.f16 (enc16 (x1, x2)) K = t16 sh l16_4 x1 x2 (retK16 K) := by kernel_rfl
theorem t16_law {R : Type} (l16_4 : iL16_4 → Option oL16_4) (x1 : Int) (x2 : Rows) (K : o16 → Option R) : t16 sh0 l16_4 x1 x2 K = (t16 sh0 l16_4 x1 x2 some).bind K := by
  simp only [t16, sh0, cond_bind', two_bind, none_bind', Option.bind_assoc, Option.bind_some]
theorem ok16 (l16_4 : iL16_4 → Option oL16_4) (hl16_4 : SdL16_4 l16_4) : Sd16 (fun a => t16 sh0 l16_4 a.1 a.2 some) := by
  intro a b h
  refine call_ok (sh := sh0) (hsh := fun _ _ => rfl) (br := br16) (own := false) Try.mixed Try.func16 (by kernel_rfl) .nil (fun nt => (.cons (mkLEnt_ok (hl16_4 nt)) .nil)) ((t16_eq sh0 (fun _ _ => rfl) l16_4 a.1 a.2 _).trans ?_)
  rw [t16_law]
  simp only at h
  rw [h, Option.bind_some, retK16_eq]

/-! 24 erasure/lease.timely -/
abbrev i24 : Type := Int × Int
def enc24 : i24 → CSt := fun a => ([Go.Ev.SV.one (Go.Ev.SL.d (Go.Ev.DL.int Go.IntKind.i64 a.1)), Go.Ev.SV.one (Go.Ev.SL.d (Go.Ev.DL.int Go.IntKind.i64 a.2))], [])
def dec24 : (c : CSt) → Option { a : i24 // c = enc24 a }
  | ([Go.Ev.SV.one (Go.Ev.SL.d (Go.Ev.DL.int Go.IntKind.i64 x1)), Go.Ev.SV.one (Go.Ev.SL.d (Go.Ev.DL.int Go.IntKind.i64 x2))], []) => some ⟨(x1, x2), rfl⟩
  | _ => none
abbrev o24 : Type := Bool
def ret24 : o24 → CSt := fun b => ([Go.Ev.SV.one (Go.Ev.SL.d (Go.Ev.DL.bool b))], [])
def retK24 {R : Type} (K : CSt → Option R) : o24 → Option R := fun b => K (([Go.Ev.SV.one (Go.Ev.SL.d (Go.Ev.DL.bool b))], []))
theorem retK24_eq {R : Type} (K : CSt → Option R) (b : o24) : retK24 K b = K (ret24 b) := rfl
abbrev Sd24 (f : i24 → Option o24) : Prop := ∀ a b, f a = some b → CallOk Try.prog 24 (enc24 a) (ret24 b)
def ent24 (f : i24 → Option o24) : Ent := mkEnt 24 dec24 ret24 retK24 retK24_eq f
def ann24 : Nat → List Nat × List Nat := fun id => ([], [])
def br24 : FuncId → Bool := fun (g : Nat) => false
noncomputable def t24 {R : Type} (sh : Sh) (x1 : Int) (x2 : Int) (k : o24 → Option R) : Option R :=
  bif Decidable.decide (x1 ≥ (-1099511627776 : Int)) then
    bif Decidable.decide (x1 ≤ (1099511627776 : Int)) then
      bif Decidable.decide (x2 ≥ (1 : Int)) then
        k (Decidable.decide (x2 ≤ (1099511627776 : Int)))
      else
        k (Bool.false)
    else
      k (Bool.false)
  else
    k (Bool.false)
theorem t24_eq {R : Type} (sh : Sh) (hsh : ∀ {α R : Type} (x : α) (K : α → Option R), sh x K = K x) (x1 : Int) (x2 : Int) (K : CSt → Option R) : bodyK Try.prog (tabO sh hsh br24 []) (tabL []) ann24 false Try.f24 (enc24 (x1, x2)) K = t24 sh x1 x2 (retK24 K) := by kernel_rfl
theorem t24_law {R : Type} (x1 : Int) (x2 : Int) (K : o24 → Option R) : t24 sh0 x1 x2 K = (t24 sh0 x1 x2 some).bind K := by
  simp only [t24, sh0, cond_bind', two_bind, none_bind', Option.bind_assoc, Option.bind_some]
theorem ok24 : Sd24 (fun a => t24 sh0 a.1 a.2 some) := by
  intro a b h
  refine call_ok (sh := sh0) (hsh := fun _ _ => rfl) (br := br24) (own := false) Try.mixed Try.func24 (by kernel_rfl) .nil (fun nt => .nil) ((t24_eq sh0 (fun _ _ => rfl) a.1 a.2 _).trans ?_)
  rw [t24_law]
  simp only at h
  rw [h, Option.bind_some, retK24_eq]

/-! 34 erasure/lease.search$1 -/
abbrev i34 : Type := Int × Int × Rows × Int
def enc34 : i34 → CSt := fun a => ([Go.Ev.SV.one (Go.Ev.SL.d (Go.Ev.DL.int Go.IntKind.i64 a.1)), Go.Ev.SV.one (Go.Ev.SL.ptr (0 : Nat) (0 : Nat)), Go.Ev.SV.one (Go.Ev.SL.ptr (1 : Nat) (0 : Nat))], [Go.Ev.Obj.box (24 : Nat) [Go.Ev.SL.d (Go.Ev.DL.int Go.IntKind.i64 a.2.1), Go.Ev.SL.d (Go.Ev.DL.lst (38 : Nat) a.2.2.1)], Go.Ev.Obj.box (3 : Nat) [Go.Ev.SL.d (Go.Ev.DL.int Go.IntKind.i64 a.2.2.2)]])
def dec34 : (c : CSt) → Option { a : i34 // c = enc34 a }
  | ([Go.Ev.SV.one (Go.Ev.SL.d (Go.Ev.DL.int Go.IntKind.i64 x1)), Go.Ev.SV.one (Go.Ev.SL.ptr (0 : Nat) (0 : Nat)), Go.Ev.SV.one (Go.Ev.SL.ptr (1 : Nat) (0 : Nat))], [Go.Ev.Obj.box (24 : Nat) [Go.Ev.SL.d (Go.Ev.DL.int Go.IntKind.i64 x2), Go.Ev.SL.d (Go.Ev.DL.lst (38 : Nat) x3)], Go.Ev.Obj.box (3 : Nat) [Go.Ev.SL.d (Go.Ev.DL.int Go.IntKind.i64 x4)]]) => some ⟨(x1, x2, x3, x4), rfl⟩
  | _ => none
abbrev o34 : Type := Bool × Int × Rows × Int
def ret34 : o34 → CSt := fun b => ([Go.Ev.SV.one (Go.Ev.SL.d (Go.Ev.DL.bool b.1))], [Go.Ev.Obj.box (24 : Nat) [Go.Ev.SL.d (Go.Ev.DL.int Go.IntKind.i64 b.2.1), Go.Ev.SL.d (Go.Ev.DL.lst (38 : Nat) b.2.2.1)], Go.Ev.Obj.box (3 : Nat) [Go.Ev.SL.d (Go.Ev.DL.int Go.IntKind.i64 b.2.2.2)]])
def retK34 {R : Type} (K : CSt → Option R) : o34 → Option R := fun b => K (([Go.Ev.SV.one (Go.Ev.SL.d (Go.Ev.DL.bool b.1))], [Go.Ev.Obj.box (24 : Nat) [Go.Ev.SL.d (Go.Ev.DL.int Go.IntKind.i64 b.2.1), Go.Ev.SL.d (Go.Ev.DL.lst (38 : Nat) b.2.2.1)], Go.Ev.Obj.box (3 : Nat) [Go.Ev.SL.d (Go.Ev.DL.int Go.IntKind.i64 b.2.2.2)]]))
theorem retK34_eq {R : Type} (K : CSt → Option R) (b : o34) : retK34 K b = K (ret34 b) := rfl
abbrev Sd34 (f : i34 → Option o34) : Prop := ∀ a b, f a = some b → CallOk Try.prog 34 (enc34 a) (ret34 b)
def ent34 (f : i34 → Option o34) : Ent := mkEnt 34 dec34 ret34 retK34 retK34_eq f
def ann34 : Nat → List Nat × List Nat := fun id => ([], [])
def br34 : FuncId → Bool := fun (g : Nat) => false
noncomputable def t34 {R : Type} (sh : Sh) (x1 : Int) (x2 : Int) (x3 : Rows) (x4 : Int) (k : o34 → Option R) : Option R :=
  bif Decidable.decide ((0 : Int) ≤ x1 ∧ x1 < (↑(List.length x3) : Int)) then
    sh (Go.Ev.DL.getI (Go.Ev.cellAt x3 (Int.toNat x1) (0 : Nat))) fun y1 =>
    k ((Decidable.decide (y1 ≥ x4), x2, x3, x4))
  else none
theorem t34_eq {R : Type} (sh : Sh) (hsh : ∀ {α R : Type} (x : α) (K : α → Option R), sh x K = K x) (x1 : Int) (x2 : Int) (x3 : Rows) (x4 : Int) (K : CSt → Option R) : bodyK Try.prog (tabO sh hsh br34 []) (tabL []) ann34 false Try.f34 (enc34 (x1, x2, x3, x4)) K = t34 sh x1 x2 x3 x4 (retK34 K) := by kernel_rfl
theorem t34_law {R : Type} (x1 : Int) (x2 : Int) (x3 : Rows) (x4 : Int) (K : o34 → Option R) : t34 sh0 x1 x2 x3 x4 K = (t34 sh0 x1 x2 x3 x4 some).bind K := by
  simp only [t34, sh0, cond_bind', two_bind, none_bind', Option.bind_assoc, Option.bind_some]
theorem ok34 : Sd34 (fun a => t34 sh0 a.1 a.2.1 a.2.2.1 a.2.2.2 some) := by
  intro a b h
  refine call_ok (sh := sh0) (hsh := fun _ _ => rfl) (br := br34) (own := false) Try.mixed Try.func34 (by kernel_rfl) .nil (fun nt => .nil) ((t34_eq sh0 (fun _ _ => rfl) a.1 a.2.1 a.2.2.1 a.2.2.2 _).trans ?_)
  rw [t34_law]
  simp only at h
  rw [h, Option.bind_some, retK34_eq]

/-! 33 sort.Search -/
abbrev i33 : Type := Int × Int × Rows × Int
def enc33 : i33 → CSt := fun a => ([Go.Ev.SV.one (Go.Ev.SL.d (Go.Ev.DL.int Go.IntKind.i64 a.1)), Go.Ev.SV.one (Go.Ev.SL.clo (34 : Nat) [((0 : Nat), (0 : Nat)), ((1 : Nat), (0 : Nat))])], [Go.Ev.Obj.box (24 : Nat) [Go.Ev.SL.d (Go.Ev.DL.int Go.IntKind.i64 a.2.1), Go.Ev.SL.d (Go.Ev.DL.lst (38 : Nat) a.2.2.1)], Go.Ev.Obj.box (3 : Nat) [Go.Ev.SL.d (Go.Ev.DL.int Go.IntKind.i64 a.2.2.2)]])
def dec33 : (c : CSt) → Option { a : i33 // c = enc33 a }
  | ([Go.Ev.SV.one (Go.Ev.SL.d (Go.Ev.DL.int Go.IntKind.i64 x1)), Go.Ev.SV.one (Go.Ev.SL.clo (34 : Nat) [((0 : Nat), (0 : Nat)), ((1 : Nat), (0 : Nat))])], [Go.Ev.Obj.box (24 : Nat) [Go.Ev.SL.d (Go.Ev.DL.int Go.IntKind.i64 x2), Go.Ev.SL.d (Go.Ev.DL.lst (38 : Nat) x3)], Go.Ev.Obj.box (3 : Nat) [Go.Ev.SL.d (Go.Ev.DL.int Go.IntKind.i64 x4)]]) => some ⟨(x1, x2, x3, x4), rfl⟩
  | _ => none
abbrev o33 : Type := Int × Int × Rows × Int
def ret33 : o33 → CSt := fun b => ([Go.Ev.SV.one (Go.Ev.SL.d (Go.Ev.DL.int Go.IntKind.i64 b.1))], [Go.Ev.Obj.box (24 : Nat) [Go.Ev.SL.d (Go.Ev.DL.int Go.IntKind.i64 b.2.1), Go.Ev.SL.d (Go.Ev.DL.lst (38 : Nat) b.2.2.1)], Go.Ev.Obj.box (3 : Nat) [Go.Ev.SL.d (Go.Ev.DL.int Go.IntKind.i64 b.2.2.2)]])
def retK33 {R : Type} (K : CSt → Option R) : o33 → Option R := fun b => K (([Go.Ev.SV.one (Go.Ev.SL.d (Go.Ev.DL.int Go.IntKind.i64 b.1))], [Go.Ev.Obj.box (24 : Nat) [Go.Ev.SL.d (Go.Ev.DL.int Go.IntKind.i64 b.2.1), Go.Ev.SL.d (Go.Ev.DL.lst (38 : Nat) b.2.2.1)], Go.Ev.Obj.box (3 : Nat) [Go.Ev.SL.d (Go.Ev.DL.int Go.IntKind.i64 b.2.2.2)]]))
theorem retK33_eq {R : Type} (K : CSt → Option R) (b : o33) : retK33 K b = K (ret33 b) := rfl
abbrev Sd33 (f : i33 → Option o33) : Prop := ∀ a b, f a = some b → CallOk Try.prog 33 (enc33 a) (ret33 b)
def ent33 (f : i33 → Option o33) : Ent := mkEnt 33 dec33 ret33 retK33 retK33_eq f
def ann33 : Nat → List Nat × List Nat := fun id => bif Nat.beq id 2 then ([1, 5, 6], [5]) else ([], [])
def br33 : FuncId → Bool := fun (g : Nat) => false
abbrev iL33_2 : Type := Int × Int × Int × Rows × Int
def encL33_2 : iL33_2 → CSt := fun a => ([Go.Ev.SV.one (Go.Ev.SL.clo (34 : Nat) [((0 : Nat), (0 : Nat)), ((1 : Nat), (0 : Nat))]), Go.Ev.SV.one (Go.Ev.SL.d (Go.Ev.DL.int Go.IntKind.i64 a.1)), Go.Ev.SV.one (Go.Ev.SL.d (Go.Ev.DL.int Go.IntKind.i64 a.2.1))], [Go.Ev.Obj.box (24 : Nat) [Go.Ev.SL.d (Go.Ev.DL.int Go.IntKind.i64 a.2.2.1), Go.Ev.SL.d (Go.Ev.DL.lst (38 : Nat) a.2.2.2.1)], Go.Ev.Obj.box (3 : Nat) [Go.Ev.SL.d (Go.Ev.DL.int Go.IntKind.i64 a.2.2.2.2)]])
def decL33_2 : (c : CSt) → Option { a : iL33_2 // c = encL33_2 a }
  | ([Go.Ev.SV.one (Go.Ev.SL.clo (34 : Nat) [((0 : Nat), (0 : Nat)), ((1 : Nat), (0 : Nat))]), Go.Ev.SV.one (Go.Ev.SL.d (Go.Ev.DL.int Go.IntKind.i64 x1)), Go.Ev.SV.one (Go.Ev.SL.d (Go.Ev.DL.int Go.IntKind.i64 x2))], [Go.Ev.Obj.box (24 : Nat) [Go.Ev.SL.d (Go.Ev.DL.int Go.IntKind.i64 x3), Go.Ev.SL.d (Go.Ev.DL.lst (38 : Nat) x4)], Go.Ev.Obj.box (3 : Nat) [Go.Ev.SL.d (Go.Ev.DL.int Go.IntKind.i64 x5)]]) => some ⟨(x1, x2, x3, x4, x5), rfl⟩
  | _ => none
abbrev oL33_2 : Type := Int × Int × Rows × Int
def retL33_2 : oL33_2 → Ex × CSt := fun b => (Go.Ev.Ex.exit (0 : Nat), ([Go.Ev.SV.one (Go.Ev.SL.d (Go.Ev.DL.int Go.IntKind.i64 b.1))], [Go.Ev.Obj.box (24 : Nat) [Go.Ev.SL.d (Go.Ev.DL.int Go.IntKind.i64 b.2.1), Go.Ev.SL.d (Go.Ev.DL.lst (38 : Nat) b.2.2.1)], Go.Ev.Obj.box (3 : Nat) [Go.Ev.SL.d (Go.Ev.DL.int Go.IntKind.i64 b.2.2.2)]]))
def retKL33_2 {R : Type} (K : Ex → CSt → Option R) : oL33_2 → Option R := fun b => K (Go.Ev.Ex.exit (0 : Nat)) (([Go.Ev.SV.one (Go.Ev.SL.d (Go.Ev.DL.int Go.IntKind.i64 b.1))], [Go.Ev.Obj.box (24 : Nat) [Go.Ev.SL.d (Go.Ev.DL.int Go.IntKind.i64 b.2.1), Go.Ev.SL.d (Go.Ev.DL.lst (38 : Nat) b.2.2.1)], Go.Ev.Obj.box (3 : Nat) [Go.Ev.SL.d (Go.Ev.DL.int Go.IntKind.i64 b.2.2.2)]]))
theorem retKL33_2_eq {R : Type} (K : Ex → CSt → Option R) (b : oL33_2) : retKL33_2 K b = K (retL33_2 b).1 (retL33_2 b).2 := rfl
def entL33_2 (l : iL33_2 → Option oL33_2) : LEnt := mkLEnt 2 decL33_2 retL33_2 retKL33_2 retKL33_2_eq l
abbrev SdL33_2 (l : iL33_2 → Option oL33_2) : Prop := ∀ nt a b, l a = some b → LoopAt Try.prog nt 2 ann33 Try.f33 2 (encL33_2 a) (retL33_2 b)
noncomputable def u33_2 {R : Type} (sh : Sh) (f34 : i34 → Option o34) (l33_2 : iL33_2 → Option oL33_2) (x1 : Int) (x2 : Int) (x3 : Int) (x4 : Rows) (x5 : Int) (k : oL33_2 → Option R) : Option R :=
  bif Decidable.decide (x1 < x2) then
    sh (Go.IntKind.wrap Go.IntKind.i64 (x1 + x2)) fun y1 =>
    sh (Go.IntKind.wrap Go.IntKind.u64 y1) fun y2 =>
    sh (Int.fdiv y2 (2 : Int)) fun y3 =>
    sh (Go.IntKind.wrap Go.IntKind.i64 y3) fun y4 =>
    (f34 (y4, x3, x4, x5)).bind fun (r5 : Bool × Int × Rows × Int) =>
    bif !Prod.fst r5 then
      sh (Go.IntKind.wrap Go.IntKind.i64 (y4 + (1 : Int))) fun y6 =>
      (l33_2 (y6, x2, Prod.fst r5.2, Prod.fst (Prod.snd r5).2, Prod.snd (Prod.snd r5).2)).bind k
    else
      (l33_2 (x1, y4, Prod.fst r5.2, Prod.fst (Prod.snd r5).2, Prod.snd (Prod.snd r5).2)).bind k
  else
    k ((x1, x3, x4, x5))
theorem u33_2_eq {R : Type} (sh : Sh) (hsh : ∀ {α R : Type} (x : α) (K : α → Option R), sh x K = K x) (f34 : i34 → Option o34) (l33_2 : iL33_2 → Option oL33_2) (x1 : Int) (x2 : Int) (x3 : Int) (x4 : Rows) (x5 : Int) (K : Ex → CSt → Option R) : roundK Try.prog (tabO sh hsh br33 [ent34 f34]) (tabL [entL33_2 l33_2]) ann33 2 Try.f33 2 (encL33_2 (x1, x2, x3, x4, x5)) K = u33_2 sh f34 l33_2 x1 x2 x3 x4 x5 (retKL33_2 K) := by kernel_rfl
theorem u33_2_law {R : Type} (f34 : i34 → Option o34) (l33_2 : iL33_2 → Option oL33_2) (x1 : Int) (x2 : Int) (x3 : Int) (x4 : Rows) (x5 : Int) (K : oL33_2 → Option R) : u33_2 sh0 f34 l33_2 x1 x2 x3 x4 x5 K = (u33_2 sh0 f34 l33_2 x1 x2 x3 x4 x5 some).bind K := by
  simp only [u33_2, sh0, cond_bind', two_bind, none_bind', Option.bind_assoc, Option.bind_some]
theorem okL33_2 (f34 : i34 → Option o34) (l33_2 : iL33_2 → Option oL33_2) (hf34 : Sd34 f34) (hl33_2 : SdL33_2 l33_2) : SdL33_2 (fun a => u33_2 sh0 f34 l33_2 a.1 a.2.1 a.2.2.1 a.2.2.2.1 a.2.2.2.2 some) := by
  intro nt a b h
  refine round_ok (sh := sh0) (hsh := fun _ _ => rfl) (br := br33) Try.mixed (by kernel_rfl) (.cons (mkEnt_ok hf34) .nil) (.cons (mkLEnt_ok (hl33_2 nt)) .nil) ((u33_2_eq sh0 (fun _ _ => rfl) f34 l33_2  a.1 a.2.1 a.2.2.1 a.2.2.2.1 a.2.2.2.2 _).trans ?_)
  rw [u33_2_law]
  simp only at h
  rw [h, Option.bind_some, retKL33_2_eq]
noncomputable def t33 {R : Type} (sh : Sh) (l33_2 : iL33_2 → Option oL33_2) (x1 : Int) (x2 : Int) (x3 : Rows) (x4 : Int) (k : o33 → Option R) : Option R :=
  (l33_2 ((0 : Int), x1, x2, x3, x4)).bind fun (r7 : Int × Int × Rows × Int) =>
  k ((Prod.fst r7, Prod.fst r7.2, Prod.fst (Prod.snd r7).2, Prod.snd (Prod.snd r7).2))
theorem t33_eq {R : Type} (sh : Sh) (hsh : ∀ {α R : Type} (x : α) (K : α → Option R), sh x K = K x) (l33_2 : iL33_2 → Option oL33_2) (x1 : Int) (x2 : Int) (x3 : Rows) (x4 : Int) (K : CSt → Option R) : bodyK Try.prog (tabO sh hsh br33 []) (tabL [entL33_2 l33_2]) ann33 false Try.f33 (enc33 (x1, x2, x3, x4)) K = t33 sh l33_2 x1 x2 x3 x4 (retK33 K) := by kernel_rfl
theorem t33_law {R : Type} (l33_2 : iL33_2 → Option oL33_2) (x1 : Int) (x2 : Int) (x3 : Rows) (x4 : Int) (K : o33 → Option R) : t33 sh0 l33_2 x1 x2 x3 x4 K = (t33 sh0 l33_2 x1 x2 x3 x4 some).bind K := by
  simp only [t33, sh0, cond_bind', two_bind, none_bind', Option.bind_assoc, Option.bind_some]
theorem ok33 (l33_2 : iL33_2 → Option oL33_2) (hl33_2 : SdL33_2 l33_2) : Sd33 (fun a => t33 sh0 l33_2 a.1 a.2.1 a.2.2.1 a.2.2.2 some) := by
  intro a b h
  refine call_ok (sh := sh0) (hsh := fun _ _ => rfl) (br := br33) (own := false) Try.mixed Try.func33 (by kernel_rfl) .nil (fun nt => (.cons (mkLEnt_ok (hl33_2 nt)) .nil)) ((t33_eq sh0 (fun _ _ => rfl) l33_2 a.1 a.2.1 a.2.2.1 a.2.2.2 _).trans ?_)
  rw [t33_law]
  simp only at h
  rw [h, Option.bind_some, retK33_eq]

/-! 25 erasure/lease.search -/
abbrev i25 : Type := Int × Rows × Int
def enc25 : i25 → CSt := fun a => ([Go.Ev.SV.agg [Go.Ev.SL.d (Go.Ev.DL.int Go.IntKind.i64 a.1), Go.Ev.SL.d (Go.Ev.DL.lst (38 : Nat) a.2.1)], Go.Ev.SV.one (Go.Ev.SL.d (Go.Ev.DL.int Go.IntKind.i64 a.2.2))], [])
def dec25 : (c : CSt) → Option { a : i25 // c = enc25 a }
  | ([Go.Ev.SV.agg [Go.Ev.SL.d (Go.Ev.DL.int Go.IntKind.i64 x1), Go.Ev.SL.d (Go.Ev.DL.lst (38 : Nat) x2)], Go.Ev.SV.one (Go.Ev.SL.d (Go.Ev.DL.int Go.IntKind.i64 x3))], []) => some ⟨(x1, x2, x3), rfl⟩
  | _ => none
abbrev o25 : Type := Int × Bool
def ret25 : o25 → CSt := fun b => ([Go.Ev.SV.one (Go.Ev.SL.d (Go.Ev.DL.int Go.IntKind.i64 b.1)), Go.Ev.SV.one (Go.Ev.SL.d (Go.Ev.DL.bool b.2))], [])
def retK25 {R : Type} (K : CSt → Option R) : o25 → Option R := fun b => K (([Go.Ev.SV.one (Go.Ev.SL.d (Go.Ev.DL.int Go.IntKind.i64 b.1)), Go.Ev.SV.one (Go.Ev.SL.d (Go.Ev.DL.bool b.2))], []))
theorem retK25_eq {R : Type} (K : CSt → Option R) (b : o25) : retK25 K b = K (ret25 b) := rfl
abbrev Sd25 (f : i25 → Option o25) : Prop := ∀ a b, f a = some b → CallOk Try.prog 25 (enc25 a) (ret25 b)
def ent25 (f : i25 → Option o25) : Ent := mkEnt 25 dec25 ret25 retK25 retK25_eq f
def ann25 : Nat → List Nat × List Nat := fun id => ([], [])
def br25 : FuncId → Bool := fun (g : Nat) => false
noncomputable def t25 {R : Type} (sh : Sh) (f33 : i33 → Option o33) (x1 : Int) (x2 : Rows) (x3 : Int) (k : o25 → Option R) : Option R :=
  sh ((↑(List.length x2) : Int)) fun y1 =>
  (f33 (y1, x1, x2, x3)).bind fun (r2 : Int × Int × Rows × Int) =>
  sh ((↑(List.length (Prod.fst (Prod.snd r2).2)) : Int)) fun y3 =>
  bif Decidable.decide (Prod.fst r2 < y3) then
    bif Decidable.decide ((0 : Int) ≤ Prod.fst r2 ∧ Prod.fst r2 < (↑(List.length (Prod.fst (Prod.snd r2).2)) : Int)) then
      sh (Go.Ev.DL.getI (Go.Ev.cellAt (Prod.fst (Prod.snd r2).2) (Int.toNat (Prod.fst r2)) (0 : Nat))) fun y4 =>
      k ((Prod.fst r2, y4 == Prod.snd (Prod.snd r2).2))
    else none
  else
    k ((Prod.fst r2, Bool.false))
theorem t25_eq {R : Type} (sh : Sh) (hsh : ∀ {α R : Type} (x : α) (K : α → Option R), sh x K = K x) (f33 : i33 → Option o33) (x1 : Int) (x2 : Rows) (x3 : Int) (K : CSt → Option R) : bodyK Try.prog (tabO sh hsh br25 [ent33 f33]) (tabL []) ann25 false Try.f25 (enc25 (x1, x2, x3)) K = t25 sh f33 x1 x2 x3 (retK25 K) := by kernel_rfl
theorem t25_law {R : Type} (f33 : i33 → Option o33) (x1 : Int) (x2 : Rows) (x3 : Int) (K : o25 → Option R) : t25 sh0 f33 x1 x2 x3 K = (t25 sh0 f33 x1 x2 x3 some).bind K := by
  simp only [t25, sh0, cond_bind', two_bind, none_bind', Option.bind_assoc, Option.bind_some]
theorem ok25 (f33 : i33 → Option o33) (hf33 : Sd33 f33) : Sd25 (fun a => t25 sh0 f33 a.1 a.2.1 a.2.2 some) := by
  intro a b h
  refine call_ok (sh := sh0) (hsh := fun _ _ => rfl) (br := br25) (own := false) Try.mixed Try.func25 (by kernel_rfl) (.cons (mkEnt_ok hf33) .nil) (fun nt => .nil) ((t25_eq sh0 (fun _ _ => rfl) f33 a.1 a.2.1 a.2.2 _).trans ?_)
  rw [t25_law]
  simp only at h
  rw [h, Option.bind_some, retK25_eq]

/-! 26 erasure/lease.copied -/
abbrev i26 : Type := Int × Rows
def enc26 : i26 → CSt := fun a => ([Go.Ev.SV.agg [Go.Ev.SL.d (Go.Ev.DL.int Go.IntKind.i64 a.1), Go.Ev.SL.d (Go.Ev.DL.lst (38 : Nat) a.2)]], [])
def dec26 : (c : CSt) → Option { a : i26 // c = enc26 a }
  | ([Go.Ev.SV.agg [Go.Ev.SL.d (Go.Ev.DL.int Go.IntKind.i64 x1), Go.Ev.SL.d (Go.Ev.DL.lst (38 : Nat) x2)]], []) => some ⟨(x1, x2), rfl⟩
  | _ => none
abbrev o26 : Type := Int × Rows
def ret26 : o26 → CSt := fun b => ([Go.Ev.SV.agg [Go.Ev.SL.d (Go.Ev.DL.int Go.IntKind.i64 b.1), Go.Ev.SL.vr (0 : Nat)]], [Go.Ev.Obj.vec (38 : Nat) Bool.false b.2])
def retK26 {R : Type} (K : CSt → Option R) : o26 → Option R := fun b => K (([Go.Ev.SV.agg [Go.Ev.SL.d (Go.Ev.DL.int Go.IntKind.i64 b.1), Go.Ev.SL.vr (0 : Nat)]], [Go.Ev.Obj.vec (38 : Nat) Bool.false b.2]))
theorem retK26_eq {R : Type} (K : CSt → Option R) (b : o26) : retK26 K b = K (ret26 b) := rfl
abbrev Sd26 (f : i26 → Option o26) : Prop := ∀ a b, f a = some b → CallOk Try.prog 26 (enc26 a) (ret26 b)
def ent26 (f : i26 → Option o26) : Ent := mkEnt 26 dec26 ret26 retK26 retK26_eq f
def ann26 : Nat → List Nat × List Nat := fun id => ([], [])
def br26 : FuncId → Bool := fun (g : Nat) => false
noncomputable def t26 {R : Type} (sh : Sh) (x1 : Int) (x2 : Rows) (k : o26 → Option R) : Option R :=
  sh ([] : Rows) fun y1 =>
  bif Go.Ev.roomE Go.Proofs.Try.prog (38 : Nat) (List.length x2) then
    sh (x2 : Rows) fun y2 =>
    k ((x1, y2))
  else none
theorem t26_eq {R : Type} (sh : Sh) (hsh : ∀ {α R : Type} (x : α) (K : α → Option R), sh x K = K x) (x1 : Int) (x2 : Rows) (K : CSt → Option R) : bodyK Try.prog (tabO sh hsh br26 []) (tabL []) ann26 true Try.f26 (enc26 (x1, x2)) K = t26 sh x1 x2 (retK26 K) := by kernel_rfl
theorem t26_law {R : Type} (x1 : Int) (x2 : Rows) (K : o26 → Option R) : t26 sh0 x1 x2 K = (t26 sh0 x1 x2 some).bind K := by
  simp only [t26, sh0, cond_bind', two_bind, none_bind', Option.bind_assoc, Option.bind_some]
theorem ok26 : Sd26 (fun a => t26 sh0 a.1 a.2 some) := by
  intro a b h
  refine call_ok (sh := sh0) (hsh := fun _ _ => rfl) (br := br26) (own := true) Try.mixed Try.func26 (by kernel_rfl) .nil (fun nt => .nil) ((t26_eq sh0 (fun _ _ => rfl) a.1 a.2 _).trans ?_)
  rw [t26_law]
  simp only at h
  rw [h, Option.bind_some, retK26_eq]

/-! 11 erasure/lease.Acquire -/
abbrev i11 : Type := Int × Rows × Int × Int × Int × Int
def enc11 : i11 → CSt := fun a => ([Go.Ev.SV.agg [Go.Ev.SL.d (Go.Ev.DL.int Go.IntKind.i64 a.1), Go.Ev.SL.d (Go.Ev.DL.lst (38 : Nat) a.2.1)], Go.Ev.SV.one (Go.Ev.SL.d (Go.Ev.DL.int Go.IntKind.i64 a.2.2.1)), Go.Ev.SV.one (Go.Ev.SL.d (Go.Ev.DL.int Go.IntKind.i64 a.2.2.2.1)), Go.Ev.SV.one (Go.Ev.SL.d (Go.Ev.DL.int Go.IntKind.i64 a.2.2.2.2.1)), Go.Ev.SV.one (Go.Ev.SL.d (Go.Ev.DL.int Go.IntKind.i64 a.2.2.2.2.2))], [])
def dec11 : (c : CSt) → Option { a : i11 // c = enc11 a }
  | ([Go.Ev.SV.agg [Go.Ev.SL.d (Go.Ev.DL.int Go.IntKind.i64 x1), Go.Ev.SL.d (Go.Ev.DL.lst (38 : Nat) x2)], Go.Ev.SV.one (Go.Ev.SL.d (Go.Ev.DL.int Go.IntKind.i64 x3)), Go.Ev.SV.one (Go.Ev.SL.d (Go.Ev.DL.int Go.IntKind.i64 x4)), Go.Ev.SV.one (Go.Ev.SL.d (Go.Ev.DL.int Go.IntKind.i64 x5)), Go.Ev.SV.one (Go.Ev.SL.d (Go.Ev.DL.int Go.IntKind.i64 x6))], []) => some ⟨(x1, x2, x3, x4, x5, x6), rfl⟩
  | _ => none
abbrev o11 : Type := Int × Rows × Int × Int
def ret11 : o11 → CSt := fun b => ([Go.Ev.SV.agg [Go.Ev.SL.d (Go.Ev.DL.int Go.IntKind.i64 b.1), Go.Ev.SL.d (Go.Ev.DL.lst (38 : Nat) b.2.1)], Go.Ev.SV.one (Go.Ev.SL.d (Go.Ev.DL.int Go.IntKind.i64 b.2.2.1)), Go.Ev.SV.one (Go.Ev.SL.d (Go.Ev.DL.int Go.IntKind.i64 b.2.2.2))], [])
def retK11 {R : Type} (K : CSt → Option R) : o11 → Option R := fun b => K (([Go.Ev.SV.agg [Go.Ev.SL.d (Go.Ev.DL.int Go.IntKind.i64 b.1), Go.Ev.SL.d (Go.Ev.DL.lst (38 : Nat) b.2.1)], Go.Ev.SV.one (Go.Ev.SL.d (Go.Ev.DL.int Go.IntKind.i64 b.2.2.1)), Go.Ev.SV.one (Go.Ev.SL.d (Go.Ev.DL.int Go.IntKind.i64 b.2.2.2))], []))
theorem retK11_eq {R : Type} (K : CSt → Option R) (b : o11) : retK11 K b = K (ret11 b) := rfl
abbrev Sd11 (f : i11 → Option o11) : Prop := ∀ a b, f a = some b → CallOk Try.prog 11 (enc11 a) (ret11 b)
def ent11 (f : i11 → Option o11) : Ent := mkEnt 11 dec11 ret11 retK11 retK11_eq f
def ann11 : Nat → List Nat × List Nat := fun id => ([], [])
def br11 : FuncId → Bool := fun (g : Nat) => false
noncomputable def t11 {R : Type} (sh : Sh) (f16 : i16 → Option o16) (f24 : i24 → Option o24) (f25 : i25 → Option o25) (f26 : i26 → Option o26) (x1 : Int) (x2 : Rows) (x3 : Int) (x4 : Int) (x5 : Int) (x6 : Int) (k : o11 → Option R) : Option R :=
  sh ([] : Rows) fun y1 =>
  (f16 (x1, x2)).bind fun (r2 : Bool) =>
  bif !r2 then
    sh ([] : Rows) fun y3 =>
    k (((0 : Int), y3, (0 : Int), (1 : Int)))
  else
    (f24 (x5, x6)).bind fun (r4 : Bool) =>
    bif !r4 then
      sh ([] : Rows) fun y5 =>
      k (((0 : Int), y5, (0 : Int), (1 : Int)))
    else
      (f25 (x1, x2, x3)).bind fun (r6 : Int × Bool) =>
      bif Prod.snd r6 then
        bif Decidable.decide ((0 : Int) ≤ Prod.fst r6 ∧ Prod.fst r6 < (↑(List.length x2) : Int)) then
          sh (Go.Ev.DL.getI (Go.Ev.cellAt x2 (Int.toNat (Prod.fst r6)) (3 : Nat))) fun y7 =>
          bif Decidable.decide (x5 < y7) then
            sh ([] : Rows) fun y8 =>
            k (((0 : Int), y8, (0 : Int), (11 : Int)))
          else
            bif !Prod.snd r6 then
              sh ((↑(List.length x2) : Int)) fun y9 =>
              bif Decidable.decide (y9 ≥ (64 : Int)) then
                sh ([] : Rows) fun y10 =>
                k (((0 : Int), y10, (0 : Int), (8 : Int)))
              else
                bif x1 == (1099511627776 : Int) then
                  sh ([] : Rows) fun y11 =>
                  k (((0 : Int), y11, (0 : Int), (8 : Int)))
                else
                  (f26 (x1, x2)).bind fun (r12 : Int × Rows) =>
                  sh ([] : Rows) fun y13 =>
                  bif !Prod.snd r6 then
                    sh ([[Go.Ev.DL.int Go.IntKind.i64 (0 : Int), Go.Ev.DL.int Go.IntKind.i64 (0 : Int), Go.Ev.DL.int Go.IntKind.i64 (0 : Int), Go.Ev.DL.int Go.IntKind.i64 (0 : Int)]] : Rows) fun y14 =>
                    bif Go.Ev.roomE Go.Proofs.Try.prog (38 : Nat) (List.length (Prod.snd r12) + List.length y14) then
                      sh (Prod.snd r12 ++ y14 : Rows) fun y15 =>
                      sh (Go.IntKind.wrap Go.IntKind.i64 (Prod.fst r6 + (1 : Int))) fun y16 =>
                      bif Decidable.decide ((0 : Int) ≤ y16 ∧ y16 ≤ (↑(List.length y15) : Int)) then
                        bif Decidable.decide ((0 : Int) ≤ Prod.fst r6 ∧ Prod.fst r6 ≤ (↑(List.length y15) : Int)) then
                          bif Decidable.decide (Int.toNat y16 + (List.length y15 - Int.toNat y16) ≤ List.length y15) then
                            sh ((↑(Min.min (List.length (List.take (List.length y15 - Int.toNat (Prod.fst r6)) (List.drop (Int.toNat (Prod.fst r6)) y15))) (List.length y15 - Int.toNat y16)) : Int)) fun y17 =>
                            sh (List.take (Int.toNat y16) y15 ++ List.take (Min.min (List.length (List.take (List.length y15 - Int.toNat (Prod.fst r6)) (List.drop (Int.toNat (Prod.fst r6)) y15))) (List.length y15 - Int.toNat y16)) (List.take (List.length y15 - Int.toNat (Prod.fst r6)) (List.drop (Int.toNat (Prod.fst r6)) y15)) ++ List.drop (Int.toNat y16 + Min.min (List.length (List.take (List.length y15 - Int.toNat (Prod.fst r6)) (List.drop (Int.toNat (Prod.fst r6)) y15))) (List.length y15 - Int.toNat y16)) y15 : Rows) fun y18 =>
                            sh (Go.IntKind.wrap Go.IntKind.i64 (x5 + x6)) fun y19 =>
                            bif Decidable.decide ((0 : Int) ≤ Prod.fst r6 ∧ Prod.fst r6 < (↑(List.length y18) : Int)) then
                              bif Decidable.decide (Int.toNat (Prod.fst r6) < List.length y18) then
                                sh (List.set y18 (Int.toNat (Prod.fst r6)) [Go.Ev.DL.int Go.IntKind.i64 x3, Go.Ev.DL.int Go.IntKind.i64 x4, Go.Ev.DL.int Go.IntKind.i64 x1, Go.Ev.DL.int Go.IntKind.i64 y19] : Rows) fun y20 =>
                                sh (Go.IntKind.wrap Go.IntKind.i64 (Prod.fst r12 + (1 : Int))) fun y21 =>
                                k ((y21, y20, x1, (0 : Int)))
                              else none
                            else none
                          else none
                        else none
                      else none
                    else none
                  else
                    sh (Go.IntKind.wrap Go.IntKind.i64 (x5 + x6)) fun y22 =>
                    bif Decidable.decide ((0 : Int) ≤ Prod.fst r6 ∧ Prod.fst r6 < (↑(List.length (Prod.snd r12)) : Int)) then
                      bif Decidable.decide (Int.toNat (Prod.fst r6) < List.length (Prod.snd r12)) then
                        sh (List.set (Prod.snd r12) (Int.toNat (Prod.fst r6)) [Go.Ev.DL.int Go.IntKind.i64 x3, Go.Ev.DL.int Go.IntKind.i64 x4, Go.Ev.DL.int Go.IntKind.i64 x1, Go.Ev.DL.int Go.IntKind.i64 y22] : Rows) fun y23 =>
                        sh (Go.IntKind.wrap Go.IntKind.i64 (Prod.fst r12 + (1 : Int))) fun y24 =>
                        k ((y24, y23, x1, (0 : Int)))
                      else none
                    else none
            else
              bif x1 == (1099511627776 : Int) then
                sh ([] : Rows) fun y25 =>
                k (((0 : Int), y25, (0 : Int), (8 : Int)))
              else
                (f26 (x1, x2)).bind fun (r26 : Int × Rows) =>
                sh ([] : Rows) fun y27 =>
                bif !Prod.snd r6 then
                  sh ([[Go.Ev.DL.int Go.IntKind.i64 (0 : Int), Go.Ev.DL.int Go.IntKind.i64 (0 : Int), Go.Ev.DL.int Go.IntKind.i64 (0 : Int), Go.Ev.DL.int Go.IntKind.i64 (0 : Int)]] : Rows) fun y28 =>
                  bif Go.Ev.roomE Go.Proofs.Try.prog (38 : Nat) (List.length (Prod.snd r26) + List.length y28) then
                    sh (Prod.snd r26 ++ y28 : Rows) fun y29 =>
                    sh (Go.IntKind.wrap Go.IntKind.i64 (Prod.fst r6 + (1 : Int))) fun y30 =>
                    bif Decidable.decide ((0 : Int) ≤ y30 ∧ y30 ≤ (↑(List.length y29) : Int)) then
                      bif Decidable.decide ((0 : Int) ≤ Prod.fst r6 ∧ Prod.fst r6 ≤ (↑(List.length y29) : Int)) then
                        bif Decidable.decide (Int.toNat y30 + (List.length y29 - Int.toNat y30) ≤ List.length y29) then
                          sh ((↑(Min.min (List.length (List.take (List.length y29 - Int.toNat (Prod.fst r6)) (List.drop (Int.toNat (Prod.fst r6)) y29))) (List.length y29 - Int.toNat y30)) : Int)) fun y31 =>
                          sh (List.take (Int.toNat y30) y29 ++ List.take (Min.min (List.length (List.take (List.length y29 - Int.toNat (Prod.fst r6)) (List.drop (Int.toNat (Prod.fst r6)) y29))) (List.length y29 - Int.toNat y30)) (List.take (List.length y29 - Int.toNat (Prod.fst r6)) (List.drop (Int.toNat (Prod.fst r6)) y29)) ++ List.drop (Int.toNat y30 + Min.min (List.length (List.take (List.length y29 - Int.toNat (Prod.fst r6)) (List.drop (Int.toNat (Prod.fst r6)) y29))) (List.length y29 - Int.toNat y30)) y29 : Rows) fun y32 =>
                          sh (Go.IntKind.wrap Go.IntKind.i64 (x5 + x6)) fun y33 =>
                          bif Decidable.decide ((0 : Int) ≤ Prod.fst r6 ∧ Prod.fst r6 < (↑(List.length y32) : Int)) then
                            bif Decidable.decide (Int.toNat (Prod.fst r6) < List.length y32) then
                              sh (List.set y32 (Int.toNat (Prod.fst r6)) [Go.Ev.DL.int Go.IntKind.i64 x3, Go.Ev.DL.int Go.IntKind.i64 x4, Go.Ev.DL.int Go.IntKind.i64 x1, Go.Ev.DL.int Go.IntKind.i64 y33] : Rows) fun y34 =>
                              sh (Go.IntKind.wrap Go.IntKind.i64 (Prod.fst r26 + (1 : Int))) fun y35 =>
                              k ((y35, y34, x1, (0 : Int)))
                            else none
                          else none
                        else none
                      else none
                    else none
                  else none
                else
                  sh (Go.IntKind.wrap Go.IntKind.i64 (x5 + x6)) fun y36 =>
                  bif Decidable.decide ((0 : Int) ≤ Prod.fst r6 ∧ Prod.fst r6 < (↑(List.length (Prod.snd r26)) : Int)) then
                    bif Decidable.decide (Int.toNat (Prod.fst r6) < List.length (Prod.snd r26)) then
                      sh (List.set (Prod.snd r26) (Int.toNat (Prod.fst r6)) [Go.Ev.DL.int Go.IntKind.i64 x3, Go.Ev.DL.int Go.IntKind.i64 x4, Go.Ev.DL.int Go.IntKind.i64 x1, Go.Ev.DL.int Go.IntKind.i64 y36] : Rows) fun y37 =>
                      sh (Go.IntKind.wrap Go.IntKind.i64 (Prod.fst r26 + (1 : Int))) fun y38 =>
                      k ((y38, y37, x1, (0 : Int)))
                    else none
                  else none
        else none
      else
        bif !Prod.snd r6 then
          sh ((↑(List.length x2) : Int)) fun y39 =>
          bif Decidable.decide (y39 ≥ (64 : Int)) then
            sh ([] : Rows) fun y40 =>
            k (((0 : Int), y40, (0 : Int), (8 : Int)))
          else
            bif x1 == (1099511627776 : Int) then
              sh ([] : Rows) fun y41 =>
              k (((0 : Int), y41, (0 : Int), (8 : Int)))
            else
              (f26 (x1, x2)).bind fun (r42 : Int × Rows) =>
              sh ([] : Rows) fun y43 =>
              bif !Prod.snd r6 then
                sh ([[Go.Ev.DL.int Go.IntKind.i64 (0 : Int), Go.Ev.DL.int Go.IntKind.i64 (0 : Int), Go.Ev.DL.int Go.IntKind.i64 (0 : Int), Go.Ev.DL.int Go.IntKind.i64 (0 : Int)]] : Rows) fun y44 =>
                bif Go.Ev.roomE Go.Proofs.Try.prog (38 : Nat) (List.length (Prod.snd r42) + List.length y44) then
                  sh (Prod.snd r42 ++ y44 : Rows) fun y45 =>
                  sh (Go.IntKind.wrap Go.IntKind.i64 (Prod.fst r6 + (1 : Int))) fun y46 =>
                  bif Decidable.decide ((0 : Int) ≤ y46 ∧ y46 ≤ (↑(List.length y45) : Int)) then
                    bif Decidable.decide ((0 : Int) ≤ Prod.fst r6 ∧ Prod.fst r6 ≤ (↑(List.length y45) : Int)) then
                      bif Decidable.decide (Int.toNat y46 + (List.length y45 - Int.toNat y46) ≤ List.length y45) then
                        sh ((↑(Min.min (List.length (List.take (List.length y45 - Int.toNat (Prod.fst r6)) (List.drop (Int.toNat (Prod.fst r6)) y45))) (List.length y45 - Int.toNat y46)) : Int)) fun y47 =>
                        sh (List.take (Int.toNat y46) y45 ++ List.take (Min.min (List.length (List.take (List.length y45 - Int.toNat (Prod.fst r6)) (List.drop (Int.toNat (Prod.fst r6)) y45))) (List.length y45 - Int.toNat y46)) (List.take (List.length y45 - Int.toNat (Prod.fst r6)) (List.drop (Int.toNat (Prod.fst r6)) y45)) ++ List.drop (Int.toNat y46 + Min.min (List.length (List.take (List.length y45 - Int.toNat (Prod.fst r6)) (List.drop (Int.toNat (Prod.fst r6)) y45))) (List.length y45 - Int.toNat y46)) y45 : Rows) fun y48 =>
                        sh (Go.IntKind.wrap Go.IntKind.i64 (x5 + x6)) fun y49 =>
                        bif Decidable.decide ((0 : Int) ≤ Prod.fst r6 ∧ Prod.fst r6 < (↑(List.length y48) : Int)) then
                          bif Decidable.decide (Int.toNat (Prod.fst r6) < List.length y48) then
                            sh (List.set y48 (Int.toNat (Prod.fst r6)) [Go.Ev.DL.int Go.IntKind.i64 x3, Go.Ev.DL.int Go.IntKind.i64 x4, Go.Ev.DL.int Go.IntKind.i64 x1, Go.Ev.DL.int Go.IntKind.i64 y49] : Rows) fun y50 =>
                            sh (Go.IntKind.wrap Go.IntKind.i64 (Prod.fst r42 + (1 : Int))) fun y51 =>
                            k ((y51, y50, x1, (0 : Int)))
                          else none
                        else none
                      else none
                    else none
                  else none
                else none
              else
                sh (Go.IntKind.wrap Go.IntKind.i64 (x5 + x6)) fun y52 =>
                bif Decidable.decide ((0 : Int) ≤ Prod.fst r6 ∧ Prod.fst r6 < (↑(List.length (Prod.snd r42)) : Int)) then
                  bif Decidable.decide (Int.toNat (Prod.fst r6) < List.length (Prod.snd r42)) then
                    sh (List.set (Prod.snd r42) (Int.toNat (Prod.fst r6)) [Go.Ev.DL.int Go.IntKind.i64 x3, Go.Ev.DL.int Go.IntKind.i64 x4, Go.Ev.DL.int Go.IntKind.i64 x1, Go.Ev.DL.int Go.IntKind.i64 y52] : Rows) fun y53 =>
                    sh (Go.IntKind.wrap Go.IntKind.i64 (Prod.fst r42 + (1 : Int))) fun y54 =>
                    k ((y54, y53, x1, (0 : Int)))
                  else none
                else none
        else
          bif x1 == (1099511627776 : Int) then
            sh ([] : Rows) fun y55 =>
            k (((0 : Int), y55, (0 : Int), (8 : Int)))
          else
            (f26 (x1, x2)).bind fun (r56 : Int × Rows) =>
            sh ([] : Rows) fun y57 =>
            bif !Prod.snd r6 then
              sh ([[Go.Ev.DL.int Go.IntKind.i64 (0 : Int), Go.Ev.DL.int Go.IntKind.i64 (0 : Int), Go.Ev.DL.int Go.IntKind.i64 (0 : Int), Go.Ev.DL.int Go.IntKind.i64 (0 : Int)]] : Rows) fun y58 =>
              bif Go.Ev.roomE Go.Proofs.Try.prog (38 : Nat) (List.length (Prod.snd r56) + List.length y58) then
                sh (Prod.snd r56 ++ y58 : Rows) fun y59 =>
                sh (Go.IntKind.wrap Go.IntKind.i64 (Prod.fst r6 + (1 : Int))) fun y60 =>
                bif Decidable.decide ((0 : Int) ≤ y60 ∧ y60 ≤ (↑(List.length y59) : Int)) then
                  bif Decidable.decide ((0 : Int) ≤ Prod.fst r6 ∧ Prod.fst r6 ≤ (↑(List.length y59) : Int)) then
                    bif Decidable.decide (Int.toNat y60 + (List.length y59 - Int.toNat y60) ≤ List.length y59) then
                      sh ((↑(Min.min (List.length (List.take (List.length y59 - Int.toNat (Prod.fst r6)) (List.drop (Int.toNat (Prod.fst r6)) y59))) (List.length y59 - Int.toNat y60)) : Int)) fun y61 =>
                      sh (List.take (Int.toNat y60) y59 ++ List.take (Min.min (List.length (List.take (List.length y59 - Int.toNat (Prod.fst r6)) (List.drop (Int.toNat (Prod.fst r6)) y59))) (List.length y59 - Int.toNat y60)) (List.take (List.length y59 - Int.toNat (Prod.fst r6)) (List.drop (Int.toNat (Prod.fst r6)) y59)) ++ List.drop (Int.toNat y60 + Min.min (List.length (List.take (List.length y59 - Int.toNat (Prod.fst r6)) (List.drop (Int.toNat (Prod.fst r6)) y59))) (List.length y59 - Int.toNat y60)) y59 : Rows) fun y62 =>
                      sh (Go.IntKind.wrap Go.IntKind.i64 (x5 + x6)) fun y63 =>
                      bif Decidable.decide ((0 : Int) ≤ Prod.fst r6 ∧ Prod.fst r6 < (↑(List.length y62) : Int)) then
                        bif Decidable.decide (Int.toNat (Prod.fst r6) < List.length y62) then
                          sh (List.set y62 (Int.toNat (Prod.fst r6)) [Go.Ev.DL.int Go.IntKind.i64 x3, Go.Ev.DL.int Go.IntKind.i64 x4, Go.Ev.DL.int Go.IntKind.i64 x1, Go.Ev.DL.int Go.IntKind.i64 y63] : Rows) fun y64 =>
                          sh (Go.IntKind.wrap Go.IntKind.i64 (Prod.fst r56 + (1 : Int))) fun y65 =>
                          k ((y65, y64, x1, (0 : Int)))
                        else none
                      else none
                    else none
                  else none
                else none
              else none
            else
              sh (Go.IntKind.wrap Go.IntKind.i64 (x5 + x6)) fun y66 =>
              bif Decidable.decide ((0 : Int) ≤ Prod.fst r6 ∧ Prod.fst r6 < (↑(List.length (Prod.snd r56)) : Int)) then
                bif Decidable.decide (Int.toNat (Prod.fst r6) < List.length (Prod.snd r56)) then
                  sh (List.set (Prod.snd r56) (Int.toNat (Prod.fst r6)) [Go.Ev.DL.int Go.IntKind.i64 x3, Go.Ev.DL.int Go.IntKind.i64 x4, Go.Ev.DL.int Go.IntKind.i64 x1, Go.Ev.DL.int Go.IntKind.i64 y66] : Rows) fun y67 =>
                  sh (Go.IntKind.wrap Go.IntKind.i64 (Prod.fst r56 + (1 : Int))) fun y68 =>
                  k ((y68, y67, x1, (0 : Int)))
                else none
              else none
theorem t11_eq {R : Type} (sh : Sh) (hsh : ∀ {α R : Type} (x : α) (K : α → Option R), sh x K = K x) (f16 : i16 → Option o16) (f24 : i24 → Option o24) (f25 : i25 → Option o25) (f26 : i26 → Option o26) (x1 : Int) (x2 : Rows) (x3 : Int) (x4 : Int) (x5 : Int) (x6 : Int) (K : CSt → Option R) : bodyK Try.prog (tabO sh hsh br11 [ent16 f16, ent24 f24, ent25 f25, ent26 f26]) (tabL []) ann11 false Try.f11 (enc11 (x1, x2, x3, x4, x5, x6)) K = t11 sh f16 f24 f25 f26 x1 x2 x3 x4 x5 x6 (retK11 K) := by kernel_rfl
theorem t11_law {R : Type} (f16 : i16 → Option o16) (f24 : i24 → Option o24) (f25 : i25 → Option o25) (f26 : i26 → Option o26) (x1 : Int) (x2 : Rows) (x3 : Int) (x4 : Int) (x5 : Int) (x6 : Int) (K : o11 → Option R) : t11 sh0 f16 f24 f25 f26 x1 x2 x3 x4 x5 x6 K = (t11 sh0 f16 f24 f25 f26 x1 x2 x3 x4 x5 x6 some).bind K := by
  simp only [t11, sh0, cond_bind', two_bind, none_bind', Option.bind_assoc, Option.bind_some]
theorem ok11 (f16 : i16 → Option o16) (f24 : i24 → Option o24) (f25 : i25 → Option o25) (f26 : i26 → Option o26) (hf16 : Sd16 f16) (hf24 : Sd24 f24) (hf25 : Sd25 f25) (hf26 : Sd26 f26) : Sd11 (fun a => t11 sh0 f16 f24 f25 f26 a.1 a.2.1 a.2.2.1 a.2.2.2.1 a.2.2.2.2.1 a.2.2.2.2.2 some) := by
  intro a b h
  refine call_ok (sh := sh0) (hsh := fun _ _ => rfl) (br := br11) (own := false) Try.mixed Try.func11 (by kernel_rfl) (.cons (mkEnt_ok hf16) (.cons (mkEnt_ok hf24) (.cons (mkEnt_ok hf25) (.cons (mkEnt_ok hf26) .nil)))) (fun nt => .nil) ((t11_eq sh0 (fun _ _ => rfl) f16 f24 f25 f26 a.1 a.2.1 a.2.2.1 a.2.2.2.1 a.2.2.2.2.1 a.2.2.2.2.2 _).trans ?_)
  rw [t11_law]
  simp only at h
  rw [h, Option.bind_some, retK11_eq]

/-! 12 erasure/lease.Expire -/
abbrev i12 : Type := Int × Rows × Int
def enc12 : i12 → CSt := fun a => ([Go.Ev.SV.agg [Go.Ev.SL.d (Go.Ev.DL.int Go.IntKind.i64 a.1), Go.Ev.SL.d (Go.Ev.DL.lst (38 : Nat) a.2.1)], Go.Ev.SV.one (Go.Ev.SL.d (Go.Ev.DL.int Go.IntKind.i64 a.2.2))], [])
def dec12 : (c : CSt) → Option { a : i12 // c = enc12 a }
  | ([Go.Ev.SV.agg [Go.Ev.SL.d (Go.Ev.DL.int Go.IntKind.i64 x1), Go.Ev.SL.d (Go.Ev.DL.lst (38 : Nat) x2)], Go.Ev.SV.one (Go.Ev.SL.d (Go.Ev.DL.int Go.IntKind.i64 x3))], []) => some ⟨(x1, x2, x3), rfl⟩
  | _ => none
abbrev o12 : Type := Int × Rows
def ret12 : o12 → CSt := fun b => ([Go.Ev.SV.agg [Go.Ev.SL.d (Go.Ev.DL.int Go.IntKind.i64 b.1), Go.Ev.SL.d (Go.Ev.DL.lst (38 : Nat) b.2)]], [])
def retK12 {R : Type} (K : CSt → Option R) : o12 → Option R := fun b => K (([Go.Ev.SV.agg [Go.Ev.SL.d (Go.Ev.DL.int Go.IntKind.i64 b.1), Go.Ev.SL.d (Go.Ev.DL.lst (38 : Nat) b.2)]], []))
theorem retK12_eq {R : Type} (K : CSt → Option R) (b : o12) : retK12 K b = K (ret12 b) := rfl
abbrev Sd12 (f : i12 → Option o12) : Prop := ∀ a b, f a = some b → CallOk Try.prog 12 (enc12 a) (ret12 b)
def ent12 (f : i12 → Option o12) : Ent := mkEnt 12 dec12 ret12 retK12 retK12_eq f
def ann12 : Nat → List Nat × List Nat := fun id => bif Nat.beq id 5 then ([1, 2, 4, 5, 6], [4, 5]) else ([], [])
def br12 : FuncId → Bool := fun (g : Nat) => false
abbrev iL12_5 : Type := Int × Int × Int × Rows × Int × Int × Rows × Rows
def encL12_5 : iL12_5 → CSt := fun a => ([Go.Ev.SV.one (Go.Ev.SL.d (Go.Ev.DL.int Go.IntKind.i64 a.1)), Go.Ev.SV.one (Go.Ev.SL.ptr (0 : Nat) (0 : Nat)), Go.Ev.SV.one (Go.Ev.SL.ptr (1 : Nat) (0 : Nat)), Go.Ev.SV.one (Go.Ev.SL.ptr (2 : Nat) (0 : Nat)), Go.Ev.SV.one (Go.Ev.SL.d (Go.Ev.DL.int Go.IntKind.i64 a.2.1))], [Go.Ev.Obj.box (24 : Nat) [Go.Ev.SL.d (Go.Ev.DL.int Go.IntKind.i64 a.2.2.1), Go.Ev.SL.d (Go.Ev.DL.lst (38 : Nat) a.2.2.2.1)], Go.Ev.Obj.box (24 : Nat) [Go.Ev.SL.d (Go.Ev.DL.int Go.IntKind.i64 a.2.2.2.2.1), Go.Ev.SL.vr (3 : Nat)], Go.Ev.Obj.box (24 : Nat) [Go.Ev.SL.d (Go.Ev.DL.int Go.IntKind.i64 a.2.2.2.2.2.1), Go.Ev.SL.vr (4 : Nat)], Go.Ev.Obj.vec (38 : Nat) Bool.false a.2.2.2.2.2.2.1, Go.Ev.Obj.vec (38 : Nat) Bool.false a.2.2.2.2.2.2.2])
def decL12_5 : (c : CSt) → Option { a : iL12_5 // c = encL12_5 a }
  | ([Go.Ev.SV.one (Go.Ev.SL.d (Go.Ev.DL.int Go.IntKind.i64 x1)), Go.Ev.SV.one (Go.Ev.SL.ptr (0 : Nat) (0 : Nat)), Go.Ev.SV.one (Go.Ev.SL.ptr (1 : Nat) (0 : Nat)), Go.Ev.SV.one (Go.Ev.SL.ptr (2 : Nat) (0 : Nat)), Go.Ev.SV.one (Go.Ev.SL.d (Go.Ev.DL.int Go.IntKind.i64 x2))], [Go.Ev.Obj.box (24 : Nat) [Go.Ev.SL.d (Go.Ev.DL.int Go.IntKind.i64 x3), Go.Ev.SL.d (Go.Ev.DL.lst (38 : Nat) x4)], Go.Ev.Obj.box (24 : Nat) [Go.Ev.SL.d (Go.Ev.DL.int Go.IntKind.i64 x5), Go.Ev.SL.vr (3 : Nat)], Go.Ev.Obj.box (24 : Nat) [Go.Ev.SL.d (Go.Ev.DL.int Go.IntKind.i64 x6), Go.Ev.SL.vr (4 : Nat)], Go.Ev.Obj.vec (38 : Nat) Bool.false x7, Go.Ev.Obj.vec (38 : Nat) Bool.false x8]) => some ⟨(x1, x2, x3, x4, x5, x6, x7, x8), rfl⟩
  | _ => none
abbrev oL12_5 : Type := Int × Int × Rows × Rows
def retL12_5 : oL12_5 → Ex × CSt := fun b => (Go.Ev.Ex.exit (0 : Nat), ([Go.Ev.SV.one (Go.Ev.SL.ptr (0 : Nat) (0 : Nat)), Go.Ev.SV.one (Go.Ev.SL.ptr (1 : Nat) (0 : Nat))], [Go.Ev.Obj.box (24 : Nat) [Go.Ev.SL.d (Go.Ev.DL.int Go.IntKind.i64 b.1), Go.Ev.SL.vr (2 : Nat)], Go.Ev.Obj.box (24 : Nat) [Go.Ev.SL.d (Go.Ev.DL.int Go.IntKind.i64 b.2.1), Go.Ev.SL.vr (3 : Nat)], Go.Ev.Obj.vec (38 : Nat) Bool.false b.2.2.1, Go.Ev.Obj.vec (38 : Nat) Bool.false b.2.2.2]))
def retKL12_5 {R : Type} (K : Ex → CSt → Option R) : oL12_5 → Option R := fun b => K (Go.Ev.Ex.exit (0 : Nat)) (([Go.Ev.SV.one (Go.Ev.SL.ptr (0 : Nat) (0 : Nat)), Go.Ev.SV.one (Go.Ev.SL.ptr (1 : Nat) (0 : Nat))], [Go.Ev.Obj.box (24 : Nat) [Go.Ev.SL.d (Go.Ev.DL.int Go.IntKind.i64 b.1), Go.Ev.SL.vr (2 : Nat)], Go.Ev.Obj.box (24 : Nat) [Go.Ev.SL.d (Go.Ev.DL.int Go.IntKind.i64 b.2.1), Go.Ev.SL.vr (3 : Nat)], Go.Ev.Obj.vec (38 : Nat) Bool.false b.2.2.1, Go.Ev.Obj.vec (38 : Nat) Bool.false b.2.2.2]))
theorem retKL12_5_eq {R : Type} (K : Ex → CSt → Option R) (b : oL12_5) : retKL12_5 K b = K (retL12_5 b).1 (retL12_5 b).2 := rfl
def entL12_5 (l : iL12_5 → Option oL12_5) : LEnt := mkLEnt 5 decL12_5 retL12_5 retKL12_5 retKL12_5_eq l
abbrev SdL12_5 (l : iL12_5 → Option oL12_5) : Prop := ∀ nt a b, l a = some b → LoopAt Try.prog nt 0 ann12 Try.f12 5 (encL12_5 a) (retL12_5 b)
noncomputable def u12_5 {R : Type} (sh : Sh) (l12_5 : iL12_5 → Option oL12_5) (x1 : Int) (x2 : Int) (x3 : Int) (x4 : Rows) (x5 : Int) (x6 : Int) (x7 : Rows) (x8 : Rows) (k : oL12_5 → Option R) : Option R :=
  sh ((↑(List.length x4) : Int)) fun y6 =>
  bif Decidable.decide (x2 < y6) then
    bif Decidable.decide ((0 : Int) ≤ x2 ∧ x2 < (↑(List.length x4) : Int)) then
      sh (Go.Ev.DL.getI (Go.Ev.cellAt x4 (Int.toNat x2) (3 : Nat))) fun y7 =>
      bif Decidable.decide (x1 < y7) then
        bif Decidable.decide ((0 : Int) ≤ x2 ∧ x2 < (↑(List.length x4) : Int)) then
          sh ([[Go.Ev.DL.int Go.IntKind.i64 (Go.Ev.DL.getI (Go.Ev.cellAt x4 (Int.toNat x2) (0 : Nat))), Go.Ev.DL.int Go.IntKind.i64 (Go.Ev.DL.getI (Go.Ev.cellAt x4 (Int.toNat x2) (1 : Nat))), Go.Ev.DL.int Go.IntKind.i64 (Go.Ev.DL.getI (Go.Ev.cellAt x4 (Int.toNat x2) (2 : Nat))), Go.Ev.DL.int Go.IntKind.i64 (Go.Ev.DL.getI (Go.Ev.cellAt x4 (Int.toNat x2) (3 : Nat)))]] : Rows) fun y8 =>
          bif Go.Ev.roomE Go.Proofs.Try.prog (38 : Nat) (List.length x8 + List.length y8) then
            sh (x8 ++ y8 : Rows) fun y9 =>
            sh (Go.IntKind.wrap Go.IntKind.i64 (x2 + (1 : Int))) fun y10 =>
            (l12_5 (x1, y10, x3, x4, x5, x6, x7, y9)).bind k
          else none
        else none
      else
        sh (Go.IntKind.wrap Go.IntKind.i64 (x2 + (1 : Int))) fun y11 =>
        (l12_5 (x1, y11, x3, x4, x5, x6, x7, x8)).bind k
    else none
  else
    k ((x5, x6, x7, x8))
theorem u12_5_eq {R : Type} (sh : Sh) (hsh : ∀ {α R : Type} (x : α) (K : α → Option R), sh x K = K x) (l12_5 : iL12_5 → Option oL12_5) (x1 : Int) (x2 : Int) (x3 : Int) (x4 : Rows) (x5 : Int) (x6 : Int) (x7 : Rows) (x8 : Rows) (K : Ex → CSt → Option R) : roundK Try.prog (tabO sh hsh br12 []) (tabL [entL12_5 l12_5]) ann12 0 Try.f12 5 (encL12_5 (x1, x2, x3, x4, x5, x6, x7, x8)) K = u12_5 sh l12_5 x1 x2 x3 x4 x5 x6 x7 x8 (retKL12_5 K) := by kernel_rfl
theorem u12_5_law {R : Type} (l12_5 : iL12_5 → Option oL12_5) (x1 : Int) (x2 : Int) (x3 : Int) (x4 : Rows) (x5 : Int) (x6 : Int) (x7 : Rows) (x8 : Rows) (K : oL12_5 → Option R) : u12_5 sh0 l12_5 x1 x2 x3 x4 x5 x6 x7 x8 K = (u12_5 sh0 l12_5 x1 x2 x3 x4 x5 x6 x7 x8 some).bind K := by
  simp only [u12_5, sh0, cond_bind', two_bind, none_bind', Option.bind_assoc, Option.bind_some]
theorem okL12_5 (l12_5 : iL12_5 → Option oL12_5) (hl12_5 : SdL12_5 l12_5) : SdL12_5 (fun a => u12_5 sh0 l12_5 a.1 a.2.1 a.2.2.1 a.2.2.2.1 a.2.2.2.2.1 a.2.2.2.2.2.1 a.2.2.2.2.2.2.1 a.2.2.2.2.2.2.2 some) := by
  intro nt a b h
  refine round_ok (sh := sh0) (hsh := fun _ _ => rfl) (br := br12) Try.mixed (by kernel_rfl) .nil (.cons (mkLEnt_ok (hl12_5 nt)) .nil) ((u12_5_eq sh0 (fun _ _ => rfl) l12_5  a.1 a.2.1 a.2.2.1 a.2.2.2.1 a.2.2.2.2.1 a.2.2.2.2.2.1 a.2.2.2.2.2.2.1 a.2.2.2.2.2.2.2 _).trans ?_)
  rw [u12_5_law]
  simp only at h
  rw [h, Option.bind_some, retKL12_5_eq]
noncomputable def t12 {R : Type} (sh : Sh) (f16 : i16 → Option o16) (l12_5 : iL12_5 → Option oL12_5) (x1 : Int) (x2 : Rows) (x3 : Int) (k : o12 → Option R) : Option R :=
  sh ([] : Rows) fun y1 =>
  (f16 (x1, x2)).bind fun (r2 : Bool) =>
  bif !r2 then
    sh ([] : Rows) fun y3 =>
    k (((0 : Int), y3))
  else
    sh ([] : Rows) fun y4 =>
    sh ([] : Rows) fun y5 =>
    (l12_5 (x3, (0 : Int), x1, x2, (0 : Int), x1, y1, y5)).bind fun (r12 : Int × Int × Rows × Rows) =>
    k ((Prod.fst r12.2, Prod.snd (Prod.snd r12).2))
theorem t12_eq {R : Type} (sh : Sh) (hsh : ∀ {α R : Type} (x : α) (K : α → Option R), sh x K = K x) (f16 : i16 → Option o16) (l12_5 : iL12_5 → Option oL12_5) (x1 : Int) (x2 : Rows) (x3 : Int) (K : CSt → Option R) : bodyK Try.prog (tabO sh hsh br12 [ent16 f16]) (tabL [entL12_5 l12_5]) ann12 false Try.f12 (enc12 (x1, x2, x3)) K = t12 sh f16 l12_5 x1 x2 x3 (retK12 K) := by kernel_rfl
theorem t12_law {R : Type} (f16 : i16 → Option o16) (l12_5 : iL12_5 → Option oL12_5) (x1 : Int) (x2 : Rows) (x3 : Int) (K : o12 → Option R) : t12 sh0 f16 l12_5 x1 x2 x3 K = (t12 sh0 f16 l12_5 x1 x2 x3 some).bind K := by
  simp only [t12, sh0, cond_bind', two_bind, none_bind', Option.bind_assoc, Option.bind_some]
theorem ok12 (f16 : i16 → Option o16) (l12_5 : iL12_5 → Option oL12_5) (hf16 : Sd16 f16) (hl12_5 : SdL12_5 l12_5) : Sd12 (fun a => t12 sh0 f16 l12_5 a.1 a.2.1 a.2.2 some) := by
  intro a b h
  refine call_ok (sh := sh0) (hsh := fun _ _ => rfl) (br := br12) (own := false) Try.mixed Try.func12 (by kernel_rfl) (.cons (mkEnt_ok hf16) .nil) (fun nt => (.cons (mkLEnt_ok (hl12_5 nt)) .nil)) ((t12_eq sh0 (fun _ _ => rfl) f16 l12_5 a.1 a.2.1 a.2.2 _).trans ?_)
  rw [t12_law]
  simp only at h
  rw [h, Option.bind_some, retK12_eq]

/-! 13 erasure/erasurelaw34.awake -/
abbrev i13 : Type := Unit
def enc13 : i13 → CSt := fun a => ([], [])
def dec13 : (c : CSt) → Option { a : i13 // c = enc13 a }
  | ([], []) => some ⟨(), rfl⟩
  | _ => none
abbrev o13 : Type := Bool
def ret13 : o13 → CSt := fun b => ([Go.Ev.SV.one (Go.Ev.SL.d (Go.Ev.DL.bool b))], [])
def retK13 {R : Type} (K : CSt → Option R) : o13 → Option R := fun b => K (([Go.Ev.SV.one (Go.Ev.SL.d (Go.Ev.DL.bool b))], []))
theorem retK13_eq {R : Type} (K : CSt → Option R) (b : o13) : retK13 K b = K (ret13 b) := rfl
abbrev Sd13 (f : i13 → Option o13) : Prop := ∀ a b, f a = some b → CallOk Try.prog 13 (enc13 a) (ret13 b)
def ent13 (f : i13 → Option o13) : Ent := mkEnt 13 dec13 ret13 retK13 retK13_eq f
def ann13 : Nat → List Nat × List Nat := fun id => ([], [])
def br13 : FuncId → Bool := fun (g : Nat) => false
noncomputable def t13 {R : Type} (sh : Sh) (f10 : i10 → Option o10) (f11 : i11 → Option o11) (k : o13 → Option R) : Option R :=
  (f10 ()).bind fun (r1 : Int × Rows) =>
  (f11 (Prod.fst r1, Prod.snd r1, (5 : Int), (1 : Int), (0 : Int), (10 : Int))).bind fun (r2 : Int × Rows × Int × Int) =>
  sh ([] : Rows) fun y3 =>
  (f11 (Prod.fst r2, Prod.fst r2.2, (5 : Int), (2 : Int), (9 : Int), (10 : Int))).bind fun (r4 : Int × Rows × Int × Int) =>
  sh ([] : Rows) fun y5 =>
  (f11 (Prod.fst r2, Prod.fst r2.2, (5 : Int), (2 : Int), (10 : Int), (10 : Int))).bind fun (r6 : Int × Rows × Int × Int) =>
  sh ([] : Rows) fun y7 =>
  bif Prod.snd (Prod.snd r2).2 == (0 : Int) then
    bif Prod.fst (Prod.snd r2).2 == (1 : Int) then
      bif Prod.snd (Prod.snd r4).2 == (11 : Int) then
        bif Prod.snd (Prod.snd r6).2 == (0 : Int) then
          k (Prod.fst (Prod.snd r6).2 == (2 : Int))
        else
          k (Bool.false)
      else
        k (Bool.false)
    else
      k (Bool.false)
  else
    k (Bool.false)
theorem t13_eq {R : Type} (sh : Sh) (hsh : ∀ {α R : Type} (x : α) (K : α → Option R), sh x K = K x) (f10 : i10 → Option o10) (f11 : i11 → Option o11) (K : CSt → Option R) : bodyK Try.prog (tabO sh hsh br13 [ent10 f10, ent11 f11]) (tabL []) ann13 false Try.f13 (enc13 ()) K = t13 sh f10 f11 (retK13 K) := by kernel_rfl
theorem t13_law {R : Type} (f10 : i10 → Option o10) (f11 : i11 → Option o11) (K : o13 → Option R) : t13 sh0 f10 f11 K = (t13 sh0 f10 f11 some).bind K := by
  simp only [t13, sh0, cond_bind', two_bind, none_bind', Option.bind_assoc, Option.bind_some]
theorem ok13 (f10 : i10 → Option o10) (f11 : i11 → Option o11) (hf10 : Sd10 f10) (hf11 : Sd11 f11) : Sd13 (fun a => t13 sh0 f10 f11 some) := by
  intro a b h
  refine call_ok (sh := sh0) (hsh := fun _ _ => rfl) (br := br13) (own := false) Try.mixed Try.func13 (by kernel_rfl) (.cons (mkEnt_ok hf10) (.cons (mkEnt_ok hf11) .nil)) (fun nt => .nil) ((t13_eq sh0 (fun _ _ => rfl) f10 f11 _).trans ?_)
  rw [t13_law]
  simp only at h
  rw [h, Option.bind_some, retK13_eq]

/-! 3 erasure/erasurelaw34.LeaseFull -/
abbrev i3 : Type := Int
def enc3 : i3 → CSt := fun a => ([Go.Ev.SV.one (Go.Ev.SL.d (Go.Ev.DL.int Go.IntKind.i64 a))], [])
def dec3 : (c : CSt) → Option { a : i3 // c = enc3 a }
  | ([Go.Ev.SV.one (Go.Ev.SL.d (Go.Ev.DL.int Go.IntKind.i64 x1))], []) => some ⟨x1, rfl⟩
  | _ => none
abbrev o3 : Type := Bool
def ret3 : o3 → CSt := fun b => ([Go.Ev.SV.one (Go.Ev.SL.d (Go.Ev.DL.bool b))], [])
def retK3 {R : Type} (K : CSt → Option R) : o3 → Option R := fun b => K (([Go.Ev.SV.one (Go.Ev.SL.d (Go.Ev.DL.bool b))], []))
theorem retK3_eq {R : Type} (K : CSt → Option R) (b : o3) : retK3 K b = K (ret3 b) := rfl
abbrev Sd3 (f : i3 → Option o3) : Prop := ∀ a b, f a = some b → CallOk Try.prog 3 (enc3 a) (ret3 b)
def ent3 (f : i3 → Option o3) : Ent := mkEnt 3 dec3 ret3 retK3 retK3_eq f
def ann3 : Nat → List Nat × List Nat := fun id => bif Nat.beq id 3 then ([0, 3, 4], [0, 2, 3]) else ([], [])
def br3 : FuncId → Bool := fun (g : Nat) => false
abbrev iL3_3 : Type := Int × Int × Int × Rows
def encL3_3 : iL3_3 → CSt := fun a => ([Go.Ev.SV.one (Go.Ev.SL.d (Go.Ev.DL.int Go.IntKind.i64 a.1)), Go.Ev.SV.one (Go.Ev.SL.ptr (0 : Nat) (0 : Nat)), Go.Ev.SV.one (Go.Ev.SL.d (Go.Ev.DL.int Go.IntKind.i64 a.2.1))], [Go.Ev.Obj.box (24 : Nat) [Go.Ev.SL.d (Go.Ev.DL.int Go.IntKind.i64 a.2.2.1), Go.Ev.SL.d (Go.Ev.DL.lst (38 : Nat) a.2.2.2)]])
def decL3_3 : (c : CSt) → Option { a : iL3_3 // c = encL3_3 a }
  | ([Go.Ev.SV.one (Go.Ev.SL.d (Go.Ev.DL.int Go.IntKind.i64 x1)), Go.Ev.SV.one (Go.Ev.SL.ptr (0 : Nat) (0 : Nat)), Go.Ev.SV.one (Go.Ev.SL.d (Go.Ev.DL.int Go.IntKind.i64 x2))], [Go.Ev.Obj.box (24 : Nat) [Go.Ev.SL.d (Go.Ev.DL.int Go.IntKind.i64 x3), Go.Ev.SL.d (Go.Ev.DL.lst (38 : Nat) x4)]]) => some ⟨(x1, x2, x3, x4), rfl⟩
  | _ => none
abbrev oL3_3 : Type := (Int × Bool × Int × Rows) ⊕ (Int × Int × Rows)
def retL3_3 : oL3_3 → Ex × CSt := two (fun b => (Go.Ev.Ex.ret, ([Go.Ev.SV.one (Go.Ev.SL.d (Go.Ev.DL.int Go.IntKind.i64 b.1)), Go.Ev.SV.one (Go.Ev.SL.d (Go.Ev.DL.bool b.2.1)), Go.Ev.SV.one (Go.Ev.SL.ptr (0 : Nat) (0 : Nat))], [Go.Ev.Obj.box (24 : Nat) [Go.Ev.SL.d (Go.Ev.DL.int Go.IntKind.i64 b.2.2.1), Go.Ev.SL.d (Go.Ev.DL.lst (38 : Nat) b.2.2.2)]]))) (fun b => (Go.Ev.Ex.exit (0 : Nat), ([Go.Ev.SV.one (Go.Ev.SL.d (Go.Ev.DL.int Go.IntKind.i64 b.1)), Go.Ev.SV.one Go.Ev.SL.un, Go.Ev.SV.one (Go.Ev.SL.ptr (0 : Nat) (0 : Nat))], [Go.Ev.Obj.box (24 : Nat) [Go.Ev.SL.d (Go.Ev.DL.int Go.IntKind.i64 b.2.1), Go.Ev.SL.d (Go.Ev.DL.lst (38 : Nat) b.2.2)]])))
def retKL3_3 {R : Type} (K : Ex → CSt → Option R) : oL3_3 → Option R := two (fun b => K (Go.Ev.Ex.ret) (([Go.Ev.SV.one (Go.Ev.SL.d (Go.Ev.DL.int Go.IntKind.i64 b.1)), Go.Ev.SV.one (Go.Ev.SL.d (Go.Ev.DL.bool b.2.1)), Go.Ev.SV.one (Go.Ev.SL.ptr (0 : Nat) (0 : Nat))], [Go.Ev.Obj.box (24 : Nat) [Go.Ev.SL.d (Go.Ev.DL.int Go.IntKind.i64 b.2.2.1), Go.Ev.SL.d (Go.Ev.DL.lst (38 : Nat) b.2.2.2)]]))) (fun b => K (Go.Ev.Ex.exit (0 : Nat)) (([Go.Ev.SV.one (Go.Ev.SL.d (Go.Ev.DL.int Go.IntKind.i64 b.1)), Go.Ev.SV.one Go.Ev.SL.un, Go.Ev.SV.one (Go.Ev.SL.ptr (0 : Nat) (0 : Nat))], [Go.Ev.Obj.box (24 : Nat) [Go.Ev.SL.d (Go.Ev.DL.int Go.IntKind.i64 b.2.1), Go.Ev.SL.d (Go.Ev.DL.lst (38 : Nat) b.2.2)]])))
theorem retKL3_3_eq {R : Type} (K : Ex → CSt → Option R) (b : oL3_3) : retKL3_3 K b = K (retL3_3 b).1 (retL3_3 b).2 := by
  unfold retKL3_3 retL3_3
  repeat' (first | rfl | cases b with | inl b => rfl | inr b => ?_)
def entL3_3 (l : iL3_3 → Option oL3_3) : LEnt := mkLEnt 3 decL3_3 retL3_3 retKL3_3 retKL3_3_eq l
abbrev SdL3_3 (l : iL3_3 → Option oL3_3) : Prop := ∀ nt a b, l a = some b → LoopAt Try.prog nt 0 ann3 Try.f3 3 (encL3_3 a) (retL3_3 b)
noncomputable def u3_3 {R : Type} (sh : Sh) (f11 : i11 → Option o11) (l3_3 : iL3_3 → Option oL3_3) (x1 : Int) (x2 : Int) (x3 : Int) (x4 : Rows) (k : oL3_3 → Option R) : Option R :=
  bif Decidable.decide (x2 < (64 : Int)) then
    sh (Go.IntKind.wrap Go.IntKind.i64 ((7 : Int) * x2)) fun y3 =>
    (f11 (x3, x4, y3, (1 : Int), (0 : Int), (5 : Int))).bind fun (r4 : Int × Rows × Int × Int) =>
    sh ([] : Rows) fun y5 =>
    bif Prod.snd (Prod.snd r4).2 != (0 : Int) then
      k ((.inl (x1, Bool.false, x3, x4)))
    else
      sh (Go.IntKind.wrap Go.IntKind.i64 (x2 + (1 : Int))) fun y6 =>
      (l3_3 (x1, y6, Prod.fst r4, Prod.fst r4.2)).bind k
  else
    k ((.inr (x1, x3, x4)))
theorem u3_3_eq {R : Type} (sh : Sh) (hsh : ∀ {α R : Type} (x : α) (K : α → Option R), sh x K = K x) (f11 : i11 → Option o11) (l3_3 : iL3_3 → Option oL3_3) (x1 : Int) (x2 : Int) (x3 : Int) (x4 : Rows) (K : Ex → CSt → Option R) : roundK Try.prog (tabO sh hsh br3 [ent11 f11]) (tabL [entL3_3 l3_3]) ann3 0 Try.f3 3 (encL3_3 (x1, x2, x3, x4)) K = u3_3 sh f11 l3_3 x1 x2 x3 x4 (retKL3_3 K) := by kernel_rfl
theorem u3_3_law {R : Type} (f11 : i11 → Option o11) (l3_3 : iL3_3 → Option oL3_3) (x1 : Int) (x2 : Int) (x3 : Int) (x4 : Rows) (K : oL3_3 → Option R) : u3_3 sh0 f11 l3_3 x1 x2 x3 x4 K = (u3_3 sh0 f11 l3_3 x1 x2 x3 x4 some).bind K := by
  simp only [u3_3, sh0, cond_bind', two_bind, none_bind', Option.bind_assoc, Option.bind_some]
theorem okL3_3 (f11 : i11 → Option o11) (l3_3 : iL3_3 → Option oL3_3) (hf11 : Sd11 f11) (hl3_3 : SdL3_3 l3_3) : SdL3_3 (fun a => u3_3 sh0 f11 l3_3 a.1 a.2.1 a.2.2.1 a.2.2.2 some) := by
  intro nt a b h
  refine round_ok (sh := sh0) (hsh := fun _ _ => rfl) (br := br3) Try.mixed (by kernel_rfl) (.cons (mkEnt_ok hf11) .nil) (.cons (mkLEnt_ok (hl3_3 nt)) .nil) ((u3_3_eq sh0 (fun _ _ => rfl) f11 l3_3  a.1 a.2.1 a.2.2.1 a.2.2.2 _).trans ?_)
  rw [u3_3_law]
  simp only at h
  rw [h, Option.bind_some, retKL3_3_eq]
noncomputable def t3 {R : Type} (sh : Sh) (f10 : i10 → Option o10) (f11 : i11 → Option o11) (f12 : i12 → Option o12) (f13 : i13 → Option o13) (l3_3 : iL3_3 → Option oL3_3) (x1 : Int) (k : o3 → Option R) : Option R :=
  (f10 ()).bind fun (r1 : Int × Rows) =>
  sh ([] : Rows) fun y2 =>
  (l3_3 (x1, (0 : Int), Prod.fst r1, Prod.snd r1)).bind (two (fun (r7 : Int × Bool × Int × Rows) =>
    k (Prod.fst r7.2)
  ) (fun (r8 : Int × Int × Rows) =>
    sh (Go.IntKind.wrap Go.IntKind.u64 (Prod.fst r8)) fun y9 =>
    sh (Int.tmod y9 (64 : Int)) fun y10 =>
    sh (Go.IntKind.wrap Go.IntKind.i64 y10) fun y11 =>
    (f11 (Prod.fst r8.2, Prod.snd r8.2, (-1 : Int), (1 : Int), (9 : Int), (5 : Int))).bind fun (r12 : Int × Rows × Int × Int) =>
    sh ([] : Rows) fun y13 =>
    sh (Go.IntKind.wrap Go.IntKind.i64 ((7 : Int) * y11)) fun y14 =>
    (f11 (Prod.fst r8.2, Prod.snd r8.2, y14, (2 : Int), (9 : Int), (5 : Int))).bind fun (r15 : Int × Rows × Int × Int) =>
    sh ([] : Rows) fun y16 =>
    (f12 (Prod.fst r15, Prod.fst r15.2, (9 : Int))).bind fun (r17 : Int × Rows) =>
    (f11 (Prod.fst r17, Prod.snd r17, (-1 : Int), (1 : Int), (9 : Int), (5 : Int))).bind fun (r18 : Int × Rows × Int × Int) =>
    sh ([] : Rows) fun y19 =>
    bif Prod.snd (Prod.snd r12).2 == (8 : Int) then
      bif Prod.snd (Prod.snd r15).2 == (0 : Int) then
        bif Prod.fst (Prod.snd r15).2 == (65 : Int) then
          sh ((↑(List.length (Prod.fst r15.2)) : Int)) fun y20 =>
          bif y20 == (64 : Int) then
            bif Prod.snd (Prod.snd r18).2 == (0 : Int) then
              (f13 ()).bind fun (r21 : Bool) =>
              k (r21)
            else
              k (Bool.false)
          else
            k (Bool.false)
        else
          k (Bool.false)
      else
        k (Bool.false)
    else
      k (Bool.false)
  ))
theorem t3_eq {R : Type} (sh : Sh) (hsh : ∀ {α R : Type} (x : α) (K : α → Option R), sh x K = K x) (f10 : i10 → Option o10) (f11 : i11 → Option o11) (f12 : i12 → Option o12) (f13 : i13 → Option o13) (l3_3 : iL3_3 → Option oL3_3) (x1 : Int) (K : CSt → Option R) : bodyK Try.prog (tabO sh hsh br3 [ent10 f10, ent11 f11, ent12 f12, ent13 f13]) (tabL [entL3_3 l3_3]) ann3 false Try.f3 (enc3 x1) K = t3 sh f10 f11 f12 f13 l3_3 x1 (retK3 K) := by kernel_rfl
theorem t3_law {R : Type} (f10 : i10 → Option o10) (f11 : i11 → Option o11) (f12 : i12 → Option o12) (f13 : i13 → Option o13) (l3_3 : iL3_3 → Option oL3_3) (x1 : Int) (K : o3 → Option R) : t3 sh0 f10 f11 f12 f13 l3_3 x1 K = (t3 sh0 f10 f11 f12 f13 l3_3 x1 some).bind K := by
  simp only [t3, sh0, cond_bind', two_bind, none_bind', Option.bind_assoc, Option.bind_some]
theorem ok3 (f10 : i10 → Option o10) (f11 : i11 → Option o11) (f12 : i12 → Option o12) (f13 : i13 → Option o13) (l3_3 : iL3_3 → Option oL3_3) (hf10 : Sd10 f10) (hf11 : Sd11 f11) (hf12 : Sd12 f12) (hf13 : Sd13 f13) (hl3_3 : SdL3_3 l3_3) : Sd3 (fun a => t3 sh0 f10 f11 f12 f13 l3_3 a some) := by
  intro a b h
  refine call_ok (sh := sh0) (hsh := fun _ _ => rfl) (br := br3) (own := false) Try.mixed Try.func3 (by kernel_rfl) (.cons (mkEnt_ok hf10) (.cons (mkEnt_ok hf11) (.cons (mkEnt_ok hf12) (.cons (mkEnt_ok hf13) .nil)))) (fun nt => (.cons (mkLEnt_ok (hl3_3 nt)) .nil)) ((t3_eq sh0 (fun _ _ => rfl) f10 f11 f12 f13 l3_3 a _).trans ?_)
  rw [t3_law]
  simp only at h
  rw [h, Option.bind_some, retK3_eq]

/-! 19 erasure/erasureref34.New -/
abbrev i19 : Type := Unit
def enc19 : i19 → CSt := fun a => ([], [])
def dec19 : (c : CSt) → Option { a : i19 // c = enc19 a }
  | ([], []) => some ⟨(), rfl⟩
  | _ => none
abbrev o19 : Type := Int × Rows
def ret19 : o19 → CSt := fun b => ([Go.Ev.SV.agg [Go.Ev.SL.d (Go.Ev.DL.int Go.IntKind.i64 b.1), Go.Ev.SL.d (Go.Ev.DL.lst (38 : Nat) b.2)]], [])
def retK19 {R : Type} (K : CSt → Option R) : o19 → Option R := fun b => K (([Go.Ev.SV.agg [Go.Ev.SL.d (Go.Ev.DL.int Go.IntKind.i64 b.1), Go.Ev.SL.d (Go.Ev.DL.lst (38 : Nat) b.2)]], []))
theorem retK19_eq {R : Type} (K : CSt → Option R) (b : o19) : retK19 K b = K (ret19 b) := rfl
abbrev Sd19 (f : i19 → Option o19) : Prop := ∀ a b, f a = some b → CallOk Try.prog 19 (enc19 a) (ret19 b)
def ent19 (f : i19 → Option o19) : Ent := mkEnt 19 dec19 ret19 retK19 retK19_eq f
def ann19 : Nat → List Nat × List Nat := fun id => ([], [])
def br19 : FuncId → Bool := fun (g : Nat) => false
noncomputable def t19 {R : Type} (sh : Sh) (k : o19 → Option R) : Option R :=
  sh ([] : Rows) fun y1 =>
  sh ([] : Rows) fun y2 =>
  k (((1 : Int), y2))
theorem t19_eq {R : Type} (sh : Sh) (hsh : ∀ {α R : Type} (x : α) (K : α → Option R), sh x K = K x) (K : CSt → Option R) : bodyK Try.prog (tabO sh hsh br19 []) (tabL []) ann19 false Try.f19 (enc19 ()) K = t19 sh (retK19 K) := by kernel_rfl
theorem t19_law {R : Type} (K : o19 → Option R) : t19 sh0 K = (t19 sh0 some).bind K := by
  simp only [t19, sh0, cond_bind', two_bind, none_bind', Option.bind_assoc, Option.bind_some]
theorem ok19 : Sd19 (fun a => t19 sh0 some) := by
  intro a b h
  refine call_ok (sh := sh0) (hsh := fun _ _ => rfl) (br := br19) (own := false) Try.mixed Try.func19 (by kernel_rfl) .nil (fun nt => .nil) ((t19_eq sh0 (fun _ _ => rfl) _).trans ?_)
  rw [t19_law]
  simp only at h
  rw [h, Option.bind_some, retK19_eq]

/-! 23 erasure/erasureref34.Valid -/
abbrev i23 : Type := Int × Rows
def enc23 : i23 → CSt := fun a => ([Go.Ev.SV.agg [Go.Ev.SL.d (Go.Ev.DL.int Go.IntKind.i64 a.1), Go.Ev.SL.d (Go.Ev.DL.lst (38 : Nat) a.2)]], [])
def dec23 : (c : CSt) → Option { a : i23 // c = enc23 a }
  | ([Go.Ev.SV.agg [Go.Ev.SL.d (Go.Ev.DL.int Go.IntKind.i64 x1), Go.Ev.SL.d (Go.Ev.DL.lst (38 : Nat) x2)]], []) => some ⟨(x1, x2), rfl⟩
  | _ => none
abbrev o23 : Type := Bool
def ret23 : o23 → CSt := fun b => ([Go.Ev.SV.one (Go.Ev.SL.d (Go.Ev.DL.bool b))], [])
def retK23 {R : Type} (K : CSt → Option R) : o23 → Option R := fun b => K (([Go.Ev.SV.one (Go.Ev.SL.d (Go.Ev.DL.bool b))], []))
theorem retK23_eq {R : Type} (K : CSt → Option R) (b : o23) : retK23 K b = K (ret23 b) := rfl
abbrev Sd23 (f : i23 → Option o23) : Prop := ∀ a b, f a = some b → CallOk Try.prog 23 (enc23 a) (ret23 b)
def ent23 (f : i23 → Option o23) : Ent := mkEnt 23 dec23 ret23 retK23 retK23_eq f
def ann23 : Nat → List Nat × List Nat := fun id => bif Nat.beq id 2 then ([1, 3], [1, 2]) else ([], [])
def br23 : FuncId → Bool := fun (g : Nat) => false
abbrev iL23_2 : Type := Int × Int × Rows
def encL23_2 : iL23_2 → CSt := fun a => ([Go.Ev.SV.one (Go.Ev.SL.ptr (0 : Nat) (0 : Nat)), Go.Ev.SV.one (Go.Ev.SL.d (Go.Ev.DL.int Go.IntKind.i64 a.1))], [Go.Ev.Obj.box (24 : Nat) [Go.Ev.SL.d (Go.Ev.DL.int Go.IntKind.i64 a.2.1), Go.Ev.SL.d (Go.Ev.DL.lst (38 : Nat) a.2.2)]])
def decL23_2 : (c : CSt) → Option { a : iL23_2 // c = encL23_2 a }
  | ([Go.Ev.SV.one (Go.Ev.SL.ptr (0 : Nat) (0 : Nat)), Go.Ev.SV.one (Go.Ev.SL.d (Go.Ev.DL.int Go.IntKind.i64 x1))], [Go.Ev.Obj.box (24 : Nat) [Go.Ev.SL.d (Go.Ev.DL.int Go.IntKind.i64 x2), Go.Ev.SL.d (Go.Ev.DL.lst (38 : Nat) x3)]]) => some ⟨(x1, x2, x3), rfl⟩
  | _ => none
abbrev oL23_2 : Type := (Bool × Int × Rows) ⊕ (Int × Rows)
def retL23_2 : oL23_2 → Ex × CSt := two (fun b => (Go.Ev.Ex.ret, ([Go.Ev.SV.one (Go.Ev.SL.ptr (0 : Nat) (0 : Nat)), Go.Ev.SV.one (Go.Ev.SL.d (Go.Ev.DL.bool b.1))], [Go.Ev.Obj.box (24 : Nat) [Go.Ev.SL.d (Go.Ev.DL.int Go.IntKind.i64 b.2.1), Go.Ev.SL.d (Go.Ev.DL.lst (38 : Nat) b.2.2)]]))) (fun b => (Go.Ev.Ex.exit (0 : Nat), ([Go.Ev.SV.one (Go.Ev.SL.ptr (0 : Nat) (0 : Nat)), Go.Ev.SV.one Go.Ev.SL.un], [Go.Ev.Obj.box (24 : Nat) [Go.Ev.SL.d (Go.Ev.DL.int Go.IntKind.i64 b.1), Go.Ev.SL.d (Go.Ev.DL.lst (38 : Nat) b.2)]])))
def retKL23_2 {R : Type} (K : Ex → CSt → Option R) : oL23_2 → Option R := two (fun b => K (Go.Ev.Ex.ret) (([Go.Ev.SV.one (Go.Ev.SL.ptr (0 : Nat) (0 : Nat)), Go.Ev.SV.one (Go.Ev.SL.d (Go.Ev.DL.bool b.1))], [Go.Ev.Obj.box (24 : Nat) [Go.Ev.SL.d (Go.Ev.DL.int Go.IntKind.i64 b.2.1), Go.Ev.SL.d (Go.Ev.DL.lst (38 : Nat) b.2.2)]]))) (fun b => K (Go.Ev.Ex.exit (0 : Nat)) (([Go.Ev.SV.one (Go.Ev.SL.ptr (0 : Nat) (0 : Nat)), Go.Ev.SV.one Go.Ev.SL.un], [Go.Ev.Obj.box (24 : Nat) [Go.Ev.SL.d (Go.Ev.DL.int Go.IntKind.i64 b.1), Go.Ev.SL.d (Go.Ev.DL.lst (38 : Nat) b.2)]])))
theorem retKL23_2_eq {R : Type} (K : Ex → CSt → Option R) (b : oL23_2) : retKL23_2 K b = K (retL23_2 b).1 (retL23_2 b).2 := by
  unfold retKL23_2 retL23_2
  repeat' (first | rfl | cases b with | inl b => rfl | inr b => ?_)
def entL23_2 (l : iL23_2 → Option oL23_2) : LEnt := mkLEnt 2 decL23_2 retL23_2 retKL23_2 retKL23_2_eq l
abbrev SdL23_2 (l : iL23_2 → Option oL23_2) : Prop := ∀ nt a b, l a = some b → LoopAt Try.prog nt 0 ann23 Try.f23 2 (encL23_2 a) (retL23_2 b)
noncomputable def u23_2 {R : Type} (sh : Sh) (l23_2 : iL23_2 → Option oL23_2) (x1 : Int) (x2 : Int) (x3 : Rows) (k : oL23_2 → Option R) : Option R :=
  sh ((↑(List.length x3) : Int)) fun y1 =>
  bif Decidable.decide (x1 < y1) then
    bif Decidable.decide ((0 : Int) ≤ x1 ∧ x1 < (↑(List.length x3) : Int)) then
      bif Decidable.decide (x1 > (0 : Int)) then
        sh (Go.IntKind.wrap Go.IntKind.i64 (x1 - (1 : Int))) fun y2 =>
        bif Decidable.decide ((0 : Int) ≤ y2 ∧ y2 < (↑(List.length x3) : Int)) then
          sh (Go.Ev.DL.getI (Go.Ev.cellAt x3 (Int.toNat y2) (0 : Nat))) fun y3 =>
          bif Decidable.decide (y3 ≥ Go.Ev.DL.getI (Go.Ev.cellAt x3 (Int.toNat x1) (0 : Nat))) then
            k ((.inl (Bool.false, x2, x3)))
          else
            bif Decidable.decide (Go.Ev.DL.getI (Go.Ev.cellAt x3 (Int.toNat x1) (2 : Nat)) < (1 : Int)) then
              k ((.inl (Bool.false, x2, x3)))
            else
              bif Decidable.decide (Go.Ev.DL.getI (Go.Ev.cellAt x3 (Int.toNat x1) (2 : Nat)) ≥ x2) then
                k ((.inl (Bool.false, x2, x3)))
              else
                sh (Go.IntKind.wrap Go.IntKind.i64 (x1 + (1 : Int))) fun y4 =>
                (l23_2 (y4, x2, x3)).bind k
        else none
      else
        bif Decidable.decide (Go.Ev.DL.getI (Go.Ev.cellAt x3 (Int.toNat x1) (2 : Nat)) < (1 : Int)) then
          k ((.inl (Bool.false, x2, x3)))
        else
          bif Decidable.decide (Go.Ev.DL.getI (Go.Ev.cellAt x3 (Int.toNat x1) (2 : Nat)) ≥ x2) then
            k ((.inl (Bool.false, x2, x3)))
          else
            sh (Go.IntKind.wrap Go.IntKind.i64 (x1 + (1 : Int))) fun y5 =>
            (l23_2 (y5, x2, x3)).bind k
    else none
  else
    k ((.inr (x2, x3)))
theorem u23_2_eq {R : Type} (sh : Sh) (hsh : ∀ {α R : Type} (x : α) (K : α → Option R), sh x K = K x) (l23_2 : iL23_2 → Option oL23_2) (x1 : Int) (x2 : Int) (x3 : Rows) (K : Ex → CSt → Option R) : roundK Try.prog (tabO sh hsh br23 []) (tabL [entL23_2 l23_2]) ann23 0 Try.f23 2 (encL23_2 (x1, x2, x3)) K = u23_2 sh l23_2 x1 x2 x3 (retKL23_2 K) := by kernel_rfl
theorem u23_2_law {R : Type} (l23_2 : iL23_2 → Option oL23_2) (x1 : Int) (x2 : Int) (x3 : Rows) (K : oL23_2 → Option R) : u23_2 sh0 l23_2 x1 x2 x3 K = (u23_2 sh0 l23_2 x1 x2 x3 some).bind K := by
  simp only [u23_2, sh0, cond_bind', two_bind, none_bind', Option.bind_assoc, Option.bind_some]
theorem okL23_2 (l23_2 : iL23_2 → Option oL23_2) (hl23_2 : SdL23_2 l23_2) : SdL23_2 (fun a => u23_2 sh0 l23_2 a.1 a.2.1 a.2.2 some) := by
  intro nt a b h
  refine round_ok (sh := sh0) (hsh := fun _ _ => rfl) (br := br23) Try.mixed (by kernel_rfl) .nil (.cons (mkLEnt_ok (hl23_2 nt)) .nil) ((u23_2_eq sh0 (fun _ _ => rfl) l23_2  a.1 a.2.1 a.2.2 _).trans ?_)
  rw [u23_2_law]
  simp only at h
  rw [h, Option.bind_some, retKL23_2_eq]
noncomputable def t23 {R : Type} (sh : Sh) (l23_2 : iL23_2 → Option oL23_2) (x1 : Int) (x2 : Rows) (k : o23 → Option R) : Option R :=
  (l23_2 ((0 : Int), x1, x2)).bind (two (fun (r6 : Bool × Int × Rows) =>
    k (Prod.fst r6)
  ) (fun (r7 : Int × Rows) =>
    bif Decidable.decide (Prod.fst r7 ≥ (1 : Int)) then
      bif Decidable.decide (Prod.fst r7 ≤ (1099511627776 : Int)) then
        sh ((↑(List.length (Prod.snd r7)) : Int)) fun y8 =>
        k (Decidable.decide (y8 ≤ (64 : Int)))
      else
        k (Bool.false)
    else
      k (Bool.false)
  ))
theorem t23_eq {R : Type} (sh : Sh) (hsh : ∀ {α R : Type} (x : α) (K : α → Option R), sh x K = K x) (l23_2 : iL23_2 → Option oL23_2) (x1 : Int) (x2 : Rows) (K : CSt → Option R) : bodyK Try.prog (tabO sh hsh br23 []) (tabL [entL23_2 l23_2]) ann23 false Try.f23 (enc23 (x1, x2)) K = t23 sh l23_2 x1 x2 (retK23 K) := by kernel_rfl
theorem t23_law {R : Type} (l23_2 : iL23_2 → Option oL23_2) (x1 : Int) (x2 : Rows) (K : o23 → Option R) : t23 sh0 l23_2 x1 x2 K = (t23 sh0 l23_2 x1 x2 some).bind K := by
  simp only [t23, sh0, cond_bind', two_bind, none_bind', Option.bind_assoc, Option.bind_some]
theorem ok23 (l23_2 : iL23_2 → Option oL23_2) (hl23_2 : SdL23_2 l23_2) : Sd23 (fun a => t23 sh0 l23_2 a.1 a.2 some) := by
  intro a b h
  refine call_ok (sh := sh0) (hsh := fun _ _ => rfl) (br := br23) (own := false) Try.mixed Try.func23 (by kernel_rfl) .nil (fun nt => (.cons (mkLEnt_ok (hl23_2 nt)) .nil)) ((t23_eq sh0 (fun _ _ => rfl) l23_2 a.1 a.2 _).trans ?_)
  rw [t23_law]
  simp only at h
  rw [h, Option.bind_some, retK23_eq]

/-! 35 erasure/erasureref34.timely -/
abbrev i35 : Type := Int × Int
def enc35 : i35 → CSt := fun a => ([Go.Ev.SV.one (Go.Ev.SL.d (Go.Ev.DL.int Go.IntKind.i64 a.1)), Go.Ev.SV.one (Go.Ev.SL.d (Go.Ev.DL.int Go.IntKind.i64 a.2))], [])
def dec35 : (c : CSt) → Option { a : i35 // c = enc35 a }
  | ([Go.Ev.SV.one (Go.Ev.SL.d (Go.Ev.DL.int Go.IntKind.i64 x1)), Go.Ev.SV.one (Go.Ev.SL.d (Go.Ev.DL.int Go.IntKind.i64 x2))], []) => some ⟨(x1, x2), rfl⟩
  | _ => none
abbrev o35 : Type := Bool
def ret35 : o35 → CSt := fun b => ([Go.Ev.SV.one (Go.Ev.SL.d (Go.Ev.DL.bool b))], [])
def retK35 {R : Type} (K : CSt → Option R) : o35 → Option R := fun b => K (([Go.Ev.SV.one (Go.Ev.SL.d (Go.Ev.DL.bool b))], []))
theorem retK35_eq {R : Type} (K : CSt → Option R) (b : o35) : retK35 K b = K (ret35 b) := rfl
abbrev Sd35 (f : i35 → Option o35) : Prop := ∀ a b, f a = some b → CallOk Try.prog 35 (enc35 a) (ret35 b)
def ent35 (f : i35 → Option o35) : Ent := mkEnt 35 dec35 ret35 retK35 retK35_eq f
def ann35 : Nat → List Nat × List Nat := fun id => ([], [])
def br35 : FuncId → Bool := fun (g : Nat) => false
noncomputable def t35 {R : Type} (sh : Sh) (x1 : Int) (x2 : Int) (k : o35 → Option R) : Option R :=
  bif Decidable.decide (x1 ≥ (-1099511627776 : Int)) then
    bif Decidable.decide (x1 ≤ (1099511627776 : Int)) then
      bif Decidable.decide (x2 ≥ (1 : Int)) then
        k (Decidable.decide (x2 ≤ (1099511627776 : Int)))
      else
        k (Bool.false)
    else
      k (Bool.false)
  else
    k (Bool.false)
theorem t35_eq {R : Type} (sh : Sh) (hsh : ∀ {α R : Type} (x : α) (K : α → Option R), sh x K = K x) (x1 : Int) (x2 : Int) (K : CSt → Option R) : bodyK Try.prog (tabO sh hsh br35 []) (tabL []) ann35 false Try.f35 (enc35 (x1, x2)) K = t35 sh x1 x2 (retK35 K) := by kernel_rfl
theorem t35_law {R : Type} (x1 : Int) (x2 : Int) (K : o35 → Option R) : t35 sh0 x1 x2 K = (t35 sh0 x1 x2 some).bind K := by
  simp only [t35, sh0, cond_bind', two_bind, none_bind', Option.bind_assoc, Option.bind_some]
theorem ok35 : Sd35 (fun a => t35 sh0 a.1 a.2 some) := by
  intro a b h
  refine call_ok (sh := sh0) (hsh := fun _ _ => rfl) (br := br35) (own := false) Try.mixed Try.func35 (by kernel_rfl) .nil (fun nt => .nil) ((t35_eq sh0 (fun _ _ => rfl) a.1 a.2 _).trans ?_)
  rw [t35_law]
  simp only at h
  rw [h, Option.bind_some, retK35_eq]

/-! 32 erasure/erasureref34.at -/
abbrev i32 : Type := Int × Rows × Int
def enc32 : i32 → CSt := fun a => ([Go.Ev.SV.agg [Go.Ev.SL.d (Go.Ev.DL.int Go.IntKind.i64 a.1), Go.Ev.SL.d (Go.Ev.DL.lst (38 : Nat) a.2.1)], Go.Ev.SV.one (Go.Ev.SL.d (Go.Ev.DL.int Go.IntKind.i64 a.2.2))], [])
def dec32 : (c : CSt) → Option { a : i32 // c = enc32 a }
  | ([Go.Ev.SV.agg [Go.Ev.SL.d (Go.Ev.DL.int Go.IntKind.i64 x1), Go.Ev.SL.d (Go.Ev.DL.lst (38 : Nat) x2)], Go.Ev.SV.one (Go.Ev.SL.d (Go.Ev.DL.int Go.IntKind.i64 x3))], []) => some ⟨(x1, x2, x3), rfl⟩
  | _ => none
abbrev o32 : Type := Int
def ret32 : o32 → CSt := fun b => ([Go.Ev.SV.one (Go.Ev.SL.d (Go.Ev.DL.int Go.IntKind.i64 b))], [])
def retK32 {R : Type} (K : CSt → Option R) : o32 → Option R := fun b => K (([Go.Ev.SV.one (Go.Ev.SL.d (Go.Ev.DL.int Go.IntKind.i64 b))], []))
theorem retK32_eq {R : Type} (K : CSt → Option R) (b : o32) : retK32 K b = K (ret32 b) := rfl
abbrev Sd32 (f : i32 → Option o32) : Prop := ∀ a b, f a = some b → CallOk Try.prog 32 (enc32 a) (ret32 b)
def ent32 (f : i32 → Option o32) : Ent := mkEnt 32 dec32 ret32 retK32 retK32_eq f
def ann32 : Nat → List Nat × List Nat := fun id => bif Nat.beq id 2 then ([1, 2, 5], [4]) else ([], [])
def br32 : FuncId → Bool := fun (g : Nat) => false
abbrev iL32_2 : Type := Int × Int × Int × Rows
def encL32_2 : iL32_2 → CSt := fun a => ([Go.Ev.SV.one (Go.Ev.SL.d (Go.Ev.DL.int Go.IntKind.i64 a.1)), Go.Ev.SV.one (Go.Ev.SL.ptr (0 : Nat) (0 : Nat)), Go.Ev.SV.one (Go.Ev.SL.d (Go.Ev.DL.int Go.IntKind.i64 a.2.1))], [Go.Ev.Obj.box (24 : Nat) [Go.Ev.SL.d (Go.Ev.DL.int Go.IntKind.i64 a.2.2.1), Go.Ev.SL.d (Go.Ev.DL.lst (38 : Nat) a.2.2.2)]])
def decL32_2 : (c : CSt) → Option { a : iL32_2 // c = encL32_2 a }
  | ([Go.Ev.SV.one (Go.Ev.SL.d (Go.Ev.DL.int Go.IntKind.i64 x1)), Go.Ev.SV.one (Go.Ev.SL.ptr (0 : Nat) (0 : Nat)), Go.Ev.SV.one (Go.Ev.SL.d (Go.Ev.DL.int Go.IntKind.i64 x2))], [Go.Ev.Obj.box (24 : Nat) [Go.Ev.SL.d (Go.Ev.DL.int Go.IntKind.i64 x3), Go.Ev.SL.d (Go.Ev.DL.lst (38 : Nat) x4)]]) => some ⟨(x1, x2, x3, x4), rfl⟩
  | _ => none
abbrev oL32_2 : Type := (Int) ⊕ (Unit)
def retL32_2 : oL32_2 → Ex × CSt := two (fun b => (Go.Ev.Ex.ret, ([Go.Ev.SV.one (Go.Ev.SL.d (Go.Ev.DL.int Go.IntKind.i64 b))], []))) (fun b => (Go.Ev.Ex.exit (0 : Nat), ([Go.Ev.SV.one Go.Ev.SL.un], [])))
def retKL32_2 {R : Type} (K : Ex → CSt → Option R) : oL32_2 → Option R := two (fun b => K (Go.Ev.Ex.ret) (([Go.Ev.SV.one (Go.Ev.SL.d (Go.Ev.DL.int Go.IntKind.i64 b))], []))) (fun b => K (Go.Ev.Ex.exit (0 : Nat)) (([Go.Ev.SV.one Go.Ev.SL.un], [])))
theorem retKL32_2_eq {R : Type} (K : Ex → CSt → Option R) (b : oL32_2) : retKL32_2 K b = K (retL32_2 b).1 (retL32_2 b).2 := by
  unfold retKL32_2 retL32_2
  repeat' (first | rfl | cases b with | inl b => rfl | inr b => ?_)
def entL32_2 (l : iL32_2 → Option oL32_2) : LEnt := mkLEnt 2 decL32_2 retL32_2 retKL32_2 retKL32_2_eq l
abbrev SdL32_2 (l : iL32_2 → Option oL32_2) : Prop := ∀ nt a b, l a = some b → LoopAt Try.prog nt 0 ann32 Try.f32 2 (encL32_2 a) (retL32_2 b)
noncomputable def u32_2 {R : Type} (sh : Sh) (l32_2 : iL32_2 → Option oL32_2) (x1 : Int) (x2 : Int) (x3 : Int) (x4 : Rows) (k : oL32_2 → Option R) : Option R :=
  sh ((↑(List.length x4) : Int)) fun y1 =>
  bif Decidable.decide (x2 < y1) then
    bif Decidable.decide ((0 : Int) ≤ x2 ∧ x2 < (↑(List.length x4) : Int)) then
      sh (Go.Ev.DL.getI (Go.Ev.cellAt x4 (Int.toNat x2) (0 : Nat))) fun y2 =>
      bif y2 == x1 then
        k ((.inl x2))
      else
        sh (Go.IntKind.wrap Go.IntKind.i64 (x2 + (1 : Int))) fun y3 =>
        (l32_2 (x1, y3, x3, x4)).bind k
    else none
  else
    k ((.inr ()))
theorem u32_2_eq {R : Type} (sh : Sh) (hsh : ∀ {α R : Type} (x : α) (K : α → Option R), sh x K = K x) (l32_2 : iL32_2 → Option oL32_2) (x1 : Int) (x2 : Int) (x3 : Int) (x4 : Rows) (K : Ex → CSt → Option R) : roundK Try.prog (tabO sh hsh br32 []) (tabL [entL32_2 l32_2]) ann32 0 Try.f32 2 (encL32_2 (x1, x2, x3, x4)) K = u32_2 sh l32_2 x1 x2 x3 x4 (retKL32_2 K) := by kernel_rfl
theorem u32_2_law {R : Type} (l32_2 : iL32_2 → Option oL32_2) (x1 : Int) (x2 : Int) (x3 : Int) (x4 : Rows) (K : oL32_2 → Option R) : u32_2 sh0 l32_2 x1 x2 x3 x4 K = (u32_2 sh0 l32_2 x1 x2 x3 x4 some).bind K := by
  simp only [u32_2, sh0, cond_bind', two_bind, none_bind', Option.bind_assoc, Option.bind_some]
theorem okL32_2 (l32_2 : iL32_2 → Option oL32_2) (hl32_2 : SdL32_2 l32_2) : SdL32_2 (fun a => u32_2 sh0 l32_2 a.1 a.2.1 a.2.2.1 a.2.2.2 some) := by
  intro nt a b h
  refine round_ok (sh := sh0) (hsh := fun _ _ => rfl) (br := br32) Try.mixed (by kernel_rfl) .nil (.cons (mkLEnt_ok (hl32_2 nt)) .nil) ((u32_2_eq sh0 (fun _ _ => rfl) l32_2  a.1 a.2.1 a.2.2.1 a.2.2.2 _).trans ?_)
  rw [u32_2_law]
  simp only at h
  rw [h, Option.bind_some, retKL32_2_eq]
noncomputable def t32 {R : Type} (sh : Sh) (l32_2 : iL32_2 → Option oL32_2) (x1 : Int) (x2 : Rows) (x3 : Int) (k : o32 → Option R) : Option R :=
  (l32_2 (x3, (0 : Int), x1, x2)).bind (two (fun (r4 : Int) =>
    k (r4)
  ) (fun _ =>
    k ((-1 : Int))
  ))
theorem t32_eq {R : Type} (sh : Sh) (hsh : ∀ {α R : Type} (x : α) (K : α → Option R), sh x K = K x) (l32_2 : iL32_2 → Option oL32_2) (x1 : Int) (x2 : Rows) (x3 : Int) (K : CSt → Option R) : bodyK Try.prog (tabO sh hsh br32 []) (tabL [entL32_2 l32_2]) ann32 false Try.f32 (enc32 (x1, x2, x3)) K = t32 sh l32_2 x1 x2 x3 (retK32 K) := by kernel_rfl
theorem t32_law {R : Type} (l32_2 : iL32_2 → Option oL32_2) (x1 : Int) (x2 : Rows) (x3 : Int) (K : o32 → Option R) : t32 sh0 l32_2 x1 x2 x3 K = (t32 sh0 l32_2 x1 x2 x3 some).bind K := by
  simp only [t32, sh0, cond_bind', two_bind, none_bind', Option.bind_assoc, Option.bind_some]
theorem ok32 (l32_2 : iL32_2 → Option oL32_2) (hl32_2 : SdL32_2 l32_2) : Sd32 (fun a => t32 sh0 l32_2 a.1 a.2.1 a.2.2 some) := by
  intro a b h
  refine call_ok (sh := sh0) (hsh := fun _ _ => rfl) (br := br32) (own := false) Try.mixed Try.func32 (by kernel_rfl) .nil (fun nt => (.cons (mkLEnt_ok (hl32_2 nt)) .nil)) ((t32_eq sh0 (fun _ _ => rfl) l32_2 a.1 a.2.1 a.2.2 _).trans ?_)
  rw [t32_law]
  simp only at h
  rw [h, Option.bind_some, retK32_eq]

/-! 37 erasure/erasureref34.without -/
abbrev i37 : Type := Rows × Int
def enc37 : i37 → CSt := fun a => ([Go.Ev.SV.one (Go.Ev.SL.d (Go.Ev.DL.lst (38 : Nat) a.1)), Go.Ev.SV.one (Go.Ev.SL.d (Go.Ev.DL.int Go.IntKind.i64 a.2))], [])
def dec37 : (c : CSt) → Option { a : i37 // c = enc37 a }
  | ([Go.Ev.SV.one (Go.Ev.SL.d (Go.Ev.DL.lst (38 : Nat) x1)), Go.Ev.SV.one (Go.Ev.SL.d (Go.Ev.DL.int Go.IntKind.i64 x2))], []) => some ⟨(x1, x2), rfl⟩
  | _ => none
abbrev o37 : Type := Rows
def ret37 : o37 → CSt := fun b => ([Go.Ev.SV.one (Go.Ev.SL.vr (0 : Nat))], [Go.Ev.Obj.vec (38 : Nat) Bool.false b])
def retK37 {R : Type} (K : CSt → Option R) : o37 → Option R := fun b => K (([Go.Ev.SV.one (Go.Ev.SL.vr (0 : Nat))], [Go.Ev.Obj.vec (38 : Nat) Bool.false b]))
theorem retK37_eq {R : Type} (K : CSt → Option R) (b : o37) : retK37 K b = K (ret37 b) := rfl
abbrev Sd37 (f : i37 → Option o37) : Prop := ∀ a b, f a = some b → CallOk Try.prog 37 (enc37 a) (ret37 b)
def ent37 (f : i37 → Option o37) : Ent := mkEnt 37 dec37 ret37 retK37 retK37_eq f
def ann37 : Nat → List Nat × List Nat := fun id => bif Nat.beq id 3 then ([0, 1, 5, 6], [5]) else ([], [])
def br37 : FuncId → Bool := fun (g : Nat) => false
abbrev iL37_3 : Type := Rows × Int × Int × Rows
def encL37_3 : iL37_3 → CSt := fun a => ([Go.Ev.SV.one (Go.Ev.SL.d (Go.Ev.DL.lst (38 : Nat) a.1)), Go.Ev.SV.one (Go.Ev.SL.d (Go.Ev.DL.int Go.IntKind.i64 a.2.1)), Go.Ev.SV.one (Go.Ev.SL.vr (0 : Nat)), Go.Ev.SV.one (Go.Ev.SL.d (Go.Ev.DL.int Go.IntKind.i64 a.2.2.1))], [Go.Ev.Obj.vec (38 : Nat) Bool.false a.2.2.2])
def decL37_3 : (c : CSt) → Option { a : iL37_3 // c = encL37_3 a }
  | ([Go.Ev.SV.one (Go.Ev.SL.d (Go.Ev.DL.lst (38 : Nat) x1)), Go.Ev.SV.one (Go.Ev.SL.d (Go.Ev.DL.int Go.IntKind.i64 x2)), Go.Ev.SV.one (Go.Ev.SL.vr (0 : Nat)), Go.Ev.SV.one (Go.Ev.SL.d (Go.Ev.DL.int Go.IntKind.i64 x3))], [Go.Ev.Obj.vec (38 : Nat) Bool.false x4]) => some ⟨(x1, x2, x3, x4), rfl⟩
  | _ => none
abbrev oL37_3 : Type := Rows
def retL37_3 : oL37_3 → Ex × CSt := fun b => (Go.Ev.Ex.exit (0 : Nat), ([Go.Ev.SV.one (Go.Ev.SL.vr (0 : Nat))], [Go.Ev.Obj.vec (38 : Nat) Bool.false b]))
def retKL37_3 {R : Type} (K : Ex → CSt → Option R) : oL37_3 → Option R := fun b => K (Go.Ev.Ex.exit (0 : Nat)) (([Go.Ev.SV.one (Go.Ev.SL.vr (0 : Nat))], [Go.Ev.Obj.vec (38 : Nat) Bool.false b]))
theorem retKL37_3_eq {R : Type} (K : Ex → CSt → Option R) (b : oL37_3) : retKL37_3 K b = K (retL37_3 b).1 (retL37_3 b).2 := rfl
def entL37_3 (l : iL37_3 → Option oL37_3) : LEnt := mkLEnt 3 decL37_3 retL37_3 retKL37_3 retKL37_3_eq l
abbrev SdL37_3 (l : iL37_3 → Option oL37_3) : Prop := ∀ nt a b, l a = some b → LoopAt Try.prog nt 0 ann37 Try.f37 3 (encL37_3 a) (retL37_3 b)
noncomputable def u37_3 {R : Type} (sh : Sh) (l37_3 : iL37_3 → Option oL37_3) (x1 : Rows) (x2 : Int) (x3 : Int) (x4 : Rows) (k : oL37_3 → Option R) : Option R :=
  sh ((↑(List.length x1) : Int)) fun y3 =>
  bif Decidable.decide (x3 < y3) then
    bif Decidable.decide ((0 : Int) ≤ x3 ∧ x3 < (↑(List.length x1) : Int)) then
      sh (Go.Ev.DL.getI (Go.Ev.cellAt x1 (Int.toNat x3) (0 : Nat))) fun y4 =>
      bif y4 != x2 then
        bif Decidable.decide ((0 : Int) ≤ x3 ∧ x3 < (↑(List.length x1) : Int)) then
          sh ([[Go.Ev.DL.int Go.IntKind.i64 (Go.Ev.DL.getI (Go.Ev.cellAt x1 (Int.toNat x3) (0 : Nat))), Go.Ev.DL.int Go.IntKind.i64 (Go.Ev.DL.getI (Go.Ev.cellAt x1 (Int.toNat x3) (1 : Nat))), Go.Ev.DL.int Go.IntKind.i64 (Go.Ev.DL.getI (Go.Ev.cellAt x1 (Int.toNat x3) (2 : Nat))), Go.Ev.DL.int Go.IntKind.i64 (Go.Ev.DL.getI (Go.Ev.cellAt x1 (Int.toNat x3) (3 : Nat)))]] : Rows) fun y5 =>
          bif Go.Ev.roomE Go.Proofs.Try.prog (38 : Nat) (List.length x4 + List.length y5) then
            sh (x4 ++ y5 : Rows) fun y6 =>
            sh (Go.IntKind.wrap Go.IntKind.i64 (x3 + (1 : Int))) fun y7 =>
            (l37_3 (x1, x2, y7, y6)).bind k
          else none
        else none
      else
        sh (Go.IntKind.wrap Go.IntKind.i64 (x3 + (1 : Int))) fun y8 =>
        (l37_3 (x1, x2, y8, x4)).bind k
    else none
  else
    k (x4)
theorem u37_3_eq {R : Type} (sh : Sh) (hsh : ∀ {α R : Type} (x : α) (K : α → Option R), sh x K = K x) (l37_3 : iL37_3 → Option oL37_3) (x1 : Rows) (x2 : Int) (x3 : Int) (x4 : Rows) (K : Ex → CSt → Option R) : roundK Try.prog (tabO sh hsh br37 []) (tabL [entL37_3 l37_3]) ann37 0 Try.f37 3 (encL37_3 (x1, x2, x3, x4)) K = u37_3 sh l37_3 x1 x2 x3 x4 (retKL37_3 K) := by kernel_rfl
theorem u37_3_law {R : Type} (l37_3 : iL37_3 → Option oL37_3) (x1 : Rows) (x2 : Int) (x3 : Int) (x4 : Rows) (K : oL37_3 → Option R) : u37_3 sh0 l37_3 x1 x2 x3 x4 K = (u37_3 sh0 l37_3 x1 x2 x3 x4 some).bind K := by
  simp only [u37_3, sh0, cond_bind', two_bind, none_bind', Option.bind_assoc, Option.bind_some]
theorem okL37_3 (l37_3 : iL37_3 → Option oL37_3) (hl37_3 : SdL37_3 l37_3) : SdL37_3 (fun a => u37_3 sh0 l37_3 a.1 a.2.1 a.2.2.1 a.2.2.2 some) := by
  intro nt a b h
  refine round_ok (sh := sh0) (hsh := fun _ _ => rfl) (br := br37) Try.mixed (by kernel_rfl) .nil (.cons (mkLEnt_ok (hl37_3 nt)) .nil) ((u37_3_eq sh0 (fun _ _ => rfl) l37_3  a.1 a.2.1 a.2.2.1 a.2.2.2 _).trans ?_)
  rw [u37_3_law]
  simp only at h
  rw [h, Option.bind_some, retKL37_3_eq]
noncomputable def t37 {R : Type} (sh : Sh) (l37_3 : iL37_3 → Option oL37_3) (x1 : Rows) (x2 : Int) (k : o37 → Option R) : Option R :=
  sh ([] : Rows) fun y1 =>
  sh ([] : Rows) fun y2 =>
  (l37_3 (x1, x2, (0 : Int), y2)).bind fun (r9 : Rows) =>
  k (r9)
theorem t37_eq {R : Type} (sh : Sh) (hsh : ∀ {α R : Type} (x : α) (K : α → Option R), sh x K = K x) (l37_3 : iL37_3 → Option oL37_3) (x1 : Rows) (x2 : Int) (K : CSt → Option R) : bodyK Try.prog (tabO sh hsh br37 []) (tabL [entL37_3 l37_3]) ann37 true Try.f37 (enc37 (x1, x2)) K = t37 sh l37_3 x1 x2 (retK37 K) := by kernel_rfl
theorem t37_law {R : Type} (l37_3 : iL37_3 → Option oL37_3) (x1 : Rows) (x2 : Int) (K : o37 → Option R) : t37 sh0 l37_3 x1 x2 K = (t37 sh0 l37_3 x1 x2 some).bind K := by
  simp only [t37, sh0, cond_bind', two_bind, none_bind', Option.bind_assoc, Option.bind_some]
theorem ok37 (l37_3 : iL37_3 → Option oL37_3) (hl37_3 : SdL37_3 l37_3) : Sd37 (fun a => t37 sh0 l37_3 a.1 a.2 some) := by
  intro a b h
  refine call_ok (sh := sh0) (hsh := fun _ _ => rfl) (br := br37) (own := true) Try.mixed Try.func37 (by kernel_rfl) .nil (fun nt => (.cons (mkLEnt_ok (hl37_3 nt)) .nil)) ((t37_eq sh0 (fun _ _ => rfl) l37_3 a.1 a.2 _).trans ?_)
  rw [t37_law]
  simp only at h
  rw [h, Option.bind_some, retK37_eq]

/-! 36 erasure/erasureref34.put -/
abbrev i36 : Type := Int × Rows × Int × Int × Int × Int × Int
def enc36 : i36 → CSt := fun a => ([Go.Ev.SV.agg [Go.Ev.SL.d (Go.Ev.DL.int Go.IntKind.i64 a.1), Go.Ev.SL.d (Go.Ev.DL.lst (38 : Nat) a.2.1)], Go.Ev.SV.agg [Go.Ev.SL.d (Go.Ev.DL.int Go.IntKind.i64 a.2.2.1), Go.Ev.SL.d (Go.Ev.DL.int Go.IntKind.i64 a.2.2.2.1), Go.Ev.SL.d (Go.Ev.DL.int Go.IntKind.i64 a.2.2.2.2.1), Go.Ev.SL.d (Go.Ev.DL.int Go.IntKind.i64 a.2.2.2.2.2.1)], Go.Ev.SV.one (Go.Ev.SL.d (Go.Ev.DL.int Go.IntKind.i64 a.2.2.2.2.2.2))], [])
def dec36 : (c : CSt) → Option { a : i36 // c = enc36 a }
  | ([Go.Ev.SV.agg [Go.Ev.SL.d (Go.Ev.DL.int Go.IntKind.i64 x1), Go.Ev.SL.d (Go.Ev.DL.lst (38 : Nat) x2)], Go.Ev.SV.agg [Go.Ev.SL.d (Go.Ev.DL.int Go.IntKind.i64 x3), Go.Ev.SL.d (Go.Ev.DL.int Go.IntKind.i64 x4), Go.Ev.SL.d (Go.Ev.DL.int Go.IntKind.i64 x5), Go.Ev.SL.d (Go.Ev.DL.int Go.IntKind.i64 x6)], Go.Ev.SV.one (Go.Ev.SL.d (Go.Ev.DL.int Go.IntKind.i64 x7))], []) => some ⟨(x1, x2, x3, x4, x5, x6, x7), rfl⟩
  | _ => none
abbrev o36 : Type := Int × Rows
def ret36 : o36 → CSt := fun b => ([Go.Ev.SV.agg [Go.Ev.SL.d (Go.Ev.DL.int Go.IntKind.i64 b.1), Go.Ev.SL.d (Go.Ev.DL.lst (38 : Nat) b.2)]], [])
def retK36 {R : Type} (K : CSt → Option R) : o36 → Option R := fun b => K (([Go.Ev.SV.agg [Go.Ev.SL.d (Go.Ev.DL.int Go.IntKind.i64 b.1), Go.Ev.SL.d (Go.Ev.DL.lst (38 : Nat) b.2)]], []))
theorem retK36_eq {R : Type} (K : CSt → Option R) (b : o36) : retK36 K b = K (ret36 b) := rfl
abbrev Sd36 (f : i36 → Option o36) : Prop := ∀ a b, f a = some b → CallOk Try.prog 36 (enc36 a) (ret36 b)
def ent36 (f : i36 → Option o36) : Ent := mkEnt 36 dec36 ret36 retK36 retK36_eq f
def ann36 : Nat → List Nat × List Nat := fun id => bif Nat.beq id 3 then ([2, 6, 7, 8], [2, 6, 7]) else ([], [])
def br36 : FuncId → Bool := fun (g : Nat) => false
abbrev iL36_3 : Type := Int × Int × Int × Rows × Rows
def encL36_3 : iL36_3 → CSt := fun a => ([Go.Ev.SV.one (Go.Ev.SL.d (Go.Ev.DL.int Go.IntKind.i64 a.1)), Go.Ev.SV.one (Go.Ev.SL.ptr (0 : Nat) (0 : Nat)), Go.Ev.SV.one (Go.Ev.SL.vr (1 : Nat)), Go.Ev.SV.one (Go.Ev.SL.d (Go.Ev.DL.int Go.IntKind.i64 a.2.1))], [Go.Ev.Obj.box (24 : Nat) [Go.Ev.SL.d (Go.Ev.DL.int Go.IntKind.i64 a.2.2.1), Go.Ev.SL.vr (2 : Nat)], Go.Ev.Obj.vec (38 : Nat) Bool.false a.2.2.2.1, Go.Ev.Obj.vec (38 : Nat) Bool.false a.2.2.2.2])
def decL36_3 : (c : CSt) → Option { a : iL36_3 // c = encL36_3 a }
  | ([Go.Ev.SV.one (Go.Ev.SL.d (Go.Ev.DL.int Go.IntKind.i64 x1)), Go.Ev.SV.one (Go.Ev.SL.ptr (0 : Nat) (0 : Nat)), Go.Ev.SV.one (Go.Ev.SL.vr (1 : Nat)), Go.Ev.SV.one (Go.Ev.SL.d (Go.Ev.DL.int Go.IntKind.i64 x2))], [Go.Ev.Obj.box (24 : Nat) [Go.Ev.SL.d (Go.Ev.DL.int Go.IntKind.i64 x3), Go.Ev.SL.vr (2 : Nat)], Go.Ev.Obj.vec (38 : Nat) Bool.false x4, Go.Ev.Obj.vec (38 : Nat) Bool.false x5]) => some ⟨(x1, x2, x3, x4, x5), rfl⟩
  | _ => none
abbrev oL36_3 : Type := Int × Int × Rows × Rows
def retL36_3 : oL36_3 → Ex × CSt := fun b => (Go.Ev.Ex.exit (0 : Nat), ([Go.Ev.SV.one (Go.Ev.SL.d (Go.Ev.DL.int Go.IntKind.i64 b.1)), Go.Ev.SV.one (Go.Ev.SL.ptr (0 : Nat) (0 : Nat)), Go.Ev.SV.one (Go.Ev.SL.vr (1 : Nat))], [Go.Ev.Obj.box (24 : Nat) [Go.Ev.SL.d (Go.Ev.DL.int Go.IntKind.i64 b.2.1), Go.Ev.SL.vr (2 : Nat)], Go.Ev.Obj.vec (38 : Nat) Bool.false b.2.2.1, Go.Ev.Obj.vec (38 : Nat) Bool.false b.2.2.2]))
def retKL36_3 {R : Type} (K : Ex → CSt → Option R) : oL36_3 → Option R := fun b => K (Go.Ev.Ex.exit (0 : Nat)) (([Go.Ev.SV.one (Go.Ev.SL.d (Go.Ev.DL.int Go.IntKind.i64 b.1)), Go.Ev.SV.one (Go.Ev.SL.ptr (0 : Nat) (0 : Nat)), Go.Ev.SV.one (Go.Ev.SL.vr (1 : Nat))], [Go.Ev.Obj.box (24 : Nat) [Go.Ev.SL.d (Go.Ev.DL.int Go.IntKind.i64 b.2.1), Go.Ev.SL.vr (2 : Nat)], Go.Ev.Obj.vec (38 : Nat) Bool.false b.2.2.1, Go.Ev.Obj.vec (38 : Nat) Bool.false b.2.2.2]))
theorem retKL36_3_eq {R : Type} (K : Ex → CSt → Option R) (b : oL36_3) : retKL36_3 K b = K (retL36_3 b).1 (retL36_3 b).2 := rfl
def entL36_3 (l : iL36_3 → Option oL36_3) : LEnt := mkLEnt 3 decL36_3 retL36_3 retKL36_3 retKL36_3_eq l
abbrev SdL36_3 (l : iL36_3 → Option oL36_3) : Prop := ∀ nt a b, l a = some b → LoopAt Try.prog nt 0 ann36 Try.f36 3 (encL36_3 a) (retL36_3 b)
noncomputable def u36_3 {R : Type} (sh : Sh) (l36_3 : iL36_3 → Option oL36_3) (x1 : Int) (x2 : Int) (x3 : Int) (x4 : Rows) (x5 : Rows) (k : oL36_3 → Option R) : Option R :=
  bif Decidable.decide (x2 > (0 : Int)) then
    bif Decidable.decide ((0 : Int) ≤ x2 ∧ x2 < (↑(List.length x4) : Int)) then
      bif Decidable.decide (Int.toNat x2 < List.length x4) then
        sh (Go.Ev.DL.getI (Go.Ev.cellAt x4 (Int.toNat x2) (0 : Nat))) fun y7 =>
        sh (Go.IntKind.wrap Go.IntKind.i64 (x2 - (1 : Int))) fun y8 =>
        bif Decidable.decide ((0 : Int) ≤ y8 ∧ y8 < (↑(List.length x4) : Int)) then
          bif Decidable.decide (Int.toNat y8 < List.length x4) then
            sh (Go.Ev.DL.getI (Go.Ev.cellAt x4 (Int.toNat y8) (0 : Nat))) fun y9 =>
            bif Decidable.decide (y7 < y9) then
              sh (Go.IntKind.wrap Go.IntKind.i64 (x2 - (1 : Int))) fun y10 =>
              bif Decidable.decide ((0 : Int) ≤ x2 ∧ x2 < (↑(List.length x4) : Int)) then
                bif Decidable.decide (Int.toNat x2 < List.length x4) then
                  sh (Go.IntKind.wrap Go.IntKind.i64 (x2 - (1 : Int))) fun y11 =>
                  bif Decidable.decide ((0 : Int) ≤ y11 ∧ y11 < (↑(List.length x4) : Int)) then
                    bif Decidable.decide (Int.toNat y11 < List.length x4) then
                      bif Decidable.decide ((0 : Int) ≤ y10 ∧ y10 < (↑(List.length x4) : Int)) then
                        bif Decidable.decide (Int.toNat y10 < List.length x4) then
                          sh (List.set x4 (Int.toNat y10) [Go.Ev.DL.int Go.IntKind.i64 (Go.Ev.DL.getI (Go.Ev.cellAt x4 (Int.toNat x2) (0 : Nat))), Go.Ev.DL.int Go.IntKind.i64 (Go.Ev.DL.getI (Go.Ev.cellAt x4 (Int.toNat x2) (1 : Nat))), Go.Ev.DL.int Go.IntKind.i64 (Go.Ev.DL.getI (Go.Ev.cellAt x4 (Int.toNat x2) (2 : Nat))), Go.Ev.DL.int Go.IntKind.i64 (Go.Ev.DL.getI (Go.Ev.cellAt x4 (Int.toNat x2) (3 : Nat)))] : Rows) fun y12 =>
                          bif Decidable.decide ((0 : Int) ≤ x2 ∧ x2 < (↑(List.length y12) : Int)) then
                            bif Decidable.decide (Int.toNat x2 < List.length y12) then
                              sh (List.set y12 (Int.toNat x2) [Go.Ev.DL.int Go.IntKind.i64 (Go.Ev.DL.getI (Go.Ev.cellAt x4 (Int.toNat y11) (0 : Nat))), Go.Ev.DL.int Go.IntKind.i64 (Go.Ev.DL.getI (Go.Ev.cellAt x4 (Int.toNat y11) (1 : Nat))), Go.Ev.DL.int Go.IntKind.i64 (Go.Ev.DL.getI (Go.Ev.cellAt x4 (Int.toNat y11) (2 : Nat))), Go.Ev.DL.int Go.IntKind.i64 (Go.Ev.DL.getI (Go.Ev.cellAt x4 (Int.toNat y11) (3 : Nat)))] : Rows) fun y13 =>
                              sh (Go.IntKind.wrap Go.IntKind.i64 (x2 - (1 : Int))) fun y14 =>
                              (l36_3 (x1, y14, x3, y13, x5)).bind k
                            else none
                          else none
                        else none
                      else none
                    else none
                  else none
                else none
              else none
            else
              k ((x1, x3, x4, x5))
          else none
        else none
      else none
    else none
  else
    k ((x1, x3, x4, x5))
theorem u36_3_eq {R : Type} (sh : Sh) (hsh : ∀ {α R : Type} (x : α) (K : α → Option R), sh x K = K x) (l36_3 : iL36_3 → Option oL36_3) (x1 : Int) (x2 : Int) (x3 : Int) (x4 : Rows) (x5 : Rows) (K : Ex → CSt → Option R) : roundK Try.prog (tabO sh hsh br36 []) (tabL [entL36_3 l36_3]) ann36 0 Try.f36 3 (encL36_3 (x1, x2, x3, x4, x5)) K = u36_3 sh l36_3 x1 x2 x3 x4 x5 (retKL36_3 K) := by kernel_rfl
theorem u36_3_law {R : Type} (l36_3 : iL36_3 → Option oL36_3) (x1 : Int) (x2 : Int) (x3 : Int) (x4 : Rows) (x5 : Rows) (K : oL36_3 → Option R) : u36_3 sh0 l36_3 x1 x2 x3 x4 x5 K = (u36_3 sh0 l36_3 x1 x2 x3 x4 x5 some).bind K := by
  simp only [u36_3, sh0, cond_bind', two_bind, none_bind', Option.bind_assoc, Option.bind_some]
theorem okL36_3 (l36_3 : iL36_3 → Option oL36_3) (hl36_3 : SdL36_3 l36_3) : SdL36_3 (fun a => u36_3 sh0 l36_3 a.1 a.2.1 a.2.2.1 a.2.2.2.1 a.2.2.2.2 some) := by
  intro nt a b h
  refine round_ok (sh := sh0) (hsh := fun _ _ => rfl) (br := br36) Try.mixed (by kernel_rfl) .nil (.cons (mkLEnt_ok (hl36_3 nt)) .nil) ((u36_3_eq sh0 (fun _ _ => rfl) l36_3  a.1 a.2.1 a.2.2.1 a.2.2.2.1 a.2.2.2.2 _).trans ?_)
  rw [u36_3_law]
  simp only at h
  rw [h, Option.bind_some, retKL36_3_eq]
noncomputable def t36 {R : Type} (sh : Sh) (f37 : i37 → Option o37) (l36_3 : iL36_3 → Option oL36_3) (x1 : Int) (x2 : Rows) (x3 : Int) (x4 : Int) (x5 : Int) (x6 : Int) (x7 : Int) (k : o36 → Option R) : Option R :=
  sh ([] : Rows) fun y1 =>
  (f37 (x2, x3)).bind fun (r2 : Rows) =>
  sh ([[Go.Ev.DL.int Go.IntKind.i64 x3, Go.Ev.DL.int Go.IntKind.i64 x4, Go.Ev.DL.int Go.IntKind.i64 x5, Go.Ev.DL.int Go.IntKind.i64 x6]] : Rows) fun y3 =>
  bif Go.Ev.roomE Go.Proofs.Try.prog (38 : Nat) (List.length r2 + List.length y3) then
    sh (r2 ++ y3 : Rows) fun y4 =>
    sh ((↑(List.length y4) : Int)) fun y5 =>
    sh (Go.IntKind.wrap Go.IntKind.i64 (y5 - (1 : Int))) fun y6 =>
    (l36_3 (x7, y6, (0 : Int), y4, y1)).bind fun (r15 : Int × Int × Rows × Rows) =>
    k ((Prod.fst r15, Prod.fst (Prod.snd r15).2))
  else none
theorem t36_eq {R : Type} (sh : Sh) (hsh : ∀ {α R : Type} (x : α) (K : α → Option R), sh x K = K x) (f37 : i37 → Option o37) (l36_3 : iL36_3 → Option oL36_3) (x1 : Int) (x2 : Rows) (x3 : Int) (x4 : Int) (x5 : Int) (x6 : Int) (x7 : Int) (K : CSt → Option R) : bodyK Try.prog (tabO sh hsh br36 [ent37 f37]) (tabL [entL36_3 l36_3]) ann36 false Try.f36 (enc36 (x1, x2, x3, x4, x5, x6, x7)) K = t36 sh f37 l36_3 x1 x2 x3 x4 x5 x6 x7 (retK36 K) := by kernel_rfl
theorem t36_law {R : Type} (f37 : i37 → Option o37) (l36_3 : iL36_3 → Option oL36_3) (x1 : Int) (x2 : Rows) (x3 : Int) (x4 : Int) (x5 : Int) (x6 : Int) (x7 : Int) (K : o36 → Option R) : t36 sh0 f37 l36_3 x1 x2 x3 x4 x5 x6 x7 K = (t36 sh0 f37 l36_3 x1 x2 x3 x4 x5 x6 x7 some).bind K := by
  simp only [t36, sh0, cond_bind', two_bind, none_bind', Option.bind_assoc, Option.bind_some]
theorem ok36 (f37 : i37 → Option o37) (l36_3 : iL36_3 → Option oL36_3) (hf37 : Sd37 f37) (hl36_3 : SdL36_3 l36_3) : Sd36 (fun a => t36 sh0 f37 l36_3 a.1 a.2.1 a.2.2.1 a.2.2.2.1 a.2.2.2.2.1 a.2.2.2.2.2.1 a.2.2.2.2.2.2 some) := by
  intro a b h
  refine call_ok (sh := sh0) (hsh := fun _ _ => rfl) (br := br36) (own := false) Try.mixed Try.func36 (by kernel_rfl) (.cons (mkEnt_ok hf37) .nil) (fun nt => (.cons (mkLEnt_ok (hl36_3 nt)) .nil)) ((t36_eq sh0 (fun _ _ => rfl) f37 l36_3 a.1 a.2.1 a.2.2.1 a.2.2.2.1 a.2.2.2.2.1 a.2.2.2.2.2.1 a.2.2.2.2.2.2 _).trans ?_)
  rw [t36_law]
  simp only at h
  rw [h, Option.bind_some, retK36_eq]

/-! 27 erasure/erasureref34.Acquire -/
abbrev i27 : Type := Int × Rows × Int × Int × Int × Int
def enc27 : i27 → CSt := fun a => ([Go.Ev.SV.agg [Go.Ev.SL.d (Go.Ev.DL.int Go.IntKind.i64 a.1), Go.Ev.SL.d (Go.Ev.DL.lst (38 : Nat) a.2.1)], Go.Ev.SV.one (Go.Ev.SL.d (Go.Ev.DL.int Go.IntKind.i64 a.2.2.1)), Go.Ev.SV.one (Go.Ev.SL.d (Go.Ev.DL.int Go.IntKind.i64 a.2.2.2.1)), Go.Ev.SV.one (Go.Ev.SL.d (Go.Ev.DL.int Go.IntKind.i64 a.2.2.2.2.1)), Go.Ev.SV.one (Go.Ev.SL.d (Go.Ev.DL.int Go.IntKind.i64 a.2.2.2.2.2))], [])
def dec27 : (c : CSt) → Option { a : i27 // c = enc27 a }
  | ([Go.Ev.SV.agg [Go.Ev.SL.d (Go.Ev.DL.int Go.IntKind.i64 x1), Go.Ev.SL.d (Go.Ev.DL.lst (38 : Nat) x2)], Go.Ev.SV.one (Go.Ev.SL.d (Go.Ev.DL.int Go.IntKind.i64 x3)), Go.Ev.SV.one (Go.Ev.SL.d (Go.Ev.DL.int Go.IntKind.i64 x4)), Go.Ev.SV.one (Go.Ev.SL.d (Go.Ev.DL.int Go.IntKind.i64 x5)), Go.Ev.SV.one (Go.Ev.SL.d (Go.Ev.DL.int Go.IntKind.i64 x6))], []) => some ⟨(x1, x2, x3, x4, x5, x6), rfl⟩
  | _ => none
abbrev o27 : Type := Int × Rows × Int × Int
def ret27 : o27 → CSt := fun b => ([Go.Ev.SV.agg [Go.Ev.SL.d (Go.Ev.DL.int Go.IntKind.i64 b.1), Go.Ev.SL.d (Go.Ev.DL.lst (38 : Nat) b.2.1)], Go.Ev.SV.one (Go.Ev.SL.d (Go.Ev.DL.int Go.IntKind.i64 b.2.2.1)), Go.Ev.SV.one (Go.Ev.SL.d (Go.Ev.DL.int Go.IntKind.i64 b.2.2.2))], [])
def retK27 {R : Type} (K : CSt → Option R) : o27 → Option R := fun b => K (([Go.Ev.SV.agg [Go.Ev.SL.d (Go.Ev.DL.int Go.IntKind.i64 b.1), Go.Ev.SL.d (Go.Ev.DL.lst (38 : Nat) b.2.1)], Go.Ev.SV.one (Go.Ev.SL.d (Go.Ev.DL.int Go.IntKind.i64 b.2.2.1)), Go.Ev.SV.one (Go.Ev.SL.d (Go.Ev.DL.int Go.IntKind.i64 b.2.2.2))], []))
theorem retK27_eq {R : Type} (K : CSt → Option R) (b : o27) : retK27 K b = K (ret27 b) := rfl
abbrev Sd27 (f : i27 → Option o27) : Prop := ∀ a b, f a = some b → CallOk Try.prog 27 (enc27 a) (ret27 b)
def ent27 (f : i27 → Option o27) : Ent := mkEnt 27 dec27 ret27 retK27 retK27_eq f
def ann27 : Nat → List Nat × List Nat := fun id => ([], [])
def br27 : FuncId → Bool := fun (g : Nat) => false
noncomputable def t27 {R : Type} (sh : Sh) (f23 : i23 → Option o23) (f35 : i35 → Option o35) (f32 : i32 → Option o32) (f36 : i36 → Option o36) (x1 : Int) (x2 : Rows) (x3 : Int) (x4 : Int) (x5 : Int) (x6 : Int) (k : o27 → Option R) : Option R :=
  sh ([] : Rows) fun y1 =>
  (f23 (x1, x2)).bind fun (r2 : Bool) =>
  bif !r2 then
    sh ([] : Rows) fun y3 =>
    k (((0 : Int), y3, (0 : Int), (1 : Int)))
  else
    (f35 (x5, x6)).bind fun (r4 : Bool) =>
    bif !r4 then
      sh ([] : Rows) fun y5 =>
      k (((0 : Int), y5, (0 : Int), (1 : Int)))
    else
      (f32 (x1, x2, x3)).bind fun (r6 : Int) =>
      bif Decidable.decide (r6 ≥ (0 : Int)) then
        bif Decidable.decide ((0 : Int) ≤ r6 ∧ r6 < (↑(List.length x2) : Int)) then
          sh (Go.Ev.DL.getI (Go.Ev.cellAt x2 (Int.toNat r6) (3 : Nat))) fun y7 =>
          bif Decidable.decide (x5 < y7) then
            sh ([] : Rows) fun y8 =>
            k (((0 : Int), y8, (0 : Int), (11 : Int)))
          else
            bif Decidable.decide (r6 < (0 : Int)) then
              sh ((↑(List.length x2) : Int)) fun y9 =>
              bif Decidable.decide (y9 ≥ (64 : Int)) then
                sh ([] : Rows) fun y10 =>
                k (((0 : Int), y10, (0 : Int), (8 : Int)))
              else
                bif x1 == (1099511627776 : Int) then
                  sh ([] : Rows) fun y11 =>
                  k (((0 : Int), y11, (0 : Int), (8 : Int)))
                else
                  sh (Go.IntKind.wrap Go.IntKind.i64 (x5 + x6)) fun y12 =>
                  sh (Go.IntKind.wrap Go.IntKind.i64 (x1 + (1 : Int))) fun y13 =>
                  (f36 (x1, x2, x3, x4, x1, y12, y13)).bind fun (r14 : Int × Rows) =>
                  k ((Prod.fst r14, Prod.snd r14, x1, (0 : Int)))
            else
              bif x1 == (1099511627776 : Int) then
                sh ([] : Rows) fun y15 =>
                k (((0 : Int), y15, (0 : Int), (8 : Int)))
              else
                sh (Go.IntKind.wrap Go.IntKind.i64 (x5 + x6)) fun y16 =>
                sh (Go.IntKind.wrap Go.IntKind.i64 (x1 + (1 : Int))) fun y17 =>
                (f36 (x1, x2, x3, x4, x1, y16, y17)).bind fun (r18 : Int × Rows) =>
                k ((Prod.fst r18, Prod.snd r18, x1, (0 : Int)))
        else none
      else
        bif Decidable.decide (r6 < (0 : Int)) then
          sh ((↑(List.length x2) : Int)) fun y19 =>
          bif Decidable.decide (y19 ≥ (64 : Int)) then
            sh ([] : Rows) fun y20 =>
            k (((0 : Int), y20, (0 : Int), (8 : Int)))
          else
            bif x1 == (1099511627776 : Int) then
              sh ([] : Rows) fun y21 =>
              k (((0 : Int), y21, (0 : Int), (8 : Int)))
            else
              sh (Go.IntKind.wrap Go.IntKind.i64 (x5 + x6)) fun y22 =>
              sh (Go.IntKind.wrap Go.IntKind.i64 (x1 + (1 : Int))) fun y23 =>
              (f36 (x1, x2, x3, x4, x1, y22, y23)).bind fun (r24 : Int × Rows) =>
              k ((Prod.fst r24, Prod.snd r24, x1, (0 : Int)))
        else
          bif x1 == (1099511627776 : Int) then
            sh ([] : Rows) fun y25 =>
            k (((0 : Int), y25, (0 : Int), (8 : Int)))
          else
            sh (Go.IntKind.wrap Go.IntKind.i64 (x5 + x6)) fun y26 =>
            sh (Go.IntKind.wrap Go.IntKind.i64 (x1 + (1 : Int))) fun y27 =>
            (f36 (x1, x2, x3, x4, x1, y26, y27)).bind fun (r28 : Int × Rows) =>
            k ((Prod.fst r28, Prod.snd r28, x1, (0 : Int)))
theorem t27_eq {R : Type} (sh : Sh) (hsh : ∀ {α R : Type} (x : α) (K : α → Option R), sh x K = K x) (f23 : i23 → Option o23) (f35 : i35 → Option o35) (f32 : i32 → Option o32) (f36 : i36 → Option o36) (x1 : Int) (x2 : Rows) (x3 : Int) (x4 : Int) (x5 : Int) (x6 : Int) (K : CSt → Option R) : bodyK Try.prog (tabO sh hsh br27 [ent23 f23, ent35 f35, ent32 f32, ent36 f36]) (tabL []) ann27 false Try.f27 (enc27 (x1, x2, x3, x4, x5, x6)) K = t27 sh f23 f35 f32 f36 x1 x2 x3 x4 x5 x6 (retK27 K) := by kernel_rfl
theorem t27_law {R : Type} (f23 : i23 → Option o23) (f35 : i35 → Option o35) (f32 : i32 → Option o32) (f36 : i36 → Option o36) (x1 : Int) (x2 : Rows) (x3 : Int) (x4 : Int) (x5 : Int) (x6 : Int) (K : o27 → Option R) : t27 sh0 f23 f35 f32 f36 x1 x2 x3 x4 x5 x6 K = (t27 sh0 f23 f35 f32 f36 x1 x2 x3 x4 x5 x6 some).bind K := by
  simp only [t27, sh0, cond_bind', two_bind, none_bind', Option.bind_assoc, Option.bind_some]
theorem ok27 (f23 : i23 → Option o23) (f35 : i35 → Option o35) (f32 : i32 → Option o32) (f36 : i36 → Option o36) (hf23 : Sd23 f23) (hf35 : Sd35 f35) (hf32 : Sd32 f32) (hf36 : Sd36 f36) : Sd27 (fun a => t27 sh0 f23 f35 f32 f36 a.1 a.2.1 a.2.2.1 a.2.2.2.1 a.2.2.2.2.1 a.2.2.2.2.2 some) := by
  intro a b h
  refine call_ok (sh := sh0) (hsh := fun _ _ => rfl) (br := br27) (own := false) Try.mixed Try.func27 (by kernel_rfl) (.cons (mkEnt_ok hf23) (.cons (mkEnt_ok hf35) (.cons (mkEnt_ok hf32) (.cons (mkEnt_ok hf36) .nil)))) (fun nt => .nil) ((t27_eq sh0 (fun _ _ => rfl) f23 f35 f32 f36 a.1 a.2.1 a.2.2.1 a.2.2.2.1 a.2.2.2.2.1 a.2.2.2.2.2 _).trans ?_)
  rw [t27_law]
  simp only at h
  rw [h, Option.bind_some, retK27_eq]

/-! 28 erasure/erasureref34.Renew -/
abbrev i28 : Type := Int × Rows × Int × Int × Int × Int × Int
def enc28 : i28 → CSt := fun a => ([Go.Ev.SV.agg [Go.Ev.SL.d (Go.Ev.DL.int Go.IntKind.i64 a.1), Go.Ev.SL.d (Go.Ev.DL.lst (38 : Nat) a.2.1)], Go.Ev.SV.one (Go.Ev.SL.d (Go.Ev.DL.int Go.IntKind.i64 a.2.2.1)), Go.Ev.SV.one (Go.Ev.SL.d (Go.Ev.DL.int Go.IntKind.i64 a.2.2.2.1)), Go.Ev.SV.one (Go.Ev.SL.d (Go.Ev.DL.int Go.IntKind.i64 a.2.2.2.2.1)), Go.Ev.SV.one (Go.Ev.SL.d (Go.Ev.DL.int Go.IntKind.i64 a.2.2.2.2.2.1)), Go.Ev.SV.one (Go.Ev.SL.d (Go.Ev.DL.int Go.IntKind.i64 a.2.2.2.2.2.2))], [])
def dec28 : (c : CSt) → Option { a : i28 // c = enc28 a }
  | ([Go.Ev.SV.agg [Go.Ev.SL.d (Go.Ev.DL.int Go.IntKind.i64 x1), Go.Ev.SL.d (Go.Ev.DL.lst (38 : Nat) x2)], Go.Ev.SV.one (Go.Ev.SL.d (Go.Ev.DL.int Go.IntKind.i64 x3)), Go.Ev.SV.one (Go.Ev.SL.d (Go.Ev.DL.int Go.IntKind.i64 x4)), Go.Ev.SV.one (Go.Ev.SL.d (Go.Ev.DL.int Go.IntKind.i64 x5)), Go.Ev.SV.one (Go.Ev.SL.d (Go.Ev.DL.int Go.IntKind.i64 x6)), Go.Ev.SV.one (Go.Ev.SL.d (Go.Ev.DL.int Go.IntKind.i64 x7))], []) => some ⟨(x1, x2, x3, x4, x5, x6, x7), rfl⟩
  | _ => none
abbrev o28 : Type := Int × Rows × Int
def ret28 : o28 → CSt := fun b => ([Go.Ev.SV.agg [Go.Ev.SL.d (Go.Ev.DL.int Go.IntKind.i64 b.1), Go.Ev.SL.d (Go.Ev.DL.lst (38 : Nat) b.2.1)], Go.Ev.SV.one (Go.Ev.SL.d (Go.Ev.DL.int Go.IntKind.i64 b.2.2))], [])
def retK28 {R : Type} (K : CSt → Option R) : o28 → Option R := fun b => K (([Go.Ev.SV.agg [Go.Ev.SL.d (Go.Ev.DL.int Go.IntKind.i64 b.1), Go.Ev.SL.d (Go.Ev.DL.lst (38 : Nat) b.2.1)], Go.Ev.SV.one (Go.Ev.SL.d (Go.Ev.DL.int Go.IntKind.i64 b.2.2))], []))
theorem retK28_eq {R : Type} (K : CSt → Option R) (b : o28) : retK28 K b = K (ret28 b) := rfl
abbrev Sd28 (f : i28 → Option o28) : Prop := ∀ a b, f a = some b → CallOk Try.prog 28 (enc28 a) (ret28 b)
def ent28 (f : i28 → Option o28) : Ent := mkEnt 28 dec28 ret28 retK28 retK28_eq f
def ann28 : Nat → List Nat × List Nat := fun id => ([], [])
def br28 : FuncId → Bool := fun (g : Nat) => false
noncomputable def t28 {R : Type} (sh : Sh) (f23 : i23 → Option o23) (f35 : i35 → Option o35) (f32 : i32 → Option o32) (f36 : i36 → Option o36) (x1 : Int) (x2 : Rows) (x3 : Int) (x4 : Int) (x5 : Int) (x6 : Int) (x7 : Int) (k : o28 → Option R) : Option R :=
  sh ([] : Rows) fun y1 =>
  (f23 (x1, x2)).bind fun (r2 : Bool) =>
  bif !r2 then
    sh ([] : Rows) fun y3 =>
    k (((0 : Int), y3, (1 : Int)))
  else
    (f35 (x6, x7)).bind fun (r4 : Bool) =>
    bif !r4 then
      sh ([] : Rows) fun y5 =>
      k (((0 : Int), y5, (1 : Int)))
    else
      (f32 (x1, x2, x3)).bind fun (r6 : Int) =>
      bif Decidable.decide (r6 < (0 : Int)) then
        sh ([] : Rows) fun y7 =>
        k (((0 : Int), y7, (102 : Int)))
      else
        bif Decidable.decide ((0 : Int) ≤ r6 ∧ r6 < (↑(List.length x2) : Int)) then
          sh (Go.Ev.DL.getI (Go.Ev.cellAt x2 (Int.toNat r6) (1 : Nat))) fun y8 =>
          bif y8 != x4 then
            sh ([] : Rows) fun y9 =>
            k (((0 : Int), y9, (102 : Int)))
          else
            bif Decidable.decide ((0 : Int) ≤ r6 ∧ r6 < (↑(List.length x2) : Int)) then
              sh (Go.Ev.DL.getI (Go.Ev.cellAt x2 (Int.toNat r6) (2 : Nat))) fun y10 =>
              bif y10 != x5 then
                sh ([] : Rows) fun y11 =>
                k (((0 : Int), y11, (102 : Int)))
              else
                bif Decidable.decide ((0 : Int) ≤ r6 ∧ r6 < (↑(List.length x2) : Int)) then
                  sh (Go.Ev.DL.getI (Go.Ev.cellAt x2 (Int.toNat r6) (3 : Nat))) fun y12 =>
                  bif Decidable.decide (x6 ≥ y12) then
                    sh ([] : Rows) fun y13 =>
                    k (((0 : Int), y13, (102 : Int)))
                  else
                    bif Decidable.decide ((0 : Int) ≤ r6 ∧ r6 < (↑(List.length x2) : Int)) then
                      sh (Go.IntKind.wrap Go.IntKind.i64 (x6 + x7)) fun y14 =>
                      sh (if y14 > Go.Ev.DL.getI (Go.Ev.cellAt x2 (Int.toNat r6) (3 : Nat)) then y14 else Go.Ev.DL.getI (Go.Ev.cellAt x2 (Int.toNat r6) (3 : Nat))) fun y15 =>
                      (f36 (x1, x2, Go.Ev.DL.getI (Go.Ev.cellAt x2 (Int.toNat r6) (0 : Nat)), Go.Ev.DL.getI (Go.Ev.cellAt x2 (Int.toNat r6) (1 : Nat)), Go.Ev.DL.getI (Go.Ev.cellAt x2 (Int.toNat r6) (2 : Nat)), y15, x1)).bind fun (r16 : Int × Rows) =>
                      k ((Prod.fst r16, Prod.snd r16, (0 : Int)))
                    else none
                else none
            else none
        else none
theorem t28_eq {R : Type} (sh : Sh) (hsh : ∀ {α R : Type} (x : α) (K : α → Option R), sh x K = K x) (f23 : i23 → Option o23) (f35 : i35 → Option o35) (f32 : i32 → Option o32) (f36 : i36 → Option o36) (x1 : Int) (x2 : Rows) (x3 : Int) (x4 : Int) (x5 : Int) (x6 : Int) (x7 : Int) (K : CSt → Option R) : bodyK Try.prog (tabO sh hsh br28 [ent23 f23, ent35 f35, ent32 f32, ent36 f36]) (tabL []) ann28 false Try.f28 (enc28 (x1, x2, x3, x4, x5, x6, x7)) K = t28 sh f23 f35 f32 f36 x1 x2 x3 x4 x5 x6 x7 (retK28 K) := by kernel_rfl
theorem t28_law {R : Type} (f23 : i23 → Option o23) (f35 : i35 → Option o35) (f32 : i32 → Option o32) (f36 : i36 → Option o36) (x1 : Int) (x2 : Rows) (x3 : Int) (x4 : Int) (x5 : Int) (x6 : Int) (x7 : Int) (K : o28 → Option R) : t28 sh0 f23 f35 f32 f36 x1 x2 x3 x4 x5 x6 x7 K = (t28 sh0 f23 f35 f32 f36 x1 x2 x3 x4 x5 x6 x7 some).bind K := by
  simp only [t28, sh0, cond_bind', two_bind, none_bind', Option.bind_assoc, Option.bind_some]
theorem ok28 (f23 : i23 → Option o23) (f35 : i35 → Option o35) (f32 : i32 → Option o32) (f36 : i36 → Option o36) (hf23 : Sd23 f23) (hf35 : Sd35 f35) (hf32 : Sd32 f32) (hf36 : Sd36 f36) : Sd28 (fun a => t28 sh0 f23 f35 f32 f36 a.1 a.2.1 a.2.2.1 a.2.2.2.1 a.2.2.2.2.1 a.2.2.2.2.2.1 a.2.2.2.2.2.2 some) := by
  intro a b h
  refine call_ok (sh := sh0) (hsh := fun _ _ => rfl) (br := br28) (own := false) Try.mixed Try.func28 (by kernel_rfl) (.cons (mkEnt_ok hf23) (.cons (mkEnt_ok hf35) (.cons (mkEnt_ok hf32) (.cons (mkEnt_ok hf36) .nil)))) (fun nt => .nil) ((t28_eq sh0 (fun _ _ => rfl) f23 f35 f32 f36 a.1 a.2.1 a.2.2.1 a.2.2.2.1 a.2.2.2.2.1 a.2.2.2.2.2.1 a.2.2.2.2.2.2 _).trans ?_)
  rw [t28_law]
  simp only at h
  rw [h, Option.bind_some, retK28_eq]

/-! 29 erasure/erasureref34.Release -/
abbrev i29 : Type := Int × Rows × Int × Int × Int
def enc29 : i29 → CSt := fun a => ([Go.Ev.SV.agg [Go.Ev.SL.d (Go.Ev.DL.int Go.IntKind.i64 a.1), Go.Ev.SL.d (Go.Ev.DL.lst (38 : Nat) a.2.1)], Go.Ev.SV.one (Go.Ev.SL.d (Go.Ev.DL.int Go.IntKind.i64 a.2.2.1)), Go.Ev.SV.one (Go.Ev.SL.d (Go.Ev.DL.int Go.IntKind.i64 a.2.2.2.1)), Go.Ev.SV.one (Go.Ev.SL.d (Go.Ev.DL.int Go.IntKind.i64 a.2.2.2.2))], [])
def dec29 : (c : CSt) → Option { a : i29 // c = enc29 a }
  | ([Go.Ev.SV.agg [Go.Ev.SL.d (Go.Ev.DL.int Go.IntKind.i64 x1), Go.Ev.SL.d (Go.Ev.DL.lst (38 : Nat) x2)], Go.Ev.SV.one (Go.Ev.SL.d (Go.Ev.DL.int Go.IntKind.i64 x3)), Go.Ev.SV.one (Go.Ev.SL.d (Go.Ev.DL.int Go.IntKind.i64 x4)), Go.Ev.SV.one (Go.Ev.SL.d (Go.Ev.DL.int Go.IntKind.i64 x5))], []) => some ⟨(x1, x2, x3, x4, x5), rfl⟩
  | _ => none
abbrev o29 : Type := Int × Rows × Int
def ret29 : o29 → CSt := fun b => ([Go.Ev.SV.agg [Go.Ev.SL.d (Go.Ev.DL.int Go.IntKind.i64 b.1), Go.Ev.SL.d (Go.Ev.DL.lst (38 : Nat) b.2.1)], Go.Ev.SV.one (Go.Ev.SL.d (Go.Ev.DL.int Go.IntKind.i64 b.2.2))], [])
def retK29 {R : Type} (K : CSt → Option R) : o29 → Option R := fun b => K (([Go.Ev.SV.agg [Go.Ev.SL.d (Go.Ev.DL.int Go.IntKind.i64 b.1), Go.Ev.SL.d (Go.Ev.DL.lst (38 : Nat) b.2.1)], Go.Ev.SV.one (Go.Ev.SL.d (Go.Ev.DL.int Go.IntKind.i64 b.2.2))], []))
theorem retK29_eq {R : Type} (K : CSt → Option R) (b : o29) : retK29 K b = K (ret29 b) := rfl
abbrev Sd29 (f : i29 → Option o29) : Prop := ∀ a b, f a = some b → CallOk Try.prog 29 (enc29 a) (ret29 b)
def ent29 (f : i29 → Option o29) : Ent := mkEnt 29 dec29 ret29 retK29 retK29_eq f
def ann29 : Nat → List Nat × List Nat := fun id => ([], [])
def br29 : FuncId → Bool := fun (g : Nat) => false
noncomputable def t29 {R : Type} (sh : Sh) (f23 : i23 → Option o23) (f32 : i32 → Option o32) (f37 : i37 → Option o37) (x1 : Int) (x2 : Rows) (x3 : Int) (x4 : Int) (x5 : Int) (k : o29 → Option R) : Option R :=
  sh ([] : Rows) fun y1 =>
  (f23 (x1, x2)).bind fun (r2 : Bool) =>
  bif !r2 then
    sh ([] : Rows) fun y3 =>
    k (((0 : Int), y3, (1 : Int)))
  else
    (f32 (x1, x2, x3)).bind fun (r4 : Int) =>
    bif Decidable.decide (r4 < (0 : Int)) then
      sh ([] : Rows) fun y5 =>
      k (((0 : Int), y5, (102 : Int)))
    else
      bif Decidable.decide ((0 : Int) ≤ r4 ∧ r4 < (↑(List.length x2) : Int)) then
        sh (Go.Ev.DL.getI (Go.Ev.cellAt x2 (Int.toNat r4) (1 : Nat))) fun y6 =>
        bif y6 != x4 then
          sh ([] : Rows) fun y7 =>
          k (((0 : Int), y7, (102 : Int)))
        else
          bif Decidable.decide ((0 : Int) ≤ r4 ∧ r4 < (↑(List.length x2) : Int)) then
            sh (Go.Ev.DL.getI (Go.Ev.cellAt x2 (Int.toNat r4) (2 : Nat))) fun y8 =>
            bif y8 != x5 then
              sh ([] : Rows) fun y9 =>
              k (((0 : Int), y9, (102 : Int)))
            else
              (f37 (x2, x3)).bind fun (r10 : Rows) =>
              k ((x1, r10, (0 : Int)))
          else none
      else none
theorem t29_eq {R : Type} (sh : Sh) (hsh : ∀ {α R : Type} (x : α) (K : α → Option R), sh x K = K x) (f23 : i23 → Option o23) (f32 : i32 → Option o32) (f37 : i37 → Option o37) (x1 : Int) (x2 : Rows) (x3 : Int) (x4 : Int) (x5 : Int) (K : CSt → Option R) : bodyK Try.prog (tabO sh hsh br29 [ent23 f23, ent32 f32, ent37 f37]) (tabL []) ann29 false Try.f29 (enc29 (x1, x2, x3, x4, x5)) K = t29 sh f23 f32 f37 x1 x2 x3 x4 x5 (retK29 K) := by kernel_rfl
theorem t29_law {R : Type} (f23 : i23 → Option o23) (f32 : i32 → Option o32) (f37 : i37 → Option o37) (x1 : Int) (x2 : Rows) (x3 : Int) (x4 : Int) (x5 : Int) (K : o29 → Option R) : t29 sh0 f23 f32 f37 x1 x2 x3 x4 x5 K = (t29 sh0 f23 f32 f37 x1 x2 x3 x4 x5 some).bind K := by
  simp only [t29, sh0, cond_bind', two_bind, none_bind', Option.bind_assoc, Option.bind_some]
theorem ok29 (f23 : i23 → Option o23) (f32 : i32 → Option o32) (f37 : i37 → Option o37) (hf23 : Sd23 f23) (hf32 : Sd32 f32) (hf37 : Sd37 f37) : Sd29 (fun a => t29 sh0 f23 f32 f37 a.1 a.2.1 a.2.2.1 a.2.2.2.1 a.2.2.2.2 some) := by
  intro a b h
  refine call_ok (sh := sh0) (hsh := fun _ _ => rfl) (br := br29) (own := false) Try.mixed Try.func29 (by kernel_rfl) (.cons (mkEnt_ok hf23) (.cons (mkEnt_ok hf32) (.cons (mkEnt_ok hf37) .nil))) (fun nt => .nil) ((t29_eq sh0 (fun _ _ => rfl) f23 f32 f37 a.1 a.2.1 a.2.2.1 a.2.2.2.1 a.2.2.2.2 _).trans ?_)
  rw [t29_law]
  simp only at h
  rw [h, Option.bind_some, retK29_eq]

/-! 30 erasure/erasureref34.Expire -/
abbrev i30 : Type := Int × Rows × Int
def enc30 : i30 → CSt := fun a => ([Go.Ev.SV.agg [Go.Ev.SL.d (Go.Ev.DL.int Go.IntKind.i64 a.1), Go.Ev.SL.d (Go.Ev.DL.lst (38 : Nat) a.2.1)], Go.Ev.SV.one (Go.Ev.SL.d (Go.Ev.DL.int Go.IntKind.i64 a.2.2))], [])
def dec30 : (c : CSt) → Option { a : i30 // c = enc30 a }
  | ([Go.Ev.SV.agg [Go.Ev.SL.d (Go.Ev.DL.int Go.IntKind.i64 x1), Go.Ev.SL.d (Go.Ev.DL.lst (38 : Nat) x2)], Go.Ev.SV.one (Go.Ev.SL.d (Go.Ev.DL.int Go.IntKind.i64 x3))], []) => some ⟨(x1, x2, x3), rfl⟩
  | _ => none
abbrev o30 : Type := Int × Rows
def ret30 : o30 → CSt := fun b => ([Go.Ev.SV.agg [Go.Ev.SL.d (Go.Ev.DL.int Go.IntKind.i64 b.1), Go.Ev.SL.d (Go.Ev.DL.lst (38 : Nat) b.2)]], [])
def retK30 {R : Type} (K : CSt → Option R) : o30 → Option R := fun b => K (([Go.Ev.SV.agg [Go.Ev.SL.d (Go.Ev.DL.int Go.IntKind.i64 b.1), Go.Ev.SL.d (Go.Ev.DL.lst (38 : Nat) b.2)]], []))
theorem retK30_eq {R : Type} (K : CSt → Option R) (b : o30) : retK30 K b = K (ret30 b) := rfl
abbrev Sd30 (f : i30 → Option o30) : Prop := ∀ a b, f a = some b → CallOk Try.prog 30 (enc30 a) (ret30 b)
def ent30 (f : i30 → Option o30) : Ent := mkEnt 30 dec30 ret30 retK30 retK30_eq f
def ann30 : Nat → List Nat × List Nat := fun id => bif Nat.beq id 5 then ([1, 2, 4, 5, 6], [4, 5]) else ([], [])
def br30 : FuncId → Bool := fun (g : Nat) => false
abbrev iL30_5 : Type := Int × Int × Int × Rows × Int × Int × Rows × Rows
def encL30_5 : iL30_5 → CSt := fun a => ([Go.Ev.SV.one (Go.Ev.SL.d (Go.Ev.DL.int Go.IntKind.i64 a.1)), Go.Ev.SV.one (Go.Ev.SL.ptr (0 : Nat) (0 : Nat)), Go.Ev.SV.one (Go.Ev.SL.ptr (1 : Nat) (0 : Nat)), Go.Ev.SV.one (Go.Ev.SL.ptr (2 : Nat) (0 : Nat)), Go.Ev.SV.one (Go.Ev.SL.d (Go.Ev.DL.int Go.IntKind.i64 a.2.1))], [Go.Ev.Obj.box (24 : Nat) [Go.Ev.SL.d (Go.Ev.DL.int Go.IntKind.i64 a.2.2.1), Go.Ev.SL.d (Go.Ev.DL.lst (38 : Nat) a.2.2.2.1)], Go.Ev.Obj.box (24 : Nat) [Go.Ev.SL.d (Go.Ev.DL.int Go.IntKind.i64 a.2.2.2.2.1), Go.Ev.SL.vr (3 : Nat)], Go.Ev.Obj.box (24 : Nat) [Go.Ev.SL.d (Go.Ev.DL.int Go.IntKind.i64 a.2.2.2.2.2.1), Go.Ev.SL.vr (4 : Nat)], Go.Ev.Obj.vec (38 : Nat) Bool.false a.2.2.2.2.2.2.1, Go.Ev.Obj.vec (38 : Nat) Bool.false a.2.2.2.2.2.2.2])
def decL30_5 : (c : CSt) → Option { a : iL30_5 // c = encL30_5 a }
  | ([Go.Ev.SV.one (Go.Ev.SL.d (Go.Ev.DL.int Go.IntKind.i64 x1)), Go.Ev.SV.one (Go.Ev.SL.ptr (0 : Nat) (0 : Nat)), Go.Ev.SV.one (Go.Ev.SL.ptr (1 : Nat) (0 : Nat)), Go.Ev.SV.one (Go.Ev.SL.ptr (2 : Nat) (0 : Nat)), Go.Ev.SV.one (Go.Ev.SL.d (Go.Ev.DL.int Go.IntKind.i64 x2))], [Go.Ev.Obj.box (24 : Nat) [Go.Ev.SL.d (Go.Ev.DL.int Go.IntKind.i64 x3), Go.Ev.SL.d (Go.Ev.DL.lst (38 : Nat) x4)], Go.Ev.Obj.box (24 : Nat) [Go.Ev.SL.d (Go.Ev.DL.int Go.IntKind.i64 x5), Go.Ev.SL.vr (3 : Nat)], Go.Ev.Obj.box (24 : Nat) [Go.Ev.SL.d (Go.Ev.DL.int Go.IntKind.i64 x6), Go.Ev.SL.vr (4 : Nat)], Go.Ev.Obj.vec (38 : Nat) Bool.false x7, Go.Ev.Obj.vec (38 : Nat) Bool.false x8]) => some ⟨(x1, x2, x3, x4, x5, x6, x7, x8), rfl⟩
  | _ => none
abbrev oL30_5 : Type := Int × Int × Rows × Rows
def retL30_5 : oL30_5 → Ex × CSt := fun b => (Go.Ev.Ex.exit (0 : Nat), ([Go.Ev.SV.one (Go.Ev.SL.ptr (0 : Nat) (0 : Nat)), Go.Ev.SV.one (Go.Ev.SL.ptr (1 : Nat) (0 : Nat))], [Go.Ev.Obj.box (24 : Nat) [Go.Ev.SL.d (Go.Ev.DL.int Go.IntKind.i64 b.1), Go.Ev.SL.vr (2 : Nat)], Go.Ev.Obj.box (24 : Nat) [Go.Ev.SL.d (Go.Ev.DL.int Go.IntKind.i64 b.2.1), Go.Ev.SL.vr (3 : Nat)], Go.Ev.Obj.vec (38 : Nat) Bool.false b.2.2.1, Go.Ev.Obj.vec (38 : Nat) Bool.false b.2.2.2]))
def retKL30_5 {R : Type} (K : Ex → CSt → Option R) : oL30_5 → Option R := fun b => K (Go.Ev.Ex.exit (0 : Nat)) (([Go.Ev.SV.one (Go.Ev.SL.ptr (0 : Nat) (0 : Nat)), Go.Ev.SV.one (Go.Ev.SL.ptr (1 : Nat) (0 : Nat))], [Go.Ev.Obj.box (24 : Nat) [Go.Ev.SL.d (Go.Ev.DL.int Go.IntKind.i64 b.1), Go.Ev.SL.vr (2 : Nat)], Go.Ev.Obj.box (24 : Nat) [Go.Ev.SL.d (Go.Ev.DL.int Go.IntKind.i64 b.2.1), Go.Ev.SL.vr (3 : Nat)], Go.Ev.Obj.vec (38 : Nat) Bool.false b.2.2.1, Go.Ev.Obj.vec (38 : Nat) Bool.false b.2.2.2]))
theorem retKL30_5_eq {R : Type} (K : Ex → CSt → Option R) (b : oL30_5) : retKL30_5 K b = K (retL30_5 b).1 (retL30_5 b).2 := rfl
def entL30_5 (l : iL30_5 → Option oL30_5) : LEnt := mkLEnt 5 decL30_5 retL30_5 retKL30_5 retKL30_5_eq l
abbrev SdL30_5 (l : iL30_5 → Option oL30_5) : Prop := ∀ nt a b, l a = some b → LoopAt Try.prog nt 0 ann30 Try.f30 5 (encL30_5 a) (retL30_5 b)
noncomputable def u30_5 {R : Type} (sh : Sh) (l30_5 : iL30_5 → Option oL30_5) (x1 : Int) (x2 : Int) (x3 : Int) (x4 : Rows) (x5 : Int) (x6 : Int) (x7 : Rows) (x8 : Rows) (k : oL30_5 → Option R) : Option R :=
  sh ((↑(List.length x4) : Int)) fun y6 =>
  bif Decidable.decide (x2 < y6) then
    bif Decidable.decide ((0 : Int) ≤ x2 ∧ x2 < (↑(List.length x4) : Int)) then
      sh (Go.Ev.DL.getI (Go.Ev.cellAt x4 (Int.toNat x2) (3 : Nat))) fun y7 =>
      bif Decidable.decide (x1 < y7) then
        bif Decidable.decide ((0 : Int) ≤ x2 ∧ x2 < (↑(List.length x4) : Int)) then
          sh ([[Go.Ev.DL.int Go.IntKind.i64 (Go.Ev.DL.getI (Go.Ev.cellAt x4 (Int.toNat x2) (0 : Nat))), Go.Ev.DL.int Go.IntKind.i64 (Go.Ev.DL.getI (Go.Ev.cellAt x4 (Int.toNat x2) (1 : Nat))), Go.Ev.DL.int Go.IntKind.i64 (Go.Ev.DL.getI (Go.Ev.cellAt x4 (Int.toNat x2) (2 : Nat))), Go.Ev.DL.int Go.IntKind.i64 (Go.Ev.DL.getI (Go.Ev.cellAt x4 (Int.toNat x2) (3 : Nat)))]] : Rows) fun y8 =>
          bif Go.Ev.roomE Go.Proofs.Try.prog (38 : Nat) (List.length x8 + List.length y8) then
            sh (x8 ++ y8 : Rows) fun y9 =>
            sh (Go.IntKind.wrap Go.IntKind.i64 (x2 + (1 : Int))) fun y10 =>
            (l30_5 (x1, y10, x3, x4, x5, x6, x7, y9)).bind k
          else none
        else none
      else
        sh (Go.IntKind.wrap Go.IntKind.i64 (x2 + (1 : Int))) fun y11 =>
        (l30_5 (x1, y11, x3, x4, x5, x6, x7, x8)).bind k
    else none
  else
    k ((x5, x6, x7, x8))
theorem u30_5_eq {R : Type} (sh : Sh) (hsh : ∀ {α R : Type} (x : α) (K : α → Option R), sh x K = K x) (l30_5 : iL30_5 → Option oL30_5) (x1 : Int) (x2 : Int) (x3 : Int) (x4 : Rows) (x5 : Int) (x6 : Int) (x7 : Rows) (x8 : Rows) (K : Ex → CSt → Option R) : roundK Try.prog (tabO sh hsh br30 []) (tabL [entL30_5 l30_5]) ann30 0 Try.f30 5 (encL30_5 (x1, x2, x3, x4, x5, x6, x7, x8)) K = u30_5 sh l30_5 x1 x2 x3 x4 x5 x6 x7 x8 (retKL30_5 K) := by kernel_rfl
theorem u30_5_law {R : Type} (l30_5 : iL30_5 → Option oL30_5) (x1 : Int) (x2 : Int) (x3 : Int) (x4 : Rows) (x5 : Int) (x6 : Int) (x7 : Rows) (x8 : Rows) (K : oL30_5 → Option R) : u30_5 sh0 l30_5 x1 x2 x3 x4 x5 x6 x7 x8 K = (u30_5 sh0 l30_5 x1 x2 x3 x4 x5 x6 x7 x8 some).bind K := by
  simp only [u30_5, sh0, cond_bind', two_bind, none_bind', Option.bind_assoc, Option.bind_some]
theorem okL30_5 (l30_5 : iL30_5 → Option oL30_5) (hl30_5 : SdL30_5 l30_5) : SdL30_5 (fun a => u30_5 sh0 l30_5 a.1 a.2.1 a.2.2.1 a.2.2.2.1 a.2.2.2.2.1 a.2.2.2.2.2.1 a.2.2.2.2.2.2.1 a.2.2.2.2.2.2.2 some) := by
  intro nt a b h
  refine round_ok (sh := sh0) (hsh := fun _ _ => rfl) (br := br30) Try.mixed (by kernel_rfl) .nil (.cons (mkLEnt_ok (hl30_5 nt)) .nil) ((u30_5_eq sh0 (fun _ _ => rfl) l30_5  a.1 a.2.1 a.2.2.1 a.2.2.2.1 a.2.2.2.2.1 a.2.2.2.2.2.1 a.2.2.2.2.2.2.1 a.2.2.2.2.2.2.2 _).trans ?_)
  rw [u30_5_law]
  simp only at h
  rw [h, Option.bind_some, retKL30_5_eq]
noncomputable def t30 {R : Type} (sh : Sh) (f23 : i23 → Option o23) (l30_5 : iL30_5 → Option oL30_5) (x1 : Int) (x2 : Rows) (x3 : Int) (k : o30 → Option R) : Option R :=
  sh ([] : Rows) fun y1 =>
  (f23 (x1, x2)).bind fun (r2 : Bool) =>
  bif !r2 then
    sh ([] : Rows) fun y3 =>
    k (((0 : Int), y3))
  else
    sh ([] : Rows) fun y4 =>
    sh ([] : Rows) fun y5 =>
    (l30_5 (x3, (0 : Int), x1, x2, (0 : Int), x1, y1, y5)).bind fun (r12 : Int × Int × Rows × Rows) =>
    k ((Prod.fst r12.2, Prod.snd (Prod.snd r12).2))
theorem t30_eq {R : Type} (sh : Sh) (hsh : ∀ {α R : Type} (x : α) (K : α → Option R), sh x K = K x) (f23 : i23 → Option o23) (l30_5 : iL30_5 → Option oL30_5) (x1 : Int) (x2 : Rows) (x3 : Int) (K : CSt → Option R) : bodyK Try.prog (tabO sh hsh br30 [ent23 f23]) (tabL [entL30_5 l30_5]) ann30 false Try.f30 (enc30 (x1, x2, x3)) K = t30 sh f23 l30_5 x1 x2 x3 (retK30 K) := by kernel_rfl
theorem t30_law {R : Type} (f23 : i23 → Option o23) (l30_5 : iL30_5 → Option oL30_5) (x1 : Int) (x2 : Rows) (x3 : Int) (K : o30 → Option R) : t30 sh0 f23 l30_5 x1 x2 x3 K = (t30 sh0 f23 l30_5 x1 x2 x3 some).bind K := by
  simp only [t30, sh0, cond_bind', two_bind, none_bind', Option.bind_assoc, Option.bind_some]
theorem ok30 (f23 : i23 → Option o23) (l30_5 : iL30_5 → Option oL30_5) (hf23 : Sd23 f23) (hl30_5 : SdL30_5 l30_5) : Sd30 (fun a => t30 sh0 f23 l30_5 a.1 a.2.1 a.2.2 some) := by
  intro a b h
  refine call_ok (sh := sh0) (hsh := fun _ _ => rfl) (br := br30) (own := false) Try.mixed Try.func30 (by kernel_rfl) (.cons (mkEnt_ok hf23) .nil) (fun nt => (.cons (mkLEnt_ok (hl30_5 nt)) .nil)) ((t30_eq sh0 (fun _ _ => rfl) f23 l30_5 a.1 a.2.1 a.2.2 _).trans ?_)
  rw [t30_law]
  simp only at h
  rw [h, Option.bind_some, retK30_eq]

/-! 14 erasure/erasurelaw34.made -/
abbrev i14 : Type := Rows
def enc14 : i14 → CSt := fun a => ([Go.Ev.SV.one (Go.Ev.SL.d (Go.Ev.DL.lst (35 : Nat) a))], [])
def dec14 : (c : CSt) → Option { a : i14 // c = enc14 a }
  | ([Go.Ev.SV.one (Go.Ev.SL.d (Go.Ev.DL.lst (35 : Nat) x1))], []) => some ⟨x1, rfl⟩
  | _ => none
abbrev o14 : Type := Int × Rows
def ret14 : o14 → CSt := fun b => ([Go.Ev.SV.agg [Go.Ev.SL.d (Go.Ev.DL.int Go.IntKind.i64 b.1), Go.Ev.SL.d (Go.Ev.DL.lst (38 : Nat) b.2)]], [])
def retK14 {R : Type} (K : CSt → Option R) : o14 → Option R := fun b => K (([Go.Ev.SV.agg [Go.Ev.SL.d (Go.Ev.DL.int Go.IntKind.i64 b.1), Go.Ev.SL.d (Go.Ev.DL.lst (38 : Nat) b.2)]], []))
theorem retK14_eq {R : Type} (K : CSt → Option R) (b : o14) : retK14 K b = K (ret14 b) := rfl
abbrev Sd14 (f : i14 → Option o14) : Prop := ∀ a b, f a = some b → CallOk Try.prog 14 (enc14 a) (ret14 b)
def ent14 (f : i14 → Option o14) : Ent := mkEnt 14 dec14 ret14 retK14 retK14_eq f
def ann14 : Nat → List Nat × List Nat := fun id => bif Nat.beq id 3 then ([0, 2, 3, 4], [2, 3]) else ([], [])
def br14 : FuncId → Bool := fun (g : Nat) => false
abbrev iL14_3 : Type := Rows × Int × Int × Int × Rows × Rows
def encL14_3 : iL14_3 → CSt := fun a => ([Go.Ev.SV.one (Go.Ev.SL.d (Go.Ev.DL.lst (35 : Nat) a.1)), Go.Ev.SV.one (Go.Ev.SL.ptr (0 : Nat) (0 : Nat)), Go.Ev.SV.one (Go.Ev.SL.ptr (1 : Nat) (0 : Nat)), Go.Ev.SV.one (Go.Ev.SL.d (Go.Ev.DL.int Go.IntKind.i64 a.2.1))], [Go.Ev.Obj.box (24 : Nat) [Go.Ev.SL.d (Go.Ev.DL.int Go.IntKind.i64 a.2.2.1), Go.Ev.SL.vr (2 : Nat)], Go.Ev.Obj.box (24 : Nat) [Go.Ev.SL.d (Go.Ev.DL.int Go.IntKind.i64 a.2.2.2.1), Go.Ev.SL.d (Go.Ev.DL.lst (38 : Nat) a.2.2.2.2.1)], Go.Ev.Obj.vec (38 : Nat) Bool.false a.2.2.2.2.2])
def decL14_3 : (c : CSt) → Option { a : iL14_3 // c = encL14_3 a }
  | ([Go.Ev.SV.one (Go.Ev.SL.d (Go.Ev.DL.lst (35 : Nat) x1)), Go.Ev.SV.one (Go.Ev.SL.ptr (0 : Nat) (0 : Nat)), Go.Ev.SV.one (Go.Ev.SL.ptr (1 : Nat) (0 : Nat)), Go.Ev.SV.one (Go.Ev.SL.d (Go.Ev.DL.int Go.IntKind.i64 x2))], [Go.Ev.Obj.box (24 : Nat) [Go.Ev.SL.d (Go.Ev.DL.int Go.IntKind.i64 x3), Go.Ev.SL.vr (2 : Nat)], Go.Ev.Obj.box (24 : Nat) [Go.Ev.SL.d (Go.Ev.DL.int Go.IntKind.i64 x4), Go.Ev.SL.d (Go.Ev.DL.lst (38 : Nat) x5)], Go.Ev.Obj.vec (38 : Nat) Bool.false x6]) => some ⟨(x1, x2, x3, x4, x5, x6), rfl⟩
  | _ => none
abbrev oL14_3 : Type := Int × Int × Rows × Rows
def retL14_3 : oL14_3 → Ex × CSt := fun b => (Go.Ev.Ex.exit (0 : Nat), ([Go.Ev.SV.one (Go.Ev.SL.ptr (0 : Nat) (0 : Nat)), Go.Ev.SV.one (Go.Ev.SL.ptr (1 : Nat) (0 : Nat))], [Go.Ev.Obj.box (24 : Nat) [Go.Ev.SL.d (Go.Ev.DL.int Go.IntKind.i64 b.1), Go.Ev.SL.vr (2 : Nat)], Go.Ev.Obj.box (24 : Nat) [Go.Ev.SL.d (Go.Ev.DL.int Go.IntKind.i64 b.2.1), Go.Ev.SL.d (Go.Ev.DL.lst (38 : Nat) b.2.2.1)], Go.Ev.Obj.vec (38 : Nat) Bool.false b.2.2.2]))
def retKL14_3 {R : Type} (K : Ex → CSt → Option R) : oL14_3 → Option R := fun b => K (Go.Ev.Ex.exit (0 : Nat)) (([Go.Ev.SV.one (Go.Ev.SL.ptr (0 : Nat) (0 : Nat)), Go.Ev.SV.one (Go.Ev.SL.ptr (1 : Nat) (0 : Nat))], [Go.Ev.Obj.box (24 : Nat) [Go.Ev.SL.d (Go.Ev.DL.int Go.IntKind.i64 b.1), Go.Ev.SL.vr (2 : Nat)], Go.Ev.Obj.box (24 : Nat) [Go.Ev.SL.d (Go.Ev.DL.int Go.IntKind.i64 b.2.1), Go.Ev.SL.d (Go.Ev.DL.lst (38 : Nat) b.2.2.1)], Go.Ev.Obj.vec (38 : Nat) Bool.false b.2.2.2]))
theorem retKL14_3_eq {R : Type} (K : Ex → CSt → Option R) (b : oL14_3) : retKL14_3 K b = K (retL14_3 b).1 (retL14_3 b).2 := rfl
def entL14_3 (l : iL14_3 → Option oL14_3) : LEnt := mkLEnt 3 decL14_3 retL14_3 retKL14_3 retKL14_3_eq l
abbrev SdL14_3 (l : iL14_3 → Option oL14_3) : Prop := ∀ nt a b, l a = some b → LoopAt Try.prog nt 0 ann14 Try.f14 3 (encL14_3 a) (retL14_3 b)
noncomputable def u14_3 {R : Type} (sh : Sh) (f27 : i27 → Option o27) (f28 : i28 → Option o28) (f29 : i29 → Option o29) (f30 : i30 → Option o30) (l14_3 : iL14_3 → Option oL14_3) (x1 : Rows) (x2 : Int) (x3 : Int) (x4 : Int) (x5 : Rows) (x6 : Rows) (k : oL14_3 → Option R) : Option R :=
  sh ((↑(List.length x1) : Int)) fun y4 =>
  bif Decidable.decide (x2 < y4) then
    bif Decidable.decide (x2 < (30 : Int)) then
      bif Decidable.decide ((0 : Int) ≤ x2 ∧ x2 < (↑(List.length x1) : Int)) then
        sh ([] : Rows) fun y5 =>
        sh (Go.IntKind.wrap Go.IntKind.i64 (↑(BitVec.toNat (BitVec.ofInt (64 : Nat) (Go.Ev.DL.getI (Go.Ev.cellAt x1 (Int.toNat x2) (0 : Nat))) &&& BitVec.ofInt (64 : Nat) (3 : Int))) : Int)) fun y6 =>
        bif y6 == (0 : Int) then
          (f27 (x4, x5, Go.Ev.DL.getI (Go.Ev.cellAt x1 (Int.toNat x2) (1 : Nat)), Go.Ev.DL.getI (Go.Ev.cellAt x1 (Int.toNat x2) (2 : Nat)), Go.Ev.DL.getI (Go.Ev.cellAt x1 (Int.toNat x2) (4 : Nat)), Go.Ev.DL.getI (Go.Ev.cellAt x1 (Int.toNat x2) (5 : Nat)))).bind fun (r7 : Int × Rows × Int × Int) =>
          bif Prod.snd (Prod.snd r7).2 == (0 : Int) then
            sh (Go.IntKind.wrap Go.IntKind.i64 (x2 + (1 : Int))) fun y8 =>
            (l14_3 (x1, y8, x3, Prod.fst r7, Prod.fst r7.2, x6)).bind k
          else
            sh (Go.IntKind.wrap Go.IntKind.i64 (x2 + (1 : Int))) fun y9 =>
            (l14_3 (x1, y9, x3, x4, x5, x6)).bind k
        else
          bif y6 == (1 : Int) then
            (f28 (x4, x5, Go.Ev.DL.getI (Go.Ev.cellAt x1 (Int.toNat x2) (1 : Nat)), Go.Ev.DL.getI (Go.Ev.cellAt x1 (Int.toNat x2) (2 : Nat)), Go.Ev.DL.getI (Go.Ev.cellAt x1 (Int.toNat x2) (3 : Nat)), Go.Ev.DL.getI (Go.Ev.cellAt x1 (Int.toNat x2) (4 : Nat)), Go.Ev.DL.getI (Go.Ev.cellAt x1 (Int.toNat x2) (5 : Nat)))).bind fun (r10 : Int × Rows × Int) =>
            bif Prod.snd r10.2 == (0 : Int) then
              sh (Go.IntKind.wrap Go.IntKind.i64 (x2 + (1 : Int))) fun y11 =>
              (l14_3 (x1, y11, x3, Prod.fst r10, Prod.fst r10.2, x6)).bind k
            else
              sh (Go.IntKind.wrap Go.IntKind.i64 (x2 + (1 : Int))) fun y12 =>
              (l14_3 (x1, y12, x3, x4, x5, x6)).bind k
          else
            bif y6 == (2 : Int) then
              (f29 (x4, x5, Go.Ev.DL.getI (Go.Ev.cellAt x1 (Int.toNat x2) (1 : Nat)), Go.Ev.DL.getI (Go.Ev.cellAt x1 (Int.toNat x2) (2 : Nat)), Go.Ev.DL.getI (Go.Ev.cellAt x1 (Int.toNat x2) (3 : Nat)))).bind fun (r13 : Int × Rows × Int) =>
              bif Prod.snd r13.2 == (0 : Int) then
                sh (Go.IntKind.wrap Go.IntKind.i64 (x2 + (1 : Int))) fun y14 =>
                (l14_3 (x1, y14, x3, Prod.fst r13, Prod.fst r13.2, x6)).bind k
              else
                sh (Go.IntKind.wrap Go.IntKind.i64 (x2 + (1 : Int))) fun y15 =>
                (l14_3 (x1, y15, x3, x4, x5, x6)).bind k
            else
              bif y6 == (3 : Int) then
                (f30 (x4, x5, Go.Ev.DL.getI (Go.Ev.cellAt x1 (Int.toNat x2) (4 : Nat)))).bind fun (r16 : Int × Rows) =>
                sh (Go.IntKind.wrap Go.IntKind.i64 (x2 + (1 : Int))) fun y17 =>
                (l14_3 (x1, y17, x3, Prod.fst r16, Prod.snd r16, x6)).bind k
              else
                sh (Go.IntKind.wrap Go.IntKind.i64 (x2 + (1 : Int))) fun y18 =>
                (l14_3 (x1, y18, x3, x4, x5, x6)).bind k
      else none
    else
      k ((x3, x4, x5, x6))
  else
    k ((x3, x4, x5, x6))
theorem u14_3_eq {R : Type} (sh : Sh) (hsh : ∀ {α R : Type} (x : α) (K : α → Option R), sh x K = K x) (f27 : i27 → Option o27) (f28 : i28 → Option o28) (f29 : i29 → Option o29) (f30 : i30 → Option o30) (l14_3 : iL14_3 → Option oL14_3) (x1 : Rows) (x2 : Int) (x3 : Int) (x4 : Int) (x5 : Rows) (x6 : Rows) (K : Ex → CSt → Option R) : roundK Try.prog (tabO sh hsh br14 [ent27 f27, ent28 f28, ent29 f29, ent30 f30]) (tabL [entL14_3 l14_3]) ann14 0 Try.f14 3 (encL14_3 (x1, x2, x3, x4, x5, x6)) K = u14_3 sh f27 f28 f29 f30 l14_3 x1 x2 x3 x4 x5 x6 (retKL14_3 K) := by kernel_rfl
theorem u14_3_law {R : Type} (f27 : i27 → Option o27) (f28 : i28 → Option o28) (f29 : i29 → Option o29) (f30 : i30 → Option o30) (l14_3 : iL14_3 → Option oL14_3) (x1 : Rows) (x2 : Int) (x3 : Int) (x4 : Int) (x5 : Rows) (x6 : Rows) (K : oL14_3 → Option R) : u14_3 sh0 f27 f28 f29 f30 l14_3 x1 x2 x3 x4 x5 x6 K = (u14_3 sh0 f27 f28 f29 f30 l14_3 x1 x2 x3 x4 x5 x6 some).bind K := by
  simp only [u14_3, sh0, cond_bind', two_bind, none_bind', Option.bind_assoc, Option.bind_some]
theorem okL14_3 (f27 : i27 → Option o27) (f28 : i28 → Option o28) (f29 : i29 → Option o29) (f30 : i30 → Option o30) (l14_3 : iL14_3 → Option oL14_3) (hf27 : Sd27 f27) (hf28 : Sd28 f28) (hf29 : Sd29 f29) (hf30 : Sd30 f30) (hl14_3 : SdL14_3 l14_3) : SdL14_3 (fun a => u14_3 sh0 f27 f28 f29 f30 l14_3 a.1 a.2.1 a.2.2.1 a.2.2.2.1 a.2.2.2.2.1 a.2.2.2.2.2 some) := by
  intro nt a b h
  refine round_ok (sh := sh0) (hsh := fun _ _ => rfl) (br := br14) Try.mixed (by kernel_rfl) (.cons (mkEnt_ok hf27) (.cons (mkEnt_ok hf28) (.cons (mkEnt_ok hf29) (.cons (mkEnt_ok hf30) .nil)))) (.cons (mkLEnt_ok (hl14_3 nt)) .nil) ((u14_3_eq sh0 (fun _ _ => rfl) f27 f28 f29 f30 l14_3  a.1 a.2.1 a.2.2.1 a.2.2.2.1 a.2.2.2.2.1 a.2.2.2.2.2 _).trans ?_)
  rw [u14_3_law]
  simp only at h
  rw [h, Option.bind_some, retKL14_3_eq]
noncomputable def t14 {R : Type} (sh : Sh) (f19 : i19 → Option o19) (l14_3 : iL14_3 → Option oL14_3) (x1 : Rows) (k : o14 → Option R) : Option R :=
  sh ([] : Rows) fun y1 =>
  (f19 ()).bind fun (r2 : Int × Rows) =>
  sh ([] : Rows) fun y3 =>
  (l14_3 (x1, (0 : Int), (0 : Int), Prod.fst r2, Prod.snd r2, y1)).bind fun (r19 : Int × Int × Rows × Rows) =>
  k ((Prod.fst r19.2, Prod.fst (Prod.snd r19).2))
theorem t14_eq {R : Type} (sh : Sh) (hsh : ∀ {α R : Type} (x : α) (K : α → Option R), sh x K = K x) (f19 : i19 → Option o19) (l14_3 : iL14_3 → Option oL14_3) (x1 : Rows) (K : CSt → Option R) : bodyK Try.prog (tabO sh hsh br14 [ent19 f19]) (tabL [entL14_3 l14_3]) ann14 false Try.f14 (enc14 x1) K = t14 sh f19 l14_3 x1 (retK14 K) := by kernel_rfl
theorem t14_law {R : Type} (f19 : i19 → Option o19) (l14_3 : iL14_3 → Option oL14_3) (x1 : Rows) (K : o14 → Option R) : t14 sh0 f19 l14_3 x1 K = (t14 sh0 f19 l14_3 x1 some).bind K := by
  simp only [t14, sh0, cond_bind', two_bind, none_bind', Option.bind_assoc, Option.bind_some]
theorem ok14 (f19 : i19 → Option o19) (l14_3 : iL14_3 → Option oL14_3) (hf19 : Sd19 f19) (hl14_3 : SdL14_3 l14_3) : Sd14 (fun a => t14 sh0 f19 l14_3 a some) := by
  intro a b h
  refine call_ok (sh := sh0) (hsh := fun _ _ => rfl) (br := br14) (own := false) Try.mixed Try.func14 (by kernel_rfl) (.cons (mkEnt_ok hf19) .nil) (fun nt => (.cons (mkLEnt_ok (hl14_3 nt)) .nil)) ((t14_eq sh0 (fun _ _ => rfl) f19 l14_3 a _).trans ?_)
  rw [t14_law]
  simp only at h
  rw [h, Option.bind_some, retK14_eq]

/-! 15 erasure/lease.Find -/
abbrev i15 : Type := Int × Rows × Int × Int
def enc15 : i15 → CSt := fun a => ([Go.Ev.SV.agg [Go.Ev.SL.d (Go.Ev.DL.int Go.IntKind.i64 a.1), Go.Ev.SL.d (Go.Ev.DL.lst (38 : Nat) a.2.1)], Go.Ev.SV.one (Go.Ev.SL.d (Go.Ev.DL.int Go.IntKind.i64 a.2.2.1)), Go.Ev.SV.one (Go.Ev.SL.d (Go.Ev.DL.int Go.IntKind.i64 a.2.2.2))], [])
def dec15 : (c : CSt) → Option { a : i15 // c = enc15 a }
  | ([Go.Ev.SV.agg [Go.Ev.SL.d (Go.Ev.DL.int Go.IntKind.i64 x1), Go.Ev.SL.d (Go.Ev.DL.lst (38 : Nat) x2)], Go.Ev.SV.one (Go.Ev.SL.d (Go.Ev.DL.int Go.IntKind.i64 x3)), Go.Ev.SV.one (Go.Ev.SL.d (Go.Ev.DL.int Go.IntKind.i64 x4))], []) => some ⟨(x1, x2, x3, x4), rfl⟩
  | _ => none
abbrev o15 : Type := Int × Int × Int × Int × Bool
def ret15 : o15 → CSt := fun b => ([Go.Ev.SV.agg [Go.Ev.SL.d (Go.Ev.DL.int Go.IntKind.i64 b.1), Go.Ev.SL.d (Go.Ev.DL.int Go.IntKind.i64 b.2.1), Go.Ev.SL.d (Go.Ev.DL.int Go.IntKind.i64 b.2.2.1), Go.Ev.SL.d (Go.Ev.DL.int Go.IntKind.i64 b.2.2.2.1)], Go.Ev.SV.one (Go.Ev.SL.d (Go.Ev.DL.bool b.2.2.2.2))], [])
def retK15 {R : Type} (K : CSt → Option R) : o15 → Option R := fun b => K (([Go.Ev.SV.agg [Go.Ev.SL.d (Go.Ev.DL.int Go.IntKind.i64 b.1), Go.Ev.SL.d (Go.Ev.DL.int Go.IntKind.i64 b.2.1), Go.Ev.SL.d (Go.Ev.DL.int Go.IntKind.i64 b.2.2.1), Go.Ev.SL.d (Go.Ev.DL.int Go.IntKind.i64 b.2.2.2.1)], Go.Ev.SV.one (Go.Ev.SL.d (Go.Ev.DL.bool b.2.2.2.2))], []))
theorem retK15_eq {R : Type} (K : CSt → Option R) (b : o15) : retK15 K b = K (ret15 b) := rfl
abbrev Sd15 (f : i15 → Option o15) : Prop := ∀ a b, f a = some b → CallOk Try.prog 15 (enc15 a) (ret15 b)
def ent15 (f : i15 → Option o15) : Ent := mkEnt 15 dec15 ret15 retK15 retK15_eq f
def ann15 : Nat → List Nat × List Nat := fun id => ([], [])
def br15 : FuncId → Bool := fun (g : Nat) => false
noncomputable def t15 {R : Type} (sh : Sh) (f16 : i16 → Option o16) (f25 : i25 → Option o25) (x1 : Int) (x2 : Rows) (x3 : Int) (x4 : Int) (k : o15 → Option R) : Option R :=
  (f16 (x1, x2)).bind fun (r1 : Bool) =>
  bif !r1 then
    k (((0 : Int), (0 : Int), (0 : Int), (0 : Int), Bool.false))
  else
    (f25 (x1, x2, x3)).bind fun (r2 : Int × Bool) =>
    bif !Prod.snd r2 then
      k (((0 : Int), (0 : Int), (0 : Int), (0 : Int), Bool.false))
    else
      bif Decidable.decide ((0 : Int) ≤ Prod.fst r2 ∧ Prod.fst r2 < (↑(List.length x2) : Int)) then
        sh (Go.Ev.DL.getI (Go.Ev.cellAt x2 (Int.toNat (Prod.fst r2)) (3 : Nat))) fun y3 =>
        bif Decidable.decide (x4 ≥ y3) then
          k (((0 : Int), (0 : Int), (0 : Int), (0 : Int), Bool.false))
        else
          bif Decidable.decide ((0 : Int) ≤ Prod.fst r2 ∧ Prod.fst r2 < (↑(List.length x2) : Int)) then
            k ((Go.Ev.DL.getI (Go.Ev.cellAt x2 (Int.toNat (Prod.fst r2)) (0 : Nat)), Go.Ev.DL.getI (Go.Ev.cellAt x2 (Int.toNat (Prod.fst r2)) (1 : Nat)), Go.Ev.DL.getI (Go.Ev.cellAt x2 (Int.toNat (Prod.fst r2)) (2 : Nat)), Go.Ev.DL.getI (Go.Ev.cellAt x2 (Int.toNat (Prod.fst r2)) (3 : Nat)), Bool.true))
          else none
      else none
theorem t15_eq {R : Type} (sh : Sh) (hsh : ∀ {α R : Type} (x : α) (K : α → Option R), sh x K = K x) (f16 : i16 → Option o16) (f25 : i25 → Option o25) (x1 : Int) (x2 : Rows) (x3 : Int) (x4 : Int) (K : CSt → Option R) : bodyK Try.prog (tabO sh hsh br15 [ent16 f16, ent25 f25]) (tabL []) ann15 false Try.f15 (enc15 (x1, x2, x3, x4)) K = t15 sh f16 f25 x1 x2 x3 x4 (retK15 K) := by kernel_rfl
theorem t15_law {R : Type} (f16 : i16 → Option o16) (f25 : i25 → Option o25) (x1 : Int) (x2 : Rows) (x3 : Int) (x4 : Int) (K : o15 → Option R) : t15 sh0 f16 f25 x1 x2 x3 x4 K = (t15 sh0 f16 f25 x1 x2 x3 x4 some).bind K := by
  simp only [t15, sh0, cond_bind', two_bind, none_bind', Option.bind_assoc, Option.bind_some]
theorem ok15 (f16 : i16 → Option o16) (f25 : i25 → Option o25) (hf16 : Sd16 f16) (hf25 : Sd25 f25) : Sd15 (fun a => t15 sh0 f16 f25 a.1 a.2.1 a.2.2.1 a.2.2.2 some) := by
  intro a b h
  refine call_ok (sh := sh0) (hsh := fun _ _ => rfl) (br := br15) (own := false) Try.mixed Try.func15 (by kernel_rfl) (.cons (mkEnt_ok hf16) (.cons (mkEnt_ok hf25) .nil)) (fun nt => .nil) ((t15_eq sh0 (fun _ _ => rfl) f16 f25 a.1 a.2.1 a.2.2.1 a.2.2.2 _).trans ?_)
  rw [t15_law]
  simp only at h
  rw [h, Option.bind_some, retK15_eq]

/-! 4 erasure/erasurelaw34.LeaseExpires -/
abbrev i4 : Type := Rows × Int × Int × Int × Int × Int × Int
def enc4 : i4 → CSt := fun a => ([Go.Ev.SV.one (Go.Ev.SL.d (Go.Ev.DL.lst (35 : Nat) a.1)), Go.Ev.SV.agg [Go.Ev.SL.d (Go.Ev.DL.int Go.IntKind.i64 a.2.1), Go.Ev.SL.d (Go.Ev.DL.int Go.IntKind.i64 a.2.2.1), Go.Ev.SL.d (Go.Ev.DL.int Go.IntKind.i64 a.2.2.2.1), Go.Ev.SL.d (Go.Ev.DL.int Go.IntKind.i64 a.2.2.2.2.1), Go.Ev.SL.d (Go.Ev.DL.int Go.IntKind.i64 a.2.2.2.2.2.1), Go.Ev.SL.d (Go.Ev.DL.int Go.IntKind.i64 a.2.2.2.2.2.2)]], [])
def dec4 : (c : CSt) → Option { a : i4 // c = enc4 a }
  | ([Go.Ev.SV.one (Go.Ev.SL.d (Go.Ev.DL.lst (35 : Nat) x1)), Go.Ev.SV.agg [Go.Ev.SL.d (Go.Ev.DL.int Go.IntKind.i64 x2), Go.Ev.SL.d (Go.Ev.DL.int Go.IntKind.i64 x3), Go.Ev.SL.d (Go.Ev.DL.int Go.IntKind.i64 x4), Go.Ev.SL.d (Go.Ev.DL.int Go.IntKind.i64 x5), Go.Ev.SL.d (Go.Ev.DL.int Go.IntKind.i64 x6), Go.Ev.SL.d (Go.Ev.DL.int Go.IntKind.i64 x7)]], []) => some ⟨(x1, x2, x3, x4, x5, x6, x7), rfl⟩
  | _ => none
abbrev o4 : Type := Bool
def ret4 : o4 → CSt := fun b => ([Go.Ev.SV.one (Go.Ev.SL.d (Go.Ev.DL.bool b))], [])
def retK4 {R : Type} (K : CSt → Option R) : o4 → Option R := fun b => K (([Go.Ev.SV.one (Go.Ev.SL.d (Go.Ev.DL.bool b))], []))
theorem retK4_eq {R : Type} (K : CSt → Option R) (b : o4) : retK4 K b = K (ret4 b) := rfl
abbrev Sd4 (f : i4 → Option o4) : Prop := ∀ a b, f a = some b → CallOk Try.prog 4 (enc4 a) (ret4 b)
def ent4 (f : i4 → Option o4) : Ent := mkEnt 4 dec4 ret4 retK4 retK4_eq f
def ann4 : Nat → List Nat × List Nat := fun id => ([], [])
def br4 : FuncId → Bool := fun (g : Nat) => false
noncomputable def t4 {R : Type} (sh : Sh) (f14 : i14 → Option o14) (f12 : i12 → Option o12) (f15 : i15 → Option o15) (f11 : i11 → Option o11) (f13 : i13 → Option o13) (f16 : i16 → Option o16) (x1 : Rows) (x2 : Int) (x3 : Int) (x4 : Int) (x5 : Int) (x6 : Int) (x7 : Int) (k : o4 → Option R) : Option R :=
  (f14 x1).bind fun (r1 : Int × Rows) =>
  sh ([] : Rows) fun y2 =>
  (f12 (Prod.fst r1, Prod.snd r1, x6)).bind fun (r3 : Int × Rows) =>
  sh ([] : Rows) fun y4 =>
  (f15 (Prod.fst r1, Prod.snd r1, x3, x6)).bind fun (r5 : Int × Int × Int × Int × Bool) =>
  (f15 (Prod.fst r3, Prod.snd r3, x3, x6)).bind fun (r6 : Int × Int × Int × Int × Bool) =>
  (f11 (Prod.fst r1, Prod.snd r1, x3, x4, x6, x7)).bind fun (r7 : Int × Rows × Int × Int) =>
  sh ([] : Rows) fun y8 =>
  (f11 (Prod.fst r3, Prod.snd r3, x3, x4, x6, x7)).bind fun (r9 : Int × Rows × Int × Int) =>
  sh ([] : Rows) fun y10 =>
  bif !(Prod.fst r5 == Prod.fst r6 && (Prod.fst r5.2 == Prod.fst r6.2 && (Prod.fst (Prod.snd r5).2 == Prod.fst (Prod.snd r6).2 && (Prod.fst (Prod.snd (Prod.snd r5)).2 == Prod.fst (Prod.snd (Prod.snd r6)).2 && Bool.true)))) then
    k (Bool.false)
  else
    bif !Prod.snd (Prod.snd (Prod.snd r5)).2 == Prod.snd (Prod.snd (Prod.snd r6)).2 then
      k (Bool.false)
    else
      bif !(Prod.snd (Prod.snd r7).2 == (0 : Int)) == (Prod.snd (Prod.snd r9).2 == (0 : Int)) then
        k (Bool.false)
      else
        bif Prod.fst (Prod.snd r7).2 != Prod.fst (Prod.snd r9).2 then
          k (Bool.false)
        else
          bif Prod.snd (Prod.snd r7).2 != (0 : Int) then
            (f13 ()).bind fun (r11 : Bool) =>
            k (r11)
          else
            (f15 (Prod.fst r7, Prod.fst r7.2, x3, x6)).bind fun (r12 : Int × Int × Int × Int × Bool) =>
            (f15 (Prod.fst r9, Prod.fst r9.2, x3, x6)).bind fun (r13 : Int × Int × Int × Int × Bool) =>
            bif Prod.snd (Prod.snd (Prod.snd r12)).2 then
              bif Prod.snd (Prod.snd (Prod.snd r13)).2 then
                bif Prod.fst r12 == Prod.fst r13 && (Prod.fst r12.2 == Prod.fst r13.2 && (Prod.fst (Prod.snd r12).2 == Prod.fst (Prod.snd r13).2 && (Prod.fst (Prod.snd (Prod.snd r12)).2 == Prod.fst (Prod.snd (Prod.snd r13)).2 && Bool.true))) then
                  (f16 (Prod.fst r9, Prod.fst r9.2)).bind fun (r14 : Bool) =>
                  bif r14 then
                    (f13 ()).bind fun (r15 : Bool) =>
                    k (r15)
                  else
                    k (Bool.false)
                else
                  k (Bool.false)
              else
                k (Bool.false)
            else
              k (Bool.false)
theorem t4_eq {R : Type} (sh : Sh) (hsh : ∀ {α R : Type} (x : α) (K : α → Option R), sh x K = K x) (f14 : i14 → Option o14) (f12 : i12 → Option o12) (f15 : i15 → Option o15) (f11 : i11 → Option o11) (f13 : i13 → Option o13) (f16 : i16 → Option o16) (x1 : Rows) (x2 : Int) (x3 : Int) (x4 : Int) (x5 : Int) (x6 : Int) (x7 : Int) (K : CSt → Option R) : bodyK Try.prog (tabO sh hsh br4 [ent14 f14, ent12 f12, ent15 f15, ent11 f11, ent13 f13, ent16 f16]) (tabL []) ann4 false Try.f4 (enc4 (x1, x2, x3, x4, x5, x6, x7)) K = t4 sh f14 f12 f15 f11 f13 f16 x1 x2 x3 x4 x5 x6 x7 (retK4 K) := by kernel_rfl
theorem t4_law {R : Type} (f14 : i14 → Option o14) (f12 : i12 → Option o12) (f15 : i15 → Option o15) (f11 : i11 → Option o11) (f13 : i13 → Option o13) (f16 : i16 → Option o16) (x1 : Rows) (x2 : Int) (x3 : Int) (x4 : Int) (x5 : Int) (x6 : Int) (x7 : Int) (K : o4 → Option R) : t4 sh0 f14 f12 f15 f11 f13 f16 x1 x2 x3 x4 x5 x6 x7 K = (t4 sh0 f14 f12 f15 f11 f13 f16 x1 x2 x3 x4 x5 x6 x7 some).bind K := by
  simp only [t4, sh0, cond_bind', two_bind, none_bind', Option.bind_assoc, Option.bind_some]
theorem ok4 (f14 : i14 → Option o14) (f12 : i12 → Option o12) (f15 : i15 → Option o15) (f11 : i11 → Option o11) (f13 : i13 → Option o13) (f16 : i16 → Option o16) (hf14 : Sd14 f14) (hf12 : Sd12 f12) (hf15 : Sd15 f15) (hf11 : Sd11 f11) (hf13 : Sd13 f13) (hf16 : Sd16 f16) : Sd4 (fun a => t4 sh0 f14 f12 f15 f11 f13 f16 a.1 a.2.1 a.2.2.1 a.2.2.2.1 a.2.2.2.2.1 a.2.2.2.2.2.1 a.2.2.2.2.2.2 some) := by
  intro a b h
  refine call_ok (sh := sh0) (hsh := fun _ _ => rfl) (br := br4) (own := false) Try.mixed Try.func4 (by kernel_rfl) (.cons (mkEnt_ok hf14) (.cons (mkEnt_ok hf12) (.cons (mkEnt_ok hf15) (.cons (mkEnt_ok hf11) (.cons (mkEnt_ok hf13) (.cons (mkEnt_ok hf16) .nil)))))) (fun nt => .nil) ((t4_eq sh0 (fun _ _ => rfl) f14 f12 f15 f11 f13 f16 a.1 a.2.1 a.2.2.1 a.2.2.2.1 a.2.2.2.2.1 a.2.2.2.2.2.1 a.2.2.2.2.2.2 _).trans ?_)
  rw [t4_law]
  simp only at h
  rw [h, Option.bind_some, retK4_eq]

/-! 31 erasure/lease.held -/
abbrev i31 : Type := Int × Rows × Int × Int × Int
def enc31 : i31 → CSt := fun a => ([Go.Ev.SV.agg [Go.Ev.SL.d (Go.Ev.DL.int Go.IntKind.i64 a.1), Go.Ev.SL.d (Go.Ev.DL.lst (38 : Nat) a.2.1)], Go.Ev.SV.one (Go.Ev.SL.d (Go.Ev.DL.int Go.IntKind.i64 a.2.2.1)), Go.Ev.SV.one (Go.Ev.SL.d (Go.Ev.DL.int Go.IntKind.i64 a.2.2.2.1)), Go.Ev.SV.one (Go.Ev.SL.d (Go.Ev.DL.int Go.IntKind.i64 a.2.2.2.2))], [])
def dec31 : (c : CSt) → Option { a : i31 // c = enc31 a }
  | ([Go.Ev.SV.agg [Go.Ev.SL.d (Go.Ev.DL.int Go.IntKind.i64 x1), Go.Ev.SL.d (Go.Ev.DL.lst (38 : Nat) x2)], Go.Ev.SV.one (Go.Ev.SL.d (Go.Ev.DL.int Go.IntKind.i64 x3)), Go.Ev.SV.one (Go.Ev.SL.d (Go.Ev.DL.int Go.IntKind.i64 x4)), Go.Ev.SV.one (Go.Ev.SL.d (Go.Ev.DL.int Go.IntKind.i64 x5))], []) => some ⟨(x1, x2, x3, x4, x5), rfl⟩
  | _ => none
abbrev o31 : Type := Int
def ret31 : o31 → CSt := fun b => ([Go.Ev.SV.one (Go.Ev.SL.d (Go.Ev.DL.int Go.IntKind.i64 b))], [])
def retK31 {R : Type} (K : CSt → Option R) : o31 → Option R := fun b => K (([Go.Ev.SV.one (Go.Ev.SL.d (Go.Ev.DL.int Go.IntKind.i64 b))], []))
theorem retK31_eq {R : Type} (K : CSt → Option R) (b : o31) : retK31 K b = K (ret31 b) := rfl
abbrev Sd31 (f : i31 → Option o31) : Prop := ∀ a b, f a = some b → CallOk Try.prog 31 (enc31 a) (ret31 b)
def ent31 (f : i31 → Option o31) : Ent := mkEnt 31 dec31 ret31 retK31 retK31_eq f
def ann31 : Nat → List Nat × List Nat := fun id => ([], [])
def br31 : FuncId → Bool := fun (g : Nat) => false
noncomputable def t31 {R : Type} (sh : Sh) (f25 : i25 → Option o25) (x1 : Int) (x2 : Rows) (x3 : Int) (x4 : Int) (x5 : Int) (k : o31 → Option R) : Option R :=
  (f25 (x1, x2, x3)).bind fun (r1 : Int × Bool) =>
  bif !Prod.snd r1 then
    k ((-1 : Int))
  else
    bif Decidable.decide ((0 : Int) ≤ Prod.fst r1 ∧ Prod.fst r1 < (↑(List.length x2) : Int)) then
      sh (Go.Ev.DL.getI (Go.Ev.cellAt x2 (Int.toNat (Prod.fst r1)) (1 : Nat))) fun y2 =>
      bif y2 != x4 then
        k ((-1 : Int))
      else
        bif Decidable.decide ((0 : Int) ≤ Prod.fst r1 ∧ Prod.fst r1 < (↑(List.length x2) : Int)) then
          sh (Go.Ev.DL.getI (Go.Ev.cellAt x2 (Int.toNat (Prod.fst r1)) (2 : Nat))) fun y3 =>
          bif y3 != x5 then
            k ((-1 : Int))
          else
            k (Prod.fst r1)
        else none
    else none
theorem t31_eq {R : Type} (sh : Sh) (hsh : ∀ {α R : Type} (x : α) (K : α → Option R), sh x K = K x) (f25 : i25 → Option o25) (x1 : Int) (x2 : Rows) (x3 : Int) (x4 : Int) (x5 : Int) (K : CSt → Option R) : bodyK Try.prog (tabO sh hsh br31 [ent25 f25]) (tabL []) ann31 false Try.f31 (enc31 (x1, x2, x3, x4, x5)) K = t31 sh f25 x1 x2 x3 x4 x5 (retK31 K) := by kernel_rfl
theorem t31_law {R : Type} (f25 : i25 → Option o25) (x1 : Int) (x2 : Rows) (x3 : Int) (x4 : Int) (x5 : Int) (K : o31 → Option R) : t31 sh0 f25 x1 x2 x3 x4 x5 K = (t31 sh0 f25 x1 x2 x3 x4 x5 some).bind K := by
  simp only [t31, sh0, cond_bind', two_bind, none_bind', Option.bind_assoc, Option.bind_some]
theorem ok31 (f25 : i25 → Option o25) (hf25 : Sd25 f25) : Sd31 (fun a => t31 sh0 f25 a.1 a.2.1 a.2.2.1 a.2.2.2.1 a.2.2.2.2 some) := by
  intro a b h
  refine call_ok (sh := sh0) (hsh := fun _ _ => rfl) (br := br31) (own := false) Try.mixed Try.func31 (by kernel_rfl) (.cons (mkEnt_ok hf25) .nil) (fun nt => .nil) ((t31_eq sh0 (fun _ _ => rfl) f25 a.1 a.2.1 a.2.2.1 a.2.2.2.1 a.2.2.2.2 _).trans ?_)
  rw [t31_law]
  simp only at h
  rw [h, Option.bind_some, retK31_eq]

/-! 17 erasure/lease.Renew -/
abbrev i17 : Type := Int × Rows × Int × Int × Int × Int × Int
def enc17 : i17 → CSt := fun a => ([Go.Ev.SV.agg [Go.Ev.SL.d (Go.Ev.DL.int Go.IntKind.i64 a.1), Go.Ev.SL.d (Go.Ev.DL.lst (38 : Nat) a.2.1)], Go.Ev.SV.one (Go.Ev.SL.d (Go.Ev.DL.int Go.IntKind.i64 a.2.2.1)), Go.Ev.SV.one (Go.Ev.SL.d (Go.Ev.DL.int Go.IntKind.i64 a.2.2.2.1)), Go.Ev.SV.one (Go.Ev.SL.d (Go.Ev.DL.int Go.IntKind.i64 a.2.2.2.2.1)), Go.Ev.SV.one (Go.Ev.SL.d (Go.Ev.DL.int Go.IntKind.i64 a.2.2.2.2.2.1)), Go.Ev.SV.one (Go.Ev.SL.d (Go.Ev.DL.int Go.IntKind.i64 a.2.2.2.2.2.2))], [])
def dec17 : (c : CSt) → Option { a : i17 // c = enc17 a }
  | ([Go.Ev.SV.agg [Go.Ev.SL.d (Go.Ev.DL.int Go.IntKind.i64 x1), Go.Ev.SL.d (Go.Ev.DL.lst (38 : Nat) x2)], Go.Ev.SV.one (Go.Ev.SL.d (Go.Ev.DL.int Go.IntKind.i64 x3)), Go.Ev.SV.one (Go.Ev.SL.d (Go.Ev.DL.int Go.IntKind.i64 x4)), Go.Ev.SV.one (Go.Ev.SL.d (Go.Ev.DL.int Go.IntKind.i64 x5)), Go.Ev.SV.one (Go.Ev.SL.d (Go.Ev.DL.int Go.IntKind.i64 x6)), Go.Ev.SV.one (Go.Ev.SL.d (Go.Ev.DL.int Go.IntKind.i64 x7))], []) => some ⟨(x1, x2, x3, x4, x5, x6, x7), rfl⟩
  | _ => none
abbrev o17 : Type := Int × Rows × Int
def ret17 : o17 → CSt := fun b => ([Go.Ev.SV.agg [Go.Ev.SL.d (Go.Ev.DL.int Go.IntKind.i64 b.1), Go.Ev.SL.d (Go.Ev.DL.lst (38 : Nat) b.2.1)], Go.Ev.SV.one (Go.Ev.SL.d (Go.Ev.DL.int Go.IntKind.i64 b.2.2))], [])
def retK17 {R : Type} (K : CSt → Option R) : o17 → Option R := fun b => K (([Go.Ev.SV.agg [Go.Ev.SL.d (Go.Ev.DL.int Go.IntKind.i64 b.1), Go.Ev.SL.d (Go.Ev.DL.lst (38 : Nat) b.2.1)], Go.Ev.SV.one (Go.Ev.SL.d (Go.Ev.DL.int Go.IntKind.i64 b.2.2))], []))
theorem retK17_eq {R : Type} (K : CSt → Option R) (b : o17) : retK17 K b = K (ret17 b) := rfl
abbrev Sd17 (f : i17 → Option o17) : Prop := ∀ a b, f a = some b → CallOk Try.prog 17 (enc17 a) (ret17 b)
def ent17 (f : i17 → Option o17) : Ent := mkEnt 17 dec17 ret17 retK17 retK17_eq f
def ann17 : Nat → List Nat × List Nat := fun id => ([], [])
def br17 : FuncId → Bool := fun (g : Nat) => false
noncomputable def t17 {R : Type} (sh : Sh) (f16 : i16 → Option o16) (f24 : i24 → Option o24) (f31 : i31 → Option o31) (f26 : i26 → Option o26) (x1 : Int) (x2 : Rows) (x3 : Int) (x4 : Int) (x5 : Int) (x6 : Int) (x7 : Int) (k : o17 → Option R) : Option R :=
  sh ([] : Rows) fun y1 =>
  (f16 (x1, x2)).bind fun (r2 : Bool) =>
  bif !r2 then
    sh ([] : Rows) fun y3 =>
    k (((0 : Int), y3, (1 : Int)))
  else
    (f24 (x6, x7)).bind fun (r4 : Bool) =>
    bif !r4 then
      sh ([] : Rows) fun y5 =>
      k (((0 : Int), y5, (1 : Int)))
    else
      (f31 (x1, x2, x3, x4, x5)).bind fun (r6 : Int) =>
      bif Decidable.decide (r6 < (0 : Int)) then
        sh ([] : Rows) fun y7 =>
        k (((0 : Int), y7, (102 : Int)))
      else
        bif Decidable.decide ((0 : Int) ≤ r6 ∧ r6 < (↑(List.length x2) : Int)) then
          sh (Go.Ev.DL.getI (Go.Ev.cellAt x2 (Int.toNat r6) (3 : Nat))) fun y8 =>
          bif Decidable.decide (x6 ≥ y8) then
            sh ([] : Rows) fun y9 =>
            k (((0 : Int), y9, (102 : Int)))
          else
            (f26 (x1, x2)).bind fun (r10 : Int × Rows) =>
            sh ([] : Rows) fun y11 =>
            bif Decidable.decide ((0 : Int) ≤ r6 ∧ r6 < (↑(List.length (Prod.snd r10)) : Int)) then
              bif Decidable.decide (Int.toNat r6 < List.length (Prod.snd r10)) then
                sh (Go.Ev.DL.getI (Go.Ev.cellAt (Prod.snd r10) (Int.toNat r6) (3 : Nat))) fun y12 =>
                sh (Go.IntKind.wrap Go.IntKind.i64 (x6 + x7)) fun y13 =>
                sh (if y13 > y12 then y13 else y12) fun y14 =>
                bif Decidable.decide ((0 : Int) ≤ r6 ∧ r6 < (↑(List.length (Prod.snd r10)) : Int)) then
                  bif Decidable.decide (Int.toNat r6 < List.length (Prod.snd r10)) then
                    sh (List.set (Prod.snd r10) (Int.toNat r6) [Go.Ev.DL.int Go.IntKind.i64 (Go.Ev.DL.getI (Go.Ev.cellAt (Prod.snd r10) (Int.toNat r6) (0 : Nat))), Go.Ev.DL.int Go.IntKind.i64 (Go.Ev.DL.getI (Go.Ev.cellAt (Prod.snd r10) (Int.toNat r6) (1 : Nat))), Go.Ev.DL.int Go.IntKind.i64 (Go.Ev.DL.getI (Go.Ev.cellAt (Prod.snd r10) (Int.toNat r6) (2 : Nat))), Go.Ev.DL.int Go.IntKind.i64 y14] : Rows) fun y15 =>
                    k ((Prod.fst r10, y15, (0 : Int)))
                  else none
                else none
              else none
            else none
        else none
theorem t17_eq {R : Type} (sh : Sh) (hsh : ∀ {α R : Type} (x : α) (K : α → Option R), sh x K = K x) (f16 : i16 → Option o16) (f24 : i24 → Option o24) (f31 : i31 → Option o31) (f26 : i26 → Option o26) (x1 : Int) (x2 : Rows) (x3 : Int) (x4 : Int) (x5 : Int) (x6 : Int) (x7 : Int) (K : CSt → Option R) : bodyK Try.prog (tabO sh hsh br17 [ent16 f16, ent24 f24, ent31 f31, ent26 f26]) (tabL []) ann17 false Try.f17 (enc17 (x1, x2, x3, x4, x5, x6, x7)) K = t17 sh f16 f24 f31 f26 x1 x2 x3 x4 x5 x6 x7 (retK17 K) := by kernel_rfl
theorem t17_law {R : Type} (f16 : i16 → Option o16) (f24 : i24 → Option o24) (f31 : i31 → Option o31) (f26 : i26 → Option o26) (x1 : Int) (x2 : Rows) (x3 : Int) (x4 : Int) (x5 : Int) (x6 : Int) (x7 : Int) (K : o17 → Option R) : t17 sh0 f16 f24 f31 f26 x1 x2 x3 x4 x5 x6 x7 K = (t17 sh0 f16 f24 f31 f26 x1 x2 x3 x4 x5 x6 x7 some).bind K := by
  simp only [t17, sh0, cond_bind', two_bind, none_bind', Option.bind_assoc, Option.bind_some]
theorem ok17 (f16 : i16 → Option o16) (f24 : i24 → Option o24) (f31 : i31 → Option o31) (f26 : i26 → Option o26) (hf16 : Sd16 f16) (hf24 : Sd24 f24) (hf31 : Sd31 f31) (hf26 : Sd26 f26) : Sd17 (fun a => t17 sh0 f16 f24 f31 f26 a.1 a.2.1 a.2.2.1 a.2.2.2.1 a.2.2.2.2.1 a.2.2.2.2.2.1 a.2.2.2.2.2.2 some) := by
  intro a b h
  refine call_ok (sh := sh0) (hsh := fun _ _ => rfl) (br := br17) (own := false) Try.mixed Try.func17 (by kernel_rfl) (.cons (mkEnt_ok hf16) (.cons (mkEnt_ok hf24) (.cons (mkEnt_ok hf31) (.cons (mkEnt_ok hf26) .nil)))) (fun nt => .nil) ((t17_eq sh0 (fun _ _ => rfl) f16 f24 f31 f26 a.1 a.2.1 a.2.2.1 a.2.2.2.1 a.2.2.2.2.1 a.2.2.2.2.2.1 a.2.2.2.2.2.2 _).trans ?_)
  rw [t17_law]
  simp only at h
  rw [h, Option.bind_some, retK17_eq]

/-! 18 erasure/lease.Release -/
abbrev i18 : Type := Int × Rows × Int × Int × Int
def enc18 : i18 → CSt := fun a => ([Go.Ev.SV.agg [Go.Ev.SL.d (Go.Ev.DL.int Go.IntKind.i64 a.1), Go.Ev.SL.d (Go.Ev.DL.lst (38 : Nat) a.2.1)], Go.Ev.SV.one (Go.Ev.SL.d (Go.Ev.DL.int Go.IntKind.i64 a.2.2.1)), Go.Ev.SV.one (Go.Ev.SL.d (Go.Ev.DL.int Go.IntKind.i64 a.2.2.2.1)), Go.Ev.SV.one (Go.Ev.SL.d (Go.Ev.DL.int Go.IntKind.i64 a.2.2.2.2))], [])
def dec18 : (c : CSt) → Option { a : i18 // c = enc18 a }
  | ([Go.Ev.SV.agg [Go.Ev.SL.d (Go.Ev.DL.int Go.IntKind.i64 x1), Go.Ev.SL.d (Go.Ev.DL.lst (38 : Nat) x2)], Go.Ev.SV.one (Go.Ev.SL.d (Go.Ev.DL.int Go.IntKind.i64 x3)), Go.Ev.SV.one (Go.Ev.SL.d (Go.Ev.DL.int Go.IntKind.i64 x4)), Go.Ev.SV.one (Go.Ev.SL.d (Go.Ev.DL.int Go.IntKind.i64 x5))], []) => some ⟨(x1, x2, x3, x4, x5), rfl⟩
  | _ => none
abbrev o18 : Type := Int × Rows × Int
def ret18 : o18 → CSt := fun b => ([Go.Ev.SV.agg [Go.Ev.SL.d (Go.Ev.DL.int Go.IntKind.i64 b.1), Go.Ev.SL.d (Go.Ev.DL.lst (38 : Nat) b.2.1)], Go.Ev.SV.one (Go.Ev.SL.d (Go.Ev.DL.int Go.IntKind.i64 b.2.2))], [])
def retK18 {R : Type} (K : CSt → Option R) : o18 → Option R := fun b => K (([Go.Ev.SV.agg [Go.Ev.SL.d (Go.Ev.DL.int Go.IntKind.i64 b.1), Go.Ev.SL.d (Go.Ev.DL.lst (38 : Nat) b.2.1)], Go.Ev.SV.one (Go.Ev.SL.d (Go.Ev.DL.int Go.IntKind.i64 b.2.2))], []))
theorem retK18_eq {R : Type} (K : CSt → Option R) (b : o18) : retK18 K b = K (ret18 b) := rfl
abbrev Sd18 (f : i18 → Option o18) : Prop := ∀ a b, f a = some b → CallOk Try.prog 18 (enc18 a) (ret18 b)
def ent18 (f : i18 → Option o18) : Ent := mkEnt 18 dec18 ret18 retK18 retK18_eq f
def ann18 : Nat → List Nat × List Nat := fun id => ([], [])
def br18 : FuncId → Bool := fun (g : Nat) => false
noncomputable def t18 {R : Type} (sh : Sh) (f16 : i16 → Option o16) (f31 : i31 → Option o31) (f26 : i26 → Option o26) (x1 : Int) (x2 : Rows) (x3 : Int) (x4 : Int) (x5 : Int) (k : o18 → Option R) : Option R :=
  sh ([] : Rows) fun y1 =>
  (f16 (x1, x2)).bind fun (r2 : Bool) =>
  bif !r2 then
    sh ([] : Rows) fun y3 =>
    k (((0 : Int), y3, (1 : Int)))
  else
    (f31 (x1, x2, x3, x4, x5)).bind fun (r4 : Int) =>
    bif Decidable.decide (r4 < (0 : Int)) then
      sh ([] : Rows) fun y5 =>
      k (((0 : Int), y5, (102 : Int)))
    else
      (f26 (x1, x2)).bind fun (r6 : Int × Rows) =>
      sh ([] : Rows) fun y7 =>
      bif Decidable.decide ((0 : Int) ≤ r4 ∧ r4 ≤ (↑(List.length (Prod.snd r6)) : Int)) then
        sh (Go.IntKind.wrap Go.IntKind.i64 (r4 + (1 : Int))) fun y8 =>
        bif Decidable.decide ((0 : Int) ≤ y8 ∧ y8 ≤ (↑(List.length (Prod.snd r6)) : Int)) then
          bif Decidable.decide ((0 : Nat) + (Int.toNat r4 - (0 : Nat)) + List.length (List.take (List.length (Prod.snd r6) - Int.toNat y8) (List.drop (Int.toNat y8) (Prod.snd r6))) ≤ List.length (Prod.snd r6)) then
            sh (List.take ((0 : Nat) + (Int.toNat r4 - (0 : Nat))) (Prod.snd r6) ++ List.take (List.length (Prod.snd r6) - Int.toNat y8) (List.drop (Int.toNat y8) (Prod.snd r6)) ++ List.drop ((0 : Nat) + (Int.toNat r4 - (0 : Nat)) + List.length (List.take (List.length (Prod.snd r6) - Int.toNat y8) (List.drop (Int.toNat y8) (Prod.snd r6)))) (Prod.snd r6) : Rows) fun y9 =>
            k ((Prod.fst r6, List.take (Int.toNat r4 - (0 : Nat) + List.length (List.take (List.length (Prod.snd r6) - Int.toNat y8) (List.drop (Int.toNat y8) (Prod.snd r6)))) (List.drop (0 : Nat) y9), (0 : Int)))
          else none
        else none
      else none
theorem t18_eq {R : Type} (sh : Sh) (hsh : ∀ {α R : Type} (x : α) (K : α → Option R), sh x K = K x) (f16 : i16 → Option o16) (f31 : i31 → Option o31) (f26 : i26 → Option o26) (x1 : Int) (x2 : Rows) (x3 : Int) (x4 : Int) (x5 : Int) (K : CSt → Option R) : bodyK Try.prog (tabO sh hsh br18 [ent16 f16, ent31 f31, ent26 f26]) (tabL []) ann18 false Try.f18 (enc18 (x1, x2, x3, x4, x5)) K = t18 sh f16 f31 f26 x1 x2 x3 x4 x5 (retK18 K) := by kernel_rfl
theorem t18_law {R : Type} (f16 : i16 → Option o16) (f31 : i31 → Option o31) (f26 : i26 → Option o26) (x1 : Int) (x2 : Rows) (x3 : Int) (x4 : Int) (x5 : Int) (K : o18 → Option R) : t18 sh0 f16 f31 f26 x1 x2 x3 x4 x5 K = (t18 sh0 f16 f31 f26 x1 x2 x3 x4 x5 some).bind K := by
  simp only [t18, sh0, cond_bind', two_bind, none_bind', Option.bind_assoc, Option.bind_some]
theorem ok18 (f16 : i16 → Option o16) (f31 : i31 → Option o31) (f26 : i26 → Option o26) (hf16 : Sd16 f16) (hf31 : Sd31 f31) (hf26 : Sd26 f26) : Sd18 (fun a => t18 sh0 f16 f31 f26 a.1 a.2.1 a.2.2.1 a.2.2.2.1 a.2.2.2.2 some) := by
  intro a b h
  refine call_ok (sh := sh0) (hsh := fun _ _ => rfl) (br := br18) (own := false) Try.mixed Try.func18 (by kernel_rfl) (.cons (mkEnt_ok hf16) (.cons (mkEnt_ok hf31) (.cons (mkEnt_ok hf26) .nil))) (fun nt => .nil) ((t18_eq sh0 (fun _ _ => rfl) f16 f31 f26 a.1 a.2.1 a.2.2.1 a.2.2.2.1 a.2.2.2.2 _).trans ?_)
  rw [t18_law]
  simp only at h
  rw [h, Option.bind_some, retK18_eq]

/-! 5 erasure/erasurelaw34.LeaseExclusive -/
abbrev i5 : Type := Rows × Int × Int × Int × Int × Int × Int × Int × Int × Int
def enc5 : i5 → CSt := fun a => ([Go.Ev.SV.one (Go.Ev.SL.d (Go.Ev.DL.lst (35 : Nat) a.1)), Go.Ev.SV.agg [Go.Ev.SL.d (Go.Ev.DL.int Go.IntKind.i64 a.2.1), Go.Ev.SL.d (Go.Ev.DL.int Go.IntKind.i64 a.2.2.1), Go.Ev.SL.d (Go.Ev.DL.int Go.IntKind.i64 a.2.2.2.1), Go.Ev.SL.d (Go.Ev.DL.int Go.IntKind.i64 a.2.2.2.2.1), Go.Ev.SL.d (Go.Ev.DL.int Go.IntKind.i64 a.2.2.2.2.2.1), Go.Ev.SL.d (Go.Ev.DL.int Go.IntKind.i64 a.2.2.2.2.2.2.1)], Go.Ev.SV.agg [Go.Ev.SL.d (Go.Ev.DL.int Go.IntKind.i64 a.2.2.2.2.2.2.2.1), Go.Ev.SL.d (Go.Ev.DL.int Go.IntKind.i64 a.2.2.2.2.2.2.2.2.1), Go.Ev.SL.d (Go.Ev.DL.int Go.IntKind.i64 a.2.2.2.2.2.2.2.2.2)]], [])
def dec5 : (c : CSt) → Option { a : i5 // c = enc5 a }
  | ([Go.Ev.SV.one (Go.Ev.SL.d (Go.Ev.DL.lst (35 : Nat) x1)), Go.Ev.SV.agg [Go.Ev.SL.d (Go.Ev.DL.int Go.IntKind.i64 x2), Go.Ev.SL.d (Go.Ev.DL.int Go.IntKind.i64 x3), Go.Ev.SL.d (Go.Ev.DL.int Go.IntKind.i64 x4), Go.Ev.SL.d (Go.Ev.DL.int Go.IntKind.i64 x5), Go.Ev.SL.d (Go.Ev.DL.int Go.IntKind.i64 x6), Go.Ev.SL.d (Go.Ev.DL.int Go.IntKind.i64 x7)], Go.Ev.SV.agg [Go.Ev.SL.d (Go.Ev.DL.int Go.IntKind.i64 x8), Go.Ev.SL.d (Go.Ev.DL.int Go.IntKind.i64 x9), Go.Ev.SL.d (Go.Ev.DL.int Go.IntKind.i64 x10)]], []) => some ⟨(x1, x2, x3, x4, x5, x6, x7, x8, x9, x10), rfl⟩
  | _ => none
abbrev o5 : Type := Bool
def ret5 : o5 → CSt := fun b => ([Go.Ev.SV.one (Go.Ev.SL.d (Go.Ev.DL.bool b))], [])
def retK5 {R : Type} (K : CSt → Option R) : o5 → Option R := fun b => K (([Go.Ev.SV.one (Go.Ev.SL.d (Go.Ev.DL.bool b))], []))
theorem retK5_eq {R : Type} (K : CSt → Option R) (b : o5) : retK5 K b = K (ret5 b) := rfl
abbrev Sd5 (f : i5 → Option o5) : Prop := ∀ a b, f a = some b → CallOk Try.prog 5 (enc5 a) (ret5 b)
def ent5 (f : i5 → Option o5) : Ent := mkEnt 5 dec5 ret5 retK5 retK5_eq f
def ann5 : Nat → List Nat × List Nat := fun id => ([], [])
def br5 : FuncId → Bool := fun (g : Nat) => false
noncomputable def t5 {R : Type} (sh : Sh) (f14 : i14 → Option o14) (f11 : i11 → Option o11) (f13 : i13 → Option o13) (f15 : i15 → Option o15) (f17 : i17 → Option o17) (f18 : i18 → Option o18) (x1 : Rows) (x2 : Int) (x3 : Int) (x4 : Int) (x5 : Int) (x6 : Int) (x7 : Int) (x8 : Int) (x9 : Int) (x10 : Int) (k : o5 → Option R) : Option R :=
  (f14 x1).bind fun (r1 : Int × Rows) =>
  sh ([] : Rows) fun y2 =>
  (f11 (Prod.fst r1, Prod.snd r1, x3, x4, x6, x7)).bind fun (r3 : Int × Rows × Int × Int) =>
  sh ([] : Rows) fun y4 =>
  bif Prod.snd (Prod.snd r3).2 != (0 : Int) then
    bif Prod.snd (Prod.snd r3).2 != (0 : Int) then
      (f13 ()).bind fun (r5 : Bool) =>
      k (r5)
    else
      k (Bool.false)
  else
    bif Decidable.decide (x7 < (1 : Int)) then
      bif Prod.snd (Prod.snd r3).2 != (0 : Int) then
        (f13 ()).bind fun (r6 : Bool) =>
        k (r6)
      else
        k (Bool.false)
    else
      sh (Go.IntKind.wrap Go.IntKind.u64 x8) fun y7 =>
      sh (Go.IntKind.wrap Go.IntKind.u64 x7) fun y8 =>
      bif Decidable.decide (y8 ≠ (0 : Int)) then
        sh (Int.tmod y7 y8) fun y9 =>
        sh (Go.IntKind.wrap Go.IntKind.i64 y9) fun y10 =>
        sh (Go.IntKind.wrap Go.IntKind.i64 (x6 + y10)) fun y11 =>
        (f11 (Prod.fst r3, Prod.fst r3.2, x3, x9, y11, (1 : Int))).bind fun (r12 : Int × Rows × Int × Int) =>
        sh ([] : Rows) fun y13 =>
        (f15 (Prod.fst r3, Prod.fst r3.2, x3, y11)).bind fun (r14 : Int × Int × Int × Int × Bool) =>
        sh (Go.IntKind.wrap Go.IntKind.i64 (x6 + x7)) fun y15 =>
        (f15 (Prod.fst r3, Prod.fst r3.2, x3, y15)).bind fun (r16 : Int × Int × Int × Int × Bool) =>
        sh (Go.IntKind.wrap Go.IntKind.i64 (x6 + x7)) fun y17 =>
        (f11 (Prod.fst r3, Prod.fst r3.2, x3, x9, y17, (5 : Int))).bind fun (r18 : Int × Rows × Int × Int) =>
        sh ([] : Rows) fun y19 =>
        bif Prod.snd (Prod.snd r12).2 != (1 : Int) then
          bif Prod.snd (Prod.snd r12).2 != (11 : Int) then
            k (Bool.false)
          else
            bif Prod.fst (Prod.snd r12).2 != (0 : Int) then
              k (Bool.false)
            else
              bif !Prod.snd (Prod.snd (Prod.snd r14)).2 then
                k (Bool.false)
              else
                bif Prod.fst r14.2 != x4 then
                  k (Bool.false)
                else
                  bif Prod.fst (Prod.snd r14).2 != Prod.fst (Prod.snd r3).2 then
                    k (Bool.false)
                  else
                    bif Prod.snd (Prod.snd (Prod.snd r16)).2 then
                      k (Bool.false)
                    else
                      bif Prod.snd (Prod.snd r18).2 != (0 : Int) then
                        bif Prod.snd (Prod.snd r18).2 == (1 : Int) then
                          (f13 ()).bind fun (r20 : Bool) =>
                          k (r20)
                        else
                          bif Prod.snd (Prod.snd r18).2 == (8 : Int) then
                            (f13 ()).bind fun (r21 : Bool) =>
                            k (r21)
                          else
                            k (Bool.false)
                      else
                        sh (Go.IntKind.wrap Go.IntKind.i64 (x6 + x7)) fun y22 =>
                        (f17 (Prod.fst r18, Prod.fst r18.2, x3, x4, Prod.fst (Prod.snd r3).2, y22, (5 : Int))).bind fun (r23 : Int × Rows × Int) =>
                        sh ([] : Rows) fun y24 =>
                        (f18 (Prod.fst r18, Prod.fst r18.2, x3, x4, Prod.fst (Prod.snd r3).2)).bind fun (r25 : Int × Rows × Int) =>
                        sh ([] : Rows) fun y26 =>
                        bif Decidable.decide (Prod.fst (Prod.snd r18).2 > Prod.fst (Prod.snd r3).2) then
                          bif Prod.snd r23.2 == (102 : Int) then
                            bif Prod.snd r25.2 == (102 : Int) then
                              (f13 ()).bind fun (r27 : Bool) =>
                              k (r27)
                            else
                              k (Bool.false)
                          else
                            k (Bool.false)
                        else
                          k (Bool.false)
        else
          bif Prod.fst (Prod.snd r12).2 != (0 : Int) then
            k (Bool.false)
          else
            bif !Prod.snd (Prod.snd (Prod.snd r14)).2 then
              k (Bool.false)
            else
              bif Prod.fst r14.2 != x4 then
                k (Bool.false)
              else
                bif Prod.fst (Prod.snd r14).2 != Prod.fst (Prod.snd r3).2 then
                  k (Bool.false)
                else
                  bif Prod.snd (Prod.snd (Prod.snd r16)).2 then
                    k (Bool.false)
                  else
                    bif Prod.snd (Prod.snd r18).2 != (0 : Int) then
                      bif Prod.snd (Prod.snd r18).2 == (1 : Int) then
                        (f13 ()).bind fun (r28 : Bool) =>
                        k (r28)
                      else
                        bif Prod.snd (Prod.snd r18).2 == (8 : Int) then
                          (f13 ()).bind fun (r29 : Bool) =>
                          k (r29)
                        else
                          k (Bool.false)
                    else
                      sh (Go.IntKind.wrap Go.IntKind.i64 (x6 + x7)) fun y30 =>
                      (f17 (Prod.fst r18, Prod.fst r18.2, x3, x4, Prod.fst (Prod.snd r3).2, y30, (5 : Int))).bind fun (r31 : Int × Rows × Int) =>
                      sh ([] : Rows) fun y32 =>
                      (f18 (Prod.fst r18, Prod.fst r18.2, x3, x4, Prod.fst (Prod.snd r3).2)).bind fun (r33 : Int × Rows × Int) =>
                      sh ([] : Rows) fun y34 =>
                      bif Decidable.decide (Prod.fst (Prod.snd r18).2 > Prod.fst (Prod.snd r3).2) then
                        bif Prod.snd r31.2 == (102 : Int) then
                          bif Prod.snd r33.2 == (102 : Int) then
                            (f13 ()).bind fun (r35 : Bool) =>
                            k (r35)
                          else
                            k (Bool.false)
                        else
                          k (Bool.false)
                      else
                        k (Bool.false)
      else none
theorem t5_eq {R : Type} (sh : Sh) (hsh : ∀ {α R : Type} (x : α) (K : α → Option R), sh x K = K x) (f14 : i14 → Option o14) (f11 : i11 → Option o11) (f13 : i13 → Option o13) (f15 : i15 → Option o15) (f17 : i17 → Option o17) (f18 : i18 → Option o18) (x1 : Rows) (x2 : Int) (x3 : Int) (x4 : Int) (x5 : Int) (x6 : Int) (x7 : Int) (x8 : Int) (x9 : Int) (x10 : Int) (K : CSt → Option R) : bodyK Try.prog (tabO sh hsh br5 [ent14 f14, ent11 f11, ent13 f13, ent15 f15, ent17 f17, ent18 f18]) (tabL []) ann5 false Try.f5 (enc5 (x1, x2, x3, x4, x5, x6, x7, x8, x9, x10)) K = t5 sh f14 f11 f13 f15 f17 f18 x1 x2 x3 x4 x5 x6 x7 x8 x9 x10 (retK5 K) := by kernel_rfl
theorem t5_law {R : Type} (f14 : i14 → Option o14) (f11 : i11 → Option o11) (f13 : i13 → Option o13) (f15 : i15 → Option o15) (f17 : i17 → Option o17) (f18 : i18 → Option o18) (x1 : Rows) (x2 : Int) (x3 : Int) (x4 : Int) (x5 : Int) (x6 : Int) (x7 : Int) (x8 : Int) (x9 : Int) (x10 : Int) (K : o5 → Option R) : t5 sh0 f14 f11 f13 f15 f17 f18 x1 x2 x3 x4 x5 x6 x7 x8 x9 x10 K = (t5 sh0 f14 f11 f13 f15 f17 f18 x1 x2 x3 x4 x5 x6 x7 x8 x9 x10 some).bind K := by
  simp only [t5, sh0, cond_bind', two_bind, none_bind', Option.bind_assoc, Option.bind_some]
theorem ok5 (f14 : i14 → Option o14) (f11 : i11 → Option o11) (f13 : i13 → Option o13) (f15 : i15 → Option o15) (f17 : i17 → Option o17) (f18 : i18 → Option o18) (hf14 : Sd14 f14) (hf11 : Sd11 f11) (hf13 : Sd13 f13) (hf15 : Sd15 f15) (hf17 : Sd17 f17) (hf18 : Sd18 f18) : Sd5 (fun a => t5 sh0 f14 f11 f13 f15 f17 f18 a.1 a.2.1 a.2.2.1 a.2.2.2.1 a.2.2.2.2.1 a.2.2.2.2.2.1 a.2.2.2.2.2.2.1 a.2.2.2.2.2.2.2.1 a.2.2.2.2.2.2.2.2.1 a.2.2.2.2.2.2.2.2.2 some) := by
  intro a b h
  refine call_ok (sh := sh0) (hsh := fun _ _ => rfl) (br := br5) (own := false) Try.mixed Try.func5 (by kernel_rfl) (.cons (mkEnt_ok hf14) (.cons (mkEnt_ok hf11) (.cons (mkEnt_ok hf13) (.cons (mkEnt_ok hf15) (.cons (mkEnt_ok hf17) (.cons (mkEnt_ok hf18) .nil)))))) (fun nt => .nil) ((t5_eq sh0 (fun _ _ => rfl) f14 f11 f13 f15 f17 f18 a.1 a.2.1 a.2.2.1 a.2.2.2.1 a.2.2.2.2.1 a.2.2.2.2.2.1 a.2.2.2.2.2.2.1 a.2.2.2.2.2.2.2.1 a.2.2.2.2.2.2.2.2.1 a.2.2.2.2.2.2.2.2.2 _).trans ?_)
  rw [t5_law]
  simp only at h
  rw [h, Option.bind_some, retK5_eq]

/-! 6 erasure/erasurelaw34.LeaseTokens -/
abbrev i6 : Type := Rows
def enc6 : i6 → CSt := fun a => ([Go.Ev.SV.one (Go.Ev.SL.d (Go.Ev.DL.lst (35 : Nat) a))], [])
def dec6 : (c : CSt) → Option { a : i6 // c = enc6 a }
  | ([Go.Ev.SV.one (Go.Ev.SL.d (Go.Ev.DL.lst (35 : Nat) x1))], []) => some ⟨x1, rfl⟩
  | _ => none
abbrev o6 : Type := Bool
def ret6 : o6 → CSt := fun b => ([Go.Ev.SV.one (Go.Ev.SL.d (Go.Ev.DL.bool b))], [])
def retK6 {R : Type} (K : CSt → Option R) : o6 → Option R := fun b => K (([Go.Ev.SV.one (Go.Ev.SL.d (Go.Ev.DL.bool b))], []))
theorem retK6_eq {R : Type} (K : CSt → Option R) (b : o6) : retK6 K b = K (ret6 b) := rfl
abbrev Sd6 (f : i6 → Option o6) : Prop := ∀ a b, f a = some b → CallOk Try.prog 6 (enc6 a) (ret6 b)
def ent6 (f : i6 → Option o6) : Ent := mkEnt 6 dec6 ret6 retK6 retK6_eq f
def ann6 : Nat → List Nat × List Nat := fun id => bif Nat.beq id 4 then ([0, 3, 4, 5], [2]) else ([], [])
def br6 : FuncId → Bool := fun (g : Nat) => false
abbrev iL6_4 : Type := Rows × Int × Int × Int × Rows
def encL6_4 : iL6_4 → CSt := fun a => ([Go.Ev.SV.one (Go.Ev.SL.d (Go.Ev.DL.lst (35 : Nat) a.1)), Go.Ev.SV.one (Go.Ev.SL.ptr (0 : Nat) (0 : Nat)), Go.Ev.SV.one (Go.Ev.SL.d (Go.Ev.DL.int Go.IntKind.i64 a.2.1)), Go.Ev.SV.one (Go.Ev.SL.d (Go.Ev.DL.int Go.IntKind.i64 a.2.2.1))], [Go.Ev.Obj.box (24 : Nat) [Go.Ev.SL.d (Go.Ev.DL.int Go.IntKind.i64 a.2.2.2.1), Go.Ev.SL.d (Go.Ev.DL.lst (38 : Nat) a.2.2.2.2)]])
def decL6_4 : (c : CSt) → Option { a : iL6_4 // c = encL6_4 a }
  | ([Go.Ev.SV.one (Go.Ev.SL.d (Go.Ev.DL.lst (35 : Nat) x1)), Go.Ev.SV.one (Go.Ev.SL.ptr (0 : Nat) (0 : Nat)), Go.Ev.SV.one (Go.Ev.SL.d (Go.Ev.DL.int Go.IntKind.i64 x2)), Go.Ev.SV.one (Go.Ev.SL.d (Go.Ev.DL.int Go.IntKind.i64 x3))], [Go.Ev.Obj.box (24 : Nat) [Go.Ev.SL.d (Go.Ev.DL.int Go.IntKind.i64 x4), Go.Ev.SL.d (Go.Ev.DL.lst (38 : Nat) x5)]]) => some ⟨(x1, x2, x3, x4, x5), rfl⟩
  | _ => none
abbrev oL6_4 : Type := (Bool) ⊕ (Unit)
def retL6_4 : oL6_4 → Ex × CSt := two (fun b => (Go.Ev.Ex.ret, ([Go.Ev.SV.one (Go.Ev.SL.d (Go.Ev.DL.bool b))], []))) (fun b => (Go.Ev.Ex.exit (0 : Nat), ([Go.Ev.SV.one Go.Ev.SL.un], [])))
def retKL6_4 {R : Type} (K : Ex → CSt → Option R) : oL6_4 → Option R := two (fun b => K (Go.Ev.Ex.ret) (([Go.Ev.SV.one (Go.Ev.SL.d (Go.Ev.DL.bool b))], []))) (fun b => K (Go.Ev.Ex.exit (0 : Nat)) (([Go.Ev.SV.one Go.Ev.SL.un], [])))
theorem retKL6_4_eq {R : Type} (K : Ex → CSt → Option R) (b : oL6_4) : retKL6_4 K b = K (retL6_4 b).1 (retL6_4 b).2 := by
  unfold retKL6_4 retL6_4
  repeat' (first | rfl | cases b with | inl b => rfl | inr b => ?_)
def entL6_4 (l : iL6_4 → Option oL6_4) : LEnt := mkLEnt 4 decL6_4 retL6_4 retKL6_4 retKL6_4_eq l
abbrev SdL6_4 (l : iL6_4 → Option oL6_4) : Prop := ∀ nt a b, l a = some b → LoopAt Try.prog nt 0 ann6 Try.f6 4 (encL6_4 a) (retL6_4 b)
noncomputable def u6_4 {R : Type} (sh : Sh) (f11 : i11 → Option o11) (f17 : i17 → Option o17) (f18 : i18 → Option o18) (f12 : i12 → Option o12) (l6_4 : iL6_4 → Option oL6_4) (x1 : Rows) (x2 : Int) (x3 : Int) (x4 : Int) (x5 : Rows) (k : oL6_4 → Option R) : Option R :=
  sh ((↑(List.length x1) : Int)) fun y3 =>
  bif Decidable.decide (x3 < y3) then
    bif Decidable.decide (x3 < (40 : Int)) then
      bif Decidable.decide ((0 : Int) ≤ x3 ∧ x3 < (↑(List.length x1) : Int)) then
        sh (Go.IntKind.wrap Go.IntKind.i64 (↑(BitVec.toNat (BitVec.ofInt (64 : Nat) (Go.Ev.DL.getI (Go.Ev.cellAt x1 (Int.toNat x3) (0 : Nat))) &&& BitVec.ofInt (64 : Nat) (3 : Int))) : Int)) fun y4 =>
        bif y4 == (0 : Int) then
          (f11 (x4, x5, Go.Ev.DL.getI (Go.Ev.cellAt x1 (Int.toNat x3) (1 : Nat)), Go.Ev.DL.getI (Go.Ev.cellAt x1 (Int.toNat x3) (2 : Nat)), Go.Ev.DL.getI (Go.Ev.cellAt x1 (Int.toNat x3) (4 : Nat)), Go.Ev.DL.getI (Go.Ev.cellAt x1 (Int.toNat x3) (5 : Nat)))).bind fun (r5 : Int × Rows × Int × Int) =>
          sh ([] : Rows) fun y6 =>
          bif Prod.snd (Prod.snd r5).2 == (0 : Int) then
            bif Decidable.decide (Prod.fst (Prod.snd r5).2 ≤ x2) then
              k ((.inl Bool.false))
            else
              bif Prod.snd (Prod.snd r5).2 == (0 : Int) then
                sh (Go.IntKind.wrap Go.IntKind.i64 (x3 + (1 : Int))) fun y7 =>
                (l6_4 (x1, Prod.fst (Prod.snd r5).2, y7, Prod.fst r5, Prod.fst r5.2)).bind k
              else
                sh (Go.IntKind.wrap Go.IntKind.i64 (x3 + (1 : Int))) fun y8 =>
                (l6_4 (x1, x2, y8, x4, x5)).bind k
          else
            bif Prod.snd (Prod.snd r5).2 == (0 : Int) then
              sh (Go.IntKind.wrap Go.IntKind.i64 (x3 + (1 : Int))) fun y9 =>
              (l6_4 (x1, Prod.fst (Prod.snd r5).2, y9, Prod.fst r5, Prod.fst r5.2)).bind k
            else
              sh (Go.IntKind.wrap Go.IntKind.i64 (x3 + (1 : Int))) fun y10 =>
              (l6_4 (x1, x2, y10, x4, x5)).bind k
        else
          bif y4 == (1 : Int) then
            (f17 (x4, x5, Go.Ev.DL.getI (Go.Ev.cellAt x1 (Int.toNat x3) (1 : Nat)), Go.Ev.DL.getI (Go.Ev.cellAt x1 (Int.toNat x3) (2 : Nat)), Go.Ev.DL.getI (Go.Ev.cellAt x1 (Int.toNat x3) (3 : Nat)), Go.Ev.DL.getI (Go.Ev.cellAt x1 (Int.toNat x3) (4 : Nat)), Go.Ev.DL.getI (Go.Ev.cellAt x1 (Int.toNat x3) (5 : Nat)))).bind fun (r11 : Int × Rows × Int) =>
            sh ([] : Rows) fun y12 =>
            bif Prod.snd r11.2 == (0 : Int) then
              sh (Go.IntKind.wrap Go.IntKind.i64 (x3 + (1 : Int))) fun y13 =>
              (l6_4 (x1, x2, y13, Prod.fst r11, Prod.fst r11.2)).bind k
            else
              sh (Go.IntKind.wrap Go.IntKind.i64 (x3 + (1 : Int))) fun y14 =>
              (l6_4 (x1, x2, y14, x4, x5)).bind k
          else
            bif y4 == (2 : Int) then
              (f18 (x4, x5, Go.Ev.DL.getI (Go.Ev.cellAt x1 (Int.toNat x3) (1 : Nat)), Go.Ev.DL.getI (Go.Ev.cellAt x1 (Int.toNat x3) (2 : Nat)), Go.Ev.DL.getI (Go.Ev.cellAt x1 (Int.toNat x3) (3 : Nat)))).bind fun (r15 : Int × Rows × Int) =>
              sh ([] : Rows) fun y16 =>
              bif Prod.snd r15.2 == (0 : Int) then
                sh (Go.IntKind.wrap Go.IntKind.i64 (x3 + (1 : Int))) fun y17 =>
                (l6_4 (x1, x2, y17, Prod.fst r15, Prod.fst r15.2)).bind k
              else
                sh (Go.IntKind.wrap Go.IntKind.i64 (x3 + (1 : Int))) fun y18 =>
                (l6_4 (x1, x2, y18, x4, x5)).bind k
            else
              bif y4 == (3 : Int) then
                (f12 (x4, x5, Go.Ev.DL.getI (Go.Ev.cellAt x1 (Int.toNat x3) (4 : Nat)))).bind fun (r19 : Int × Rows) =>
                sh (Go.IntKind.wrap Go.IntKind.i64 (x3 + (1 : Int))) fun y20 =>
                (l6_4 (x1, x2, y20, Prod.fst r19, Prod.snd r19)).bind k
              else
                sh (Go.IntKind.wrap Go.IntKind.i64 (x3 + (1 : Int))) fun y21 =>
                (l6_4 (x1, x2, y21, x4, x5)).bind k
      else none
    else
      k ((.inr ()))
  else
    k ((.inr ()))
theorem u6_4_eq {R : Type} (sh : Sh) (hsh : ∀ {α R : Type} (x : α) (K : α → Option R), sh x K = K x) (f11 : i11 → Option o11) (f17 : i17 → Option o17) (f18 : i18 → Option o18) (f12 : i12 → Option o12) (l6_4 : iL6_4 → Option oL6_4) (x1 : Rows) (x2 : Int) (x3 : Int) (x4 : Int) (x5 : Rows) (K : Ex → CSt → Option R) : roundK Try.prog (tabO sh hsh br6 [ent11 f11, ent17 f17, ent18 f18, ent12 f12]) (tabL [entL6_4 l6_4]) ann6 0 Try.f6 4 (encL6_4 (x1, x2, x3, x4, x5)) K = u6_4 sh f11 f17 f18 f12 l6_4 x1 x2 x3 x4 x5 (retKL6_4 K) := by kernel_rfl
theorem u6_4_law {R : Type} (f11 : i11 → Option o11) (f17 : i17 → Option o17) (f18 : i18 → Option o18) (f12 : i12 → Option o12) (l6_4 : iL6_4 → Option oL6_4) (x1 : Rows) (x2 : Int) (x3 : Int) (x4 : Int) (x5 : Rows) (K : oL6_4 → Option R) : u6_4 sh0 f11 f17 f18 f12 l6_4 x1 x2 x3 x4 x5 K = (u6_4 sh0 f11 f17 f18 f12 l6_4 x1 x2 x3 x4 x5 some).bind K := by
  simp only [u6_4, sh0, cond_bind', two_bind, none_bind', Option.bind_assoc, Option.bind_some]
theorem okL6_4 (f11 : i11 → Option o11) (f17 : i17 → Option o17) (f18 : i18 → Option o18) (f12 : i12 → Option o12) (l6_4 : iL6_4 → Option oL6_4) (hf11 : Sd11 f11) (hf17 : Sd17 f17) (hf18 : Sd18 f18) (hf12 : Sd12 f12) (hl6_4 : SdL6_4 l6_4) : SdL6_4 (fun a => u6_4 sh0 f11 f17 f18 f12 l6_4 a.1 a.2.1 a.2.2.1 a.2.2.2.1 a.2.2.2.2 some) := by
  intro nt a b h
  refine round_ok (sh := sh0) (hsh := fun _ _ => rfl) (br := br6) Try.mixed (by kernel_rfl) (.cons (mkEnt_ok hf11) (.cons (mkEnt_ok hf17) (.cons (mkEnt_ok hf18) (.cons (mkEnt_ok hf12) .nil)))) (.cons (mkLEnt_ok (hl6_4 nt)) .nil) ((u6_4_eq sh0 (fun _ _ => rfl) f11 f17 f18 f12 l6_4  a.1 a.2.1 a.2.2.1 a.2.2.2.1 a.2.2.2.2 _).trans ?_)
  rw [u6_4_law]
  simp only at h
  rw [h, Option.bind_some, retKL6_4_eq]
noncomputable def t6 {R : Type} (sh : Sh) (f10 : i10 → Option o10) (f13 : i13 → Option o13) (l6_4 : iL6_4 → Option oL6_4) (x1 : Rows) (k : o6 → Option R) : Option R :=
  (f10 ()).bind fun (r1 : Int × Rows) =>
  sh ([] : Rows) fun y2 =>
  (l6_4 (x1, (0 : Int), (0 : Int), Prod.fst r1, Prod.snd r1)).bind (two (fun (r22 : Bool) =>
    k (r22)
  ) (fun _ =>
    (f13 ()).bind fun (r24 : Bool) =>
    k (r24)
  ))
theorem t6_eq {R : Type} (sh : Sh) (hsh : ∀ {α R : Type} (x : α) (K : α → Option R), sh x K = K x) (f10 : i10 → Option o10) (f13 : i13 → Option o13) (l6_4 : iL6_4 → Option oL6_4) (x1 : Rows) (K : CSt → Option R) : bodyK Try.prog (tabO sh hsh br6 [ent10 f10, ent13 f13]) (tabL [entL6_4 l6_4]) ann6 false Try.f6 (enc6 x1) K = t6 sh f10 f13 l6_4 x1 (retK6 K) := by kernel_rfl
theorem t6_law {R : Type} (f10 : i10 → Option o10) (f13 : i13 → Option o13) (l6_4 : iL6_4 → Option oL6_4) (x1 : Rows) (K : o6 → Option R) : t6 sh0 f10 f13 l6_4 x1 K = (t6 sh0 f10 f13 l6_4 x1 some).bind K := by
  simp only [t6, sh0, cond_bind', two_bind, none_bind', Option.bind_assoc, Option.bind_some]
theorem ok6 (f10 : i10 → Option o10) (f13 : i13 → Option o13) (l6_4 : iL6_4 → Option oL6_4) (hf10 : Sd10 f10) (hf13 : Sd13 f13) (hl6_4 : SdL6_4 l6_4) : Sd6 (fun a => t6 sh0 f10 f13 l6_4 a some) := by
  intro a b h
  refine call_ok (sh := sh0) (hsh := fun _ _ => rfl) (br := br6) (own := false) Try.mixed Try.func6 (by kernel_rfl) (.cons (mkEnt_ok hf10) (.cons (mkEnt_ok hf13) .nil)) (fun nt => (.cons (mkLEnt_ok (hl6_4 nt)) .nil)) ((t6_eq sh0 (fun _ _ => rfl) f10 f13 l6_4 a _).trans ?_)
  rw [t6_law]
  simp only at h
  rw [h, Option.bind_some, retK6_eq]

/-! 20 erasure/erasureref34.Same -/
abbrev i20 : Type := Int × Rows × Int × Rows
def enc20 : i20 → CSt := fun a => ([Go.Ev.SV.agg [Go.Ev.SL.d (Go.Ev.DL.int Go.IntKind.i64 a.1), Go.Ev.SL.d (Go.Ev.DL.lst (38 : Nat) a.2.1)], Go.Ev.SV.agg [Go.Ev.SL.d (Go.Ev.DL.int Go.IntKind.i64 a.2.2.1), Go.Ev.SL.d (Go.Ev.DL.lst (38 : Nat) a.2.2.2)]], [])
def dec20 : (c : CSt) → Option { a : i20 // c = enc20 a }
  | ([Go.Ev.SV.agg [Go.Ev.SL.d (Go.Ev.DL.int Go.IntKind.i64 x1), Go.Ev.SL.d (Go.Ev.DL.lst (38 : Nat) x2)], Go.Ev.SV.agg [Go.Ev.SL.d (Go.Ev.DL.int Go.IntKind.i64 x3), Go.Ev.SL.d (Go.Ev.DL.lst (38 : Nat) x4)]], []) => some ⟨(x1, x2, x3, x4), rfl⟩
  | _ => none
abbrev o20 : Type := Bool
def ret20 : o20 → CSt := fun b => ([Go.Ev.SV.one (Go.Ev.SL.d (Go.Ev.DL.bool b))], [])
def retK20 {R : Type} (K : CSt → Option R) : o20 → Option R := fun b => K (([Go.Ev.SV.one (Go.Ev.SL.d (Go.Ev.DL.bool b))], []))
theorem retK20_eq {R : Type} (K : CSt → Option R) (b : o20) : retK20 K b = K (ret20 b) := rfl
abbrev Sd20 (f : i20 → Option o20) : Prop := ∀ a b, f a = some b → CallOk Try.prog 20 (enc20 a) (ret20 b)
def ent20 (f : i20 → Option o20) : Ent := mkEnt 20 dec20 ret20 retK20 retK20_eq f
def ann20 : Nat → List Nat × List Nat := fun id => bif Nat.beq id 4 then ([2, 3, 5], [4]) else ([], [])
def br20 : FuncId → Bool := fun (g : Nat) => false
abbrev iL20_4 : Type := Int × Int × Rows × Int × Rows
def encL20_4 : iL20_4 → CSt := fun a => ([Go.Ev.SV.one (Go.Ev.SL.ptr (0 : Nat) (0 : Nat)), Go.Ev.SV.one (Go.Ev.SL.ptr (1 : Nat) (0 : Nat)), Go.Ev.SV.one (Go.Ev.SL.d (Go.Ev.DL.int Go.IntKind.i64 a.1))], [Go.Ev.Obj.box (24 : Nat) [Go.Ev.SL.d (Go.Ev.DL.int Go.IntKind.i64 a.2.1), Go.Ev.SL.d (Go.Ev.DL.lst (38 : Nat) a.2.2.1)], Go.Ev.Obj.box (24 : Nat) [Go.Ev.SL.d (Go.Ev.DL.int Go.IntKind.i64 a.2.2.2.1), Go.Ev.SL.d (Go.Ev.DL.lst (38 : Nat) a.2.2.2.2)]])
def decL20_4 : (c : CSt) → Option { a : iL20_4 // c = encL20_4 a }
  | ([Go.Ev.SV.one (Go.Ev.SL.ptr (0 : Nat) (0 : Nat)), Go.Ev.SV.one (Go.Ev.SL.ptr (1 : Nat) (0 : Nat)), Go.Ev.SV.one (Go.Ev.SL.d (Go.Ev.DL.int Go.IntKind.i64 x1))], [Go.Ev.Obj.box (24 : Nat) [Go.Ev.SL.d (Go.Ev.DL.int Go.IntKind.i64 x2), Go.Ev.SL.d (Go.Ev.DL.lst (38 : Nat) x3)], Go.Ev.Obj.box (24 : Nat) [Go.Ev.SL.d (Go.Ev.DL.int Go.IntKind.i64 x4), Go.Ev.SL.d (Go.Ev.DL.lst (38 : Nat) x5)]]) => some ⟨(x1, x2, x3, x4, x5), rfl⟩
  | _ => none
abbrev oL20_4 : Type := (Bool) ⊕ (Unit)
def retL20_4 : oL20_4 → Ex × CSt := two (fun b => (Go.Ev.Ex.ret, ([Go.Ev.SV.one (Go.Ev.SL.d (Go.Ev.DL.bool b))], []))) (fun b => (Go.Ev.Ex.exit (0 : Nat), ([Go.Ev.SV.one Go.Ev.SL.un], [])))
def retKL20_4 {R : Type} (K : Ex → CSt → Option R) : oL20_4 → Option R := two (fun b => K (Go.Ev.Ex.ret) (([Go.Ev.SV.one (Go.Ev.SL.d (Go.Ev.DL.bool b))], []))) (fun b => K (Go.Ev.Ex.exit (0 : Nat)) (([Go.Ev.SV.one Go.Ev.SL.un], [])))
theorem retKL20_4_eq {R : Type} (K : Ex → CSt → Option R) (b : oL20_4) : retKL20_4 K b = K (retL20_4 b).1 (retL20_4 b).2 := by
  unfold retKL20_4 retL20_4
  repeat' (first | rfl | cases b with | inl b => rfl | inr b => ?_)
def entL20_4 (l : iL20_4 → Option oL20_4) : LEnt := mkLEnt 4 decL20_4 retL20_4 retKL20_4 retKL20_4_eq l
abbrev SdL20_4 (l : iL20_4 → Option oL20_4) : Prop := ∀ nt a b, l a = some b → LoopAt Try.prog nt 0 ann20 Try.f20 4 (encL20_4 a) (retL20_4 b)
noncomputable def u20_4 {R : Type} (sh : Sh) (l20_4 : iL20_4 → Option oL20_4) (x1 : Int) (x2 : Int) (x3 : Rows) (x4 : Int) (x5 : Rows) (k : oL20_4 → Option R) : Option R :=
  sh ((↑(List.length x3) : Int)) fun y3 =>
  bif Decidable.decide (x1 < y3) then
    bif Decidable.decide ((0 : Int) ≤ x1 ∧ x1 < (↑(List.length x3) : Int)) then
      bif Decidable.decide ((0 : Int) ≤ x1 ∧ x1 < (↑(List.length x5) : Int)) then
        bif !(Go.Ev.DL.getI (Go.Ev.cellAt x3 (Int.toNat x1) (0 : Nat)) == Go.Ev.DL.getI (Go.Ev.cellAt x5 (Int.toNat x1) (0 : Nat)) && (Go.Ev.DL.getI (Go.Ev.cellAt x3 (Int.toNat x1) (1 : Nat)) == Go.Ev.DL.getI (Go.Ev.cellAt x5 (Int.toNat x1) (1 : Nat)) && (Go.Ev.DL.getI (Go.Ev.cellAt x3 (Int.toNat x1) (2 : Nat)) == Go.Ev.DL.getI (Go.Ev.cellAt x5 (Int.toNat x1) (2 : Nat)) && (Go.Ev.DL.getI (Go.Ev.cellAt x3 (Int.toNat x1) (3 : Nat)) == Go.Ev.DL.getI (Go.Ev.cellAt x5 (Int.toNat x1) (3 : Nat)) && Bool.true)))) then
          k ((.inl Bool.false))
        else
          sh (Go.IntKind.wrap Go.IntKind.i64 (x1 + (1 : Int))) fun y4 =>
          (l20_4 (y4, x2, x3, x4, x5)).bind k
      else none
    else none
  else
    k ((.inr ()))
theorem u20_4_eq {R : Type} (sh : Sh) (hsh : ∀ {α R : Type} (x : α) (K : α → Option R), sh x K = K x) (l20_4 : iL20_4 → Option oL20_4) (x1 : Int) (x2 : Int) (x3 : Rows) (x4 : Int) (x5 : Rows) (K : Ex → CSt → Option R) : roundK Try.prog (tabO sh hsh br20 []) (tabL [entL20_4 l20_4]) ann20 0 Try.f20 4 (encL20_4 (x1, x2, x3, x4, x5)) K = u20_4 sh l20_4 x1 x2 x3 x4 x5 (retKL20_4 K) := by kernel_rfl
theorem u20_4_law {R : Type} (l20_4 : iL20_4 → Option oL20_4) (x1 : Int) (x2 : Int) (x3 : Rows) (x4 : Int) (x5 : Rows) (K : oL20_4 → Option R) : u20_4 sh0 l20_4 x1 x2 x3 x4 x5 K = (u20_4 sh0 l20_4 x1 x2 x3 x4 x5 some).bind K := by
  simp only [u20_4, sh0, cond_bind', two_bind, none_bind', Option.bind_assoc, Option.bind_some]
theorem okL20_4 (l20_4 : iL20_4 → Option oL20_4) (hl20_4 : SdL20_4 l20_4) : SdL20_4 (fun a => u20_4 sh0 l20_4 a.1 a.2.1 a.2.2.1 a.2.2.2.1 a.2.2.2.2 some) := by
  intro nt a b h
  refine round_ok (sh := sh0) (hsh := fun _ _ => rfl) (br := br20) Try.mixed (by kernel_rfl) .nil (.cons (mkLEnt_ok (hl20_4 nt)) .nil) ((u20_4_eq sh0 (fun _ _ => rfl) l20_4  a.1 a.2.1 a.2.2.1 a.2.2.2.1 a.2.2.2.2 _).trans ?_)
  rw [u20_4_law]
  simp only at h
  rw [h, Option.bind_some, retKL20_4_eq]
noncomputable def t20 {R : Type} (sh : Sh) (l20_4 : iL20_4 → Option oL20_4) (x1 : Int) (x2 : Rows) (x3 : Int) (x4 : Rows) (k : o20 → Option R) : Option R :=
  bif x1 != x3 then
    k (Bool.false)
  else
    sh ((↑(List.length x2) : Int)) fun y1 =>
    sh ((↑(List.length x4) : Int)) fun y2 =>
    bif y1 != y2 then
      k (Bool.false)
    else
      (l20_4 ((0 : Int), x1, x2, x3, x4)).bind (two (fun (r5 : Bool) =>
        k (r5)
      ) (fun _ =>
        k (Bool.true)
      ))
theorem t20_eq {R : Type} (sh : Sh) (hsh : ∀ {α R : Type} (x : α) (K : α → Option R), sh x K = K x) (l20_4 : iL20_4 → Option oL20_4) (x1 : Int) (x2 : Rows) (x3 : Int) (x4 : Rows) (K : CSt → Option R) : bodyK Try.prog (tabO sh hsh br20 []) (tabL [entL20_4 l20_4]) ann20 false Try.f20 (enc20 (x1, x2, x3, x4)) K = t20 sh l20_4 x1 x2 x3 x4 (retK20 K) := by kernel_rfl
theorem t20_law {R : Type} (l20_4 : iL20_4 → Option oL20_4) (x1 : Int) (x2 : Rows) (x3 : Int) (x4 : Rows) (K : o20 → Option R) : t20 sh0 l20_4 x1 x2 x3 x4 K = (t20 sh0 l20_4 x1 x2 x3 x4 some).bind K := by
  simp only [t20, sh0, cond_bind', two_bind, none_bind', Option.bind_assoc, Option.bind_some]
theorem ok20 (l20_4 : iL20_4 → Option oL20_4) (hl20_4 : SdL20_4 l20_4) : Sd20 (fun a => t20 sh0 l20_4 a.1 a.2.1 a.2.2.1 a.2.2.2 some) := by
  intro a b h
  refine call_ok (sh := sh0) (hsh := fun _ _ => rfl) (br := br20) (own := false) Try.mixed Try.func20 (by kernel_rfl) .nil (fun nt => (.cons (mkLEnt_ok (hl20_4 nt)) .nil)) ((t20_eq sh0 (fun _ _ => rfl) l20_4 a.1 a.2.1 a.2.2.1 a.2.2.2 _).trans ?_)
  rw [t20_law]
  simp only at h
  rw [h, Option.bind_some, retK20_eq]

/-! 21 erasure/erasurelaw34.step -/
abbrev i21 : Type := Int × Rows × Int × Rows × Int × Int × Int × Int × Int × Int
def enc21 : i21 → CSt := fun a => ([Go.Ev.SV.agg [Go.Ev.SL.d (Go.Ev.DL.int Go.IntKind.i64 a.1), Go.Ev.SL.d (Go.Ev.DL.lst (38 : Nat) a.2.1)], Go.Ev.SV.agg [Go.Ev.SL.d (Go.Ev.DL.int Go.IntKind.i64 a.2.2.1), Go.Ev.SL.d (Go.Ev.DL.lst (38 : Nat) a.2.2.2.1)], Go.Ev.SV.agg [Go.Ev.SL.d (Go.Ev.DL.int Go.IntKind.i64 a.2.2.2.2.1), Go.Ev.SL.d (Go.Ev.DL.int Go.IntKind.i64 a.2.2.2.2.2.1), Go.Ev.SL.d (Go.Ev.DL.int Go.IntKind.i64 a.2.2.2.2.2.2.1), Go.Ev.SL.d (Go.Ev.DL.int Go.IntKind.i64 a.2.2.2.2.2.2.2.1), Go.Ev.SL.d (Go.Ev.DL.int Go.IntKind.i64 a.2.2.2.2.2.2.2.2.1), Go.Ev.SL.d (Go.Ev.DL.int Go.IntKind.i64 a.2.2.2.2.2.2.2.2.2)]], [])
def dec21 : (c : CSt) → Option { a : i21 // c = enc21 a }
  | ([Go.Ev.SV.agg [Go.Ev.SL.d (Go.Ev.DL.int Go.IntKind.i64 x1), Go.Ev.SL.d (Go.Ev.DL.lst (38 : Nat) x2)], Go.Ev.SV.agg [Go.Ev.SL.d (Go.Ev.DL.int Go.IntKind.i64 x3), Go.Ev.SL.d (Go.Ev.DL.lst (38 : Nat) x4)], Go.Ev.SV.agg [Go.Ev.SL.d (Go.Ev.DL.int Go.IntKind.i64 x5), Go.Ev.SL.d (Go.Ev.DL.int Go.IntKind.i64 x6), Go.Ev.SL.d (Go.Ev.DL.int Go.IntKind.i64 x7), Go.Ev.SL.d (Go.Ev.DL.int Go.IntKind.i64 x8), Go.Ev.SL.d (Go.Ev.DL.int Go.IntKind.i64 x9), Go.Ev.SL.d (Go.Ev.DL.int Go.IntKind.i64 x10)]], []) => some ⟨(x1, x2, x3, x4, x5, x6, x7, x8, x9, x10), rfl⟩
  | _ => none
abbrev o21 : Type := Int × Rows × Int × Rows × Bool
def ret21 : o21 → CSt := fun b => ([Go.Ev.SV.agg [Go.Ev.SL.d (Go.Ev.DL.int Go.IntKind.i64 b.1), Go.Ev.SL.d (Go.Ev.DL.lst (38 : Nat) b.2.1)], Go.Ev.SV.agg [Go.Ev.SL.d (Go.Ev.DL.int Go.IntKind.i64 b.2.2.1), Go.Ev.SL.d (Go.Ev.DL.lst (38 : Nat) b.2.2.2.1)], Go.Ev.SV.one (Go.Ev.SL.d (Go.Ev.DL.bool b.2.2.2.2))], [])
def retK21 {R : Type} (K : CSt → Option R) : o21 → Option R := fun b => K (([Go.Ev.SV.agg [Go.Ev.SL.d (Go.Ev.DL.int Go.IntKind.i64 b.1), Go.Ev.SL.d (Go.Ev.DL.lst (38 : Nat) b.2.1)], Go.Ev.SV.agg [Go.Ev.SL.d (Go.Ev.DL.int Go.IntKind.i64 b.2.2.1), Go.Ev.SL.d (Go.Ev.DL.lst (38 : Nat) b.2.2.2.1)], Go.Ev.SV.one (Go.Ev.SL.d (Go.Ev.DL.bool b.2.2.2.2))], []))
theorem retK21_eq {R : Type} (K : CSt → Option R) (b : o21) : retK21 K b = K (ret21 b) := rfl
abbrev Sd21 (f : i21 → Option o21) : Prop := ∀ a b, f a = some b → CallOk Try.prog 21 (enc21 a) (ret21 b)
def ent21 (f : i21 → Option o21) : Ent := mkEnt 21 dec21 ret21 retK21 retK21_eq f
def ann21 : Nat → List Nat × List Nat := fun id => ([], [])
def br21 : FuncId → Bool := fun (g : Nat) => false
noncomputable def t21 {R : Type} (sh : Sh) (f11 : i11 → Option o11) (f27 : i27 → Option o27) (f20 : i20 → Option o20) (f17 : i17 → Option o17) (f28 : i28 → Option o28) (f18 : i18 → Option o18) (f29 : i29 → Option o29) (f12 : i12 → Option o12) (f30 : i30 → Option o30) (x1 : Int) (x2 : Rows) (x3 : Int) (x4 : Rows) (x5 : Int) (x6 : Int) (x7 : Int) (x8 : Int) (x9 : Int) (x10 : Int) (k : o21 → Option R) : Option R :=
  sh ([] : Rows) fun y1 =>
  sh ([] : Rows) fun y2 =>
  sh ([] : Rows) fun y3 =>
  sh ([] : Rows) fun y4 =>
  sh (Go.IntKind.wrap Go.IntKind.i64 (↑(BitVec.toNat (BitVec.ofInt (64 : Nat) x5 &&& BitVec.ofInt (64 : Nat) (3 : Int))) : Int)) fun y5 =>
  bif y5 == (0 : Int) then
    (f11 (x1, x2, x6, x7, x9, x10)).bind fun (r6 : Int × Rows × Int × Int) =>
    (f27 (x3, x4, x6, x7, x9, x10)).bind fun (r7 : Int × Rows × Int × Int) =>
    bif Prod.fst (Prod.snd r6).2 != Prod.fst (Prod.snd r7).2 then
      k ((x1, x2, x3, x4, Bool.false))
    else
      bif Prod.snd (Prod.snd r6).2 != Prod.snd (Prod.snd r7).2 then
        k ((x1, x2, x3, x4, Bool.false))
      else
        (f20 (Prod.fst r6, Prod.fst r6.2, Prod.fst r7, Prod.fst r7.2)).bind fun (r8 : Bool) =>
        bif !r8 then
          k ((x1, x2, x3, x4, Bool.false))
        else
          bif Prod.snd (Prod.snd r6).2 != (0 : Int) then
            k ((x1, x2, x3, x4, Bool.true))
          else
            k ((Prod.fst r6, Prod.fst r6.2, Prod.fst r7, Prod.fst r7.2, Bool.true))
  else
    bif y5 == (1 : Int) then
      (f17 (x1, x2, x6, x7, x8, x9, x10)).bind fun (r9 : Int × Rows × Int) =>
      (f28 (x3, x4, x6, x7, x8, x9, x10)).bind fun (r10 : Int × Rows × Int) =>
      bif Prod.snd r9.2 != Prod.snd r10.2 then
        k ((x1, x2, x3, x4, Bool.false))
      else
        (f20 (Prod.fst r9, Prod.fst r9.2, Prod.fst r10, Prod.fst r10.2)).bind fun (r11 : Bool) =>
        bif !r11 then
          k ((x1, x2, x3, x4, Bool.false))
        else
          bif Prod.snd r9.2 != (0 : Int) then
            k ((x1, x2, x3, x4, Bool.true))
          else
            k ((Prod.fst r9, Prod.fst r9.2, Prod.fst r10, Prod.fst r10.2, Bool.true))
    else
      bif y5 == (2 : Int) then
        (f18 (x1, x2, x6, x7, x8)).bind fun (r12 : Int × Rows × Int) =>
        (f29 (x3, x4, x6, x7, x8)).bind fun (r13 : Int × Rows × Int) =>
        bif Prod.snd r12.2 != Prod.snd r13.2 then
          k ((x1, x2, x3, x4, Bool.false))
        else
          (f20 (Prod.fst r12, Prod.fst r12.2, Prod.fst r13, Prod.fst r13.2)).bind fun (r14 : Bool) =>
          bif !r14 then
            k ((x1, x2, x3, x4, Bool.false))
          else
            bif Prod.snd r12.2 != (0 : Int) then
              k ((x1, x2, x3, x4, Bool.true))
            else
              k ((Prod.fst r12, Prod.fst r12.2, Prod.fst r13, Prod.fst r13.2, Bool.true))
      else
        bif y5 == (3 : Int) then
          (f12 (x1, x2, x9)).bind fun (r15 : Int × Rows) =>
          (f30 (x3, x4, x9)).bind fun (r16 : Int × Rows) =>
          (f20 (Prod.fst r15, Prod.snd r15, Prod.fst r16, Prod.snd r16)).bind fun (r17 : Bool) =>
          bif !r17 then
            k ((x1, x2, x3, x4, Bool.false))
          else
            k ((Prod.fst r15, Prod.snd r15, Prod.fst r16, Prod.snd r16, Bool.true))
        else
          (f20 ((0 : Int), y3, (0 : Int), y4)).bind fun (r18 : Bool) =>
          bif !r18 then
            k ((x1, x2, x3, x4, Bool.false))
          else
            k (((0 : Int), y3, (0 : Int), y4, Bool.true))
theorem t21_eq {R : Type} (sh : Sh) (hsh : ∀ {α R : Type} (x : α) (K : α → Option R), sh x K = K x) (f11 : i11 → Option o11) (f27 : i27 → Option o27) (f20 : i20 → Option o20) (f17 : i17 → Option o17) (f28 : i28 → Option o28) (f18 : i18 → Option o18) (f29 : i29 → Option o29) (f12 : i12 → Option o12) (f30 : i30 → Option o30) (x1 : Int) (x2 : Rows) (x3 : Int) (x4 : Rows) (x5 : Int) (x6 : Int) (x7 : Int) (x8 : Int) (x9 : Int) (x10 : Int) (K : CSt → Option R) : bodyK Try.prog (tabO sh hsh br21 [ent11 f11, ent27 f27, ent20 f20, ent17 f17, ent28 f28, ent18 f18, ent29 f29, ent12 f12, ent30 f30]) (tabL []) ann21 false Try.f21 (enc21 (x1, x2, x3, x4, x5, x6, x7, x8, x9, x10)) K = t21 sh f11 f27 f20 f17 f28 f18 f29 f12 f30 x1 x2 x3 x4 x5 x6 x7 x8 x9 x10 (retK21 K) := by kernel_rfl
theorem t21_law {R : Type} (f11 : i11 → Option o11) (f27 : i27 → Option o27) (f20 : i20 → Option o20) (f17 : i17 → Option o17) (f28 : i28 → Option o28) (f18 : i18 → Option o18) (f29 : i29 → Option o29) (f12 : i12 → Option o12) (f30 : i30 → Option o30) (x1 : Int) (x2 : Rows) (x3 : Int) (x4 : Rows) (x5 : Int) (x6 : Int) (x7 : Int) (x8 : Int) (x9 : Int) (x10 : Int) (K : o21 → Option R) : t21 sh0 f11 f27 f20 f17 f28 f18 f29 f12 f30 x1 x2 x3 x4 x5 x6 x7 x8 x9 x10 K = (t21 sh0 f11 f27 f20 f17 f28 f18 f29 f12 f30 x1 x2 x3 x4 x5 x6 x7 x8 x9 x10 some).bind K := by
  simp only [t21, sh0, cond_bind', two_bind, none_bind', Option.bind_assoc, Option.bind_some]
theorem ok21 (f11 : i11 → Option o11) (f27 : i27 → Option o27) (f20 : i20 → Option o20) (f17 : i17 → Option o17) (f28 : i28 → Option o28) (f18 : i18 → Option o18) (f29 : i29 → Option o29) (f12 : i12 → Option o12) (f30 : i30 → Option o30) (hf11 : Sd11 f11) (hf27 : Sd27 f27) (hf20 : Sd20 f20) (hf17 : Sd17 f17) (hf28 : Sd28 f28) (hf18 : Sd18 f18) (hf29 : Sd29 f29) (hf12 : Sd12 f12) (hf30 : Sd30 f30) : Sd21 (fun a => t21 sh0 f11 f27 f20 f17 f28 f18 f29 f12 f30 a.1 a.2.1 a.2.2.1 a.2.2.2.1 a.2.2.2.2.1 a.2.2.2.2.2.1 a.2.2.2.2.2.2.1 a.2.2.2.2.2.2.2.1 a.2.2.2.2.2.2.2.2.1 a.2.2.2.2.2.2.2.2.2 some) := by
  intro a b h
  refine call_ok (sh := sh0) (hsh := fun _ _ => rfl) (br := br21) (own := false) Try.mixed Try.func21 (by kernel_rfl) (.cons (mkEnt_ok hf11) (.cons (mkEnt_ok hf27) (.cons (mkEnt_ok hf20) (.cons (mkEnt_ok hf17) (.cons (mkEnt_ok hf28) (.cons (mkEnt_ok hf18) (.cons (mkEnt_ok hf29) (.cons (mkEnt_ok hf12) (.cons (mkEnt_ok hf30) .nil))))))))) (fun nt => .nil) ((t21_eq sh0 (fun _ _ => rfl) f11 f27 f20 f17 f28 f18 f29 f12 f30 a.1 a.2.1 a.2.2.1 a.2.2.2.1 a.2.2.2.2.1 a.2.2.2.2.2.1 a.2.2.2.2.2.2.1 a.2.2.2.2.2.2.2.1 a.2.2.2.2.2.2.2.2.1 a.2.2.2.2.2.2.2.2.2 _).trans ?_)
  rw [t21_law]
  simp only at h
  rw [h, Option.bind_some, retK21_eq]

/-! 22 erasure/erasureref34.Find -/
abbrev i22 : Type := Int × Rows × Int × Int
def enc22 : i22 → CSt := fun a => ([Go.Ev.SV.agg [Go.Ev.SL.d (Go.Ev.DL.int Go.IntKind.i64 a.1), Go.Ev.SL.d (Go.Ev.DL.lst (38 : Nat) a.2.1)], Go.Ev.SV.one (Go.Ev.SL.d (Go.Ev.DL.int Go.IntKind.i64 a.2.2.1)), Go.Ev.SV.one (Go.Ev.SL.d (Go.Ev.DL.int Go.IntKind.i64 a.2.2.2))], [])
def dec22 : (c : CSt) → Option { a : i22 // c = enc22 a }
  | ([Go.Ev.SV.agg [Go.Ev.SL.d (Go.Ev.DL.int Go.IntKind.i64 x1), Go.Ev.SL.d (Go.Ev.DL.lst (38 : Nat) x2)], Go.Ev.SV.one (Go.Ev.SL.d (Go.Ev.DL.int Go.IntKind.i64 x3)), Go.Ev.SV.one (Go.Ev.SL.d (Go.Ev.DL.int Go.IntKind.i64 x4))], []) => some ⟨(x1, x2, x3, x4), rfl⟩
  | _ => none
abbrev o22 : Type := Int × Int × Int × Int × Bool
def ret22 : o22 → CSt := fun b => ([Go.Ev.SV.agg [Go.Ev.SL.d (Go.Ev.DL.int Go.IntKind.i64 b.1), Go.Ev.SL.d (Go.Ev.DL.int Go.IntKind.i64 b.2.1), Go.Ev.SL.d (Go.Ev.DL.int Go.IntKind.i64 b.2.2.1), Go.Ev.SL.d (Go.Ev.DL.int Go.IntKind.i64 b.2.2.2.1)], Go.Ev.SV.one (Go.Ev.SL.d (Go.Ev.DL.bool b.2.2.2.2))], [])
def retK22 {R : Type} (K : CSt → Option R) : o22 → Option R := fun b => K (([Go.Ev.SV.agg [Go.Ev.SL.d (Go.Ev.DL.int Go.IntKind.i64 b.1), Go.Ev.SL.d (Go.Ev.DL.int Go.IntKind.i64 b.2.1), Go.Ev.SL.d (Go.Ev.DL.int Go.IntKind.i64 b.2.2.1), Go.Ev.SL.d (Go.Ev.DL.int Go.IntKind.i64 b.2.2.2.1)], Go.Ev.SV.one (Go.Ev.SL.d (Go.Ev.DL.bool b.2.2.2.2))], []))
theorem retK22_eq {R : Type} (K : CSt → Option R) (b : o22) : retK22 K b = K (ret22 b) := rfl
abbrev Sd22 (f : i22 → Option o22) : Prop := ∀ a b, f a = some b → CallOk Try.prog 22 (enc22 a) (ret22 b)
def ent22 (f : i22 → Option o22) : Ent := mkEnt 22 dec22 ret22 retK22 retK22_eq f
def ann22 : Nat → List Nat × List Nat := fun id => ([], [])
def br22 : FuncId → Bool := fun (g : Nat) => false
noncomputable def t22 {R : Type} (sh : Sh) (f32 : i32 → Option o32) (f23 : i23 → Option o23) (x1 : Int) (x2 : Rows) (x3 : Int) (x4 : Int) (k : o22 → Option R) : Option R :=
  (f32 (x1, x2, x3)).bind fun (r1 : Int) =>
  (f23 (x1, x2)).bind fun (r2 : Bool) =>
  bif !r2 then
    k (((0 : Int), (0 : Int), (0 : Int), (0 : Int), Bool.false))
  else
    bif Decidable.decide (r1 < (0 : Int)) then
      k (((0 : Int), (0 : Int), (0 : Int), (0 : Int), Bool.false))
    else
      bif Decidable.decide ((0 : Int) ≤ r1 ∧ r1 < (↑(List.length x2) : Int)) then
        sh (Go.Ev.DL.getI (Go.Ev.cellAt x2 (Int.toNat r1) (3 : Nat))) fun y3 =>
        bif Decidable.decide (x4 ≥ y3) then
          k (((0 : Int), (0 : Int), (0 : Int), (0 : Int), Bool.false))
        else
          bif Decidable.decide ((0 : Int) ≤ r1 ∧ r1 < (↑(List.length x2) : Int)) then
            k ((Go.Ev.DL.getI (Go.Ev.cellAt x2 (Int.toNat r1) (0 : Nat)), Go.Ev.DL.getI (Go.Ev.cellAt x2 (Int.toNat r1) (1 : Nat)), Go.Ev.DL.getI (Go.Ev.cellAt x2 (Int.toNat r1) (2 : Nat)), Go.Ev.DL.getI (Go.Ev.cellAt x2 (Int.toNat r1) (3 : Nat)), Bool.true))
          else none
      else none
theorem t22_eq {R : Type} (sh : Sh) (hsh : ∀ {α R : Type} (x : α) (K : α → Option R), sh x K = K x) (f32 : i32 → Option o32) (f23 : i23 → Option o23) (x1 : Int) (x2 : Rows) (x3 : Int) (x4 : Int) (K : CSt → Option R) : bodyK Try.prog (tabO sh hsh br22 [ent32 f32, ent23 f23]) (tabL []) ann22 false Try.f22 (enc22 (x1, x2, x3, x4)) K = t22 sh f32 f23 x1 x2 x3 x4 (retK22 K) := by kernel_rfl
theorem t22_law {R : Type} (f32 : i32 → Option o32) (f23 : i23 → Option o23) (x1 : Int) (x2 : Rows) (x3 : Int) (x4 : Int) (K : o22 → Option R) : t22 sh0 f32 f23 x1 x2 x3 x4 K = (t22 sh0 f32 f23 x1 x2 x3 x4 some).bind K := by
  simp only [t22, sh0, cond_bind', two_bind, none_bind', Option.bind_assoc, Option.bind_some]
theorem ok22 (f32 : i32 → Option o32) (f23 : i23 → Option o23) (hf32 : Sd32 f32) (hf23 : Sd23 f23) : Sd22 (fun a => t22 sh0 f32 f23 a.1 a.2.1 a.2.2.1 a.2.2.2 some) := by
  intro a b h
  refine call_ok (sh := sh0) (hsh := fun _ _ => rfl) (br := br22) (own := false) Try.mixed Try.func22 (by kernel_rfl) (.cons (mkEnt_ok hf32) (.cons (mkEnt_ok hf23) .nil)) (fun nt => .nil) ((t22_eq sh0 (fun _ _ => rfl) f32 f23 a.1 a.2.1 a.2.2.1 a.2.2.2 _).trans ?_)
  rw [t22_law]
  simp only at h
  rw [h, Option.bind_some, retK22_eq]

/-! 7 erasure/erasurelaw34.LeasePlays -/
abbrev i7 : Type := Rows
def enc7 : i7 → CSt := fun a => ([Go.Ev.SV.one (Go.Ev.SL.d (Go.Ev.DL.lst (35 : Nat) a))], [])
def dec7 : (c : CSt) → Option { a : i7 // c = enc7 a }
  | ([Go.Ev.SV.one (Go.Ev.SL.d (Go.Ev.DL.lst (35 : Nat) x1))], []) => some ⟨x1, rfl⟩
  | _ => none
abbrev o7 : Type := Bool
def ret7 : o7 → CSt := fun b => ([Go.Ev.SV.one (Go.Ev.SL.d (Go.Ev.DL.bool b))], [])
def retK7 {R : Type} (K : CSt → Option R) : o7 → Option R := fun b => K (([Go.Ev.SV.one (Go.Ev.SL.d (Go.Ev.DL.bool b))], []))
theorem retK7_eq {R : Type} (K : CSt → Option R) (b : o7) : retK7 K b = K (ret7 b) := rfl
abbrev Sd7 (f : i7 → Option o7) : Prop := ∀ a b, f a = some b → CallOk Try.prog 7 (enc7 a) (ret7 b)
def ent7 (f : i7 → Option o7) : Ent := mkEnt 7 dec7 ret7 retK7 retK7_eq f
def ann7 : Nat → List Nat × List Nat := fun id => bif Nat.beq id 5 then ([0, 3, 4, 5], [2]) else ([], [])
def br7 : FuncId → Bool := fun (g : Nat) => false
abbrev iL7_5 : Type := Rows × Int × Int × Rows × Int × Rows
def encL7_5 : iL7_5 → CSt := fun a => ([Go.Ev.SV.one (Go.Ev.SL.d (Go.Ev.DL.lst (35 : Nat) a.1)), Go.Ev.SV.one (Go.Ev.SL.ptr (0 : Nat) (0 : Nat)), Go.Ev.SV.one (Go.Ev.SL.ptr (1 : Nat) (0 : Nat)), Go.Ev.SV.one (Go.Ev.SL.d (Go.Ev.DL.int Go.IntKind.i64 a.2.1))], [Go.Ev.Obj.box (24 : Nat) [Go.Ev.SL.d (Go.Ev.DL.int Go.IntKind.i64 a.2.2.1), Go.Ev.SL.d (Go.Ev.DL.lst (38 : Nat) a.2.2.2.1)], Go.Ev.Obj.box (24 : Nat) [Go.Ev.SL.d (Go.Ev.DL.int Go.IntKind.i64 a.2.2.2.2.1), Go.Ev.SL.d (Go.Ev.DL.lst (38 : Nat) a.2.2.2.2.2)]])
def decL7_5 : (c : CSt) → Option { a : iL7_5 // c = encL7_5 a }
  | ([Go.Ev.SV.one (Go.Ev.SL.d (Go.Ev.DL.lst (35 : Nat) x1)), Go.Ev.SV.one (Go.Ev.SL.ptr (0 : Nat) (0 : Nat)), Go.Ev.SV.one (Go.Ev.SL.ptr (1 : Nat) (0 : Nat)), Go.Ev.SV.one (Go.Ev.SL.d (Go.Ev.DL.int Go.IntKind.i64 x2))], [Go.Ev.Obj.box (24 : Nat) [Go.Ev.SL.d (Go.Ev.DL.int Go.IntKind.i64 x3), Go.Ev.SL.d (Go.Ev.DL.lst (38 : Nat) x4)], Go.Ev.Obj.box (24 : Nat) [Go.Ev.SL.d (Go.Ev.DL.int Go.IntKind.i64 x5), Go.Ev.SL.d (Go.Ev.DL.lst (38 : Nat) x6)]]) => some ⟨(x1, x2, x3, x4, x5, x6), rfl⟩
  | _ => none
abbrev oL7_5 : Type := (Bool) ⊕ (Unit)
def retL7_5 : oL7_5 → Ex × CSt := two (fun b => (Go.Ev.Ex.ret, ([Go.Ev.SV.one (Go.Ev.SL.d (Go.Ev.DL.bool b))], []))) (fun b => (Go.Ev.Ex.exit (0 : Nat), ([Go.Ev.SV.one Go.Ev.SL.un], [])))
def retKL7_5 {R : Type} (K : Ex → CSt → Option R) : oL7_5 → Option R := two (fun b => K (Go.Ev.Ex.ret) (([Go.Ev.SV.one (Go.Ev.SL.d (Go.Ev.DL.bool b))], []))) (fun b => K (Go.Ev.Ex.exit (0 : Nat)) (([Go.Ev.SV.one Go.Ev.SL.un], [])))
theorem retKL7_5_eq {R : Type} (K : Ex → CSt → Option R) (b : oL7_5) : retKL7_5 K b = K (retL7_5 b).1 (retL7_5 b).2 := by
  unfold retKL7_5 retL7_5
  repeat' (first | rfl | cases b with | inl b => rfl | inr b => ?_)
def entL7_5 (l : iL7_5 → Option oL7_5) : LEnt := mkLEnt 5 decL7_5 retL7_5 retKL7_5 retKL7_5_eq l
abbrev SdL7_5 (l : iL7_5 → Option oL7_5) : Prop := ∀ nt a b, l a = some b → LoopAt Try.prog nt 0 ann7 Try.f7 5 (encL7_5 a) (retL7_5 b)
noncomputable def u7_5 {R : Type} (sh : Sh) (f21 : i21 → Option o21) (f15 : i15 → Option o15) (f22 : i22 → Option o22) (f16 : i16 → Option o16) (l7_5 : iL7_5 → Option oL7_5) (x1 : Rows) (x2 : Int) (x3 : Int) (x4 : Rows) (x5 : Int) (x6 : Rows) (k : oL7_5 → Option R) : Option R :=
  sh ((↑(List.length x1) : Int)) fun y6 =>
  bif Decidable.decide (x2 < y6) then
    bif Decidable.decide (x2 < (40 : Int)) then
      bif Decidable.decide ((0 : Int) ≤ x2 ∧ x2 < (↑(List.length x1) : Int)) then
        (f21 (x3, x4, x5, x6, Go.Ev.DL.getI (Go.Ev.cellAt x1 (Int.toNat x2) (0 : Nat)), Go.Ev.DL.getI (Go.Ev.cellAt x1 (Int.toNat x2) (1 : Nat)), Go.Ev.DL.getI (Go.Ev.cellAt x1 (Int.toNat x2) (2 : Nat)), Go.Ev.DL.getI (Go.Ev.cellAt x1 (Int.toNat x2) (3 : Nat)), Go.Ev.DL.getI (Go.Ev.cellAt x1 (Int.toNat x2) (4 : Nat)), Go.Ev.DL.getI (Go.Ev.cellAt x1 (Int.toNat x2) (5 : Nat)))).bind fun (r7 : Int × Rows × Int × Rows × Bool) =>
        sh ([] : Rows) fun y8 =>
        sh ([] : Rows) fun y9 =>
        bif Decidable.decide ((0 : Int) ≤ x2 ∧ x2 < (↑(List.length x1) : Int)) then
          sh (Go.Ev.DL.getI (Go.Ev.cellAt x1 (Int.toNat x2) (1 : Nat))) fun y10 =>
          bif Decidable.decide ((0 : Int) ≤ x2 ∧ x2 < (↑(List.length x1) : Int)) then
            sh (Go.Ev.DL.getI (Go.Ev.cellAt x1 (Int.toNat x2) (4 : Nat))) fun y11 =>
            (f15 (Prod.fst r7, Prod.fst r7.2, y10, y11)).bind fun (r12 : Int × Int × Int × Int × Bool) =>
            bif Decidable.decide ((0 : Int) ≤ x2 ∧ x2 < (↑(List.length x1) : Int)) then
              sh (Go.Ev.DL.getI (Go.Ev.cellAt x1 (Int.toNat x2) (1 : Nat))) fun y13 =>
              bif Decidable.decide ((0 : Int) ≤ x2 ∧ x2 < (↑(List.length x1) : Int)) then
                sh (Go.Ev.DL.getI (Go.Ev.cellAt x1 (Int.toNat x2) (4 : Nat))) fun y14 =>
                (f22 (Prod.fst (Prod.snd r7).2, Prod.fst (Prod.snd (Prod.snd r7)).2, y13, y14)).bind fun (r15 : Int × Int × Int × Int × Bool) =>
                bif !Prod.snd (Prod.snd (Prod.snd r7)).2 then
                  k ((.inl Bool.false))
                else
                  (f16 (Prod.fst r7, Prod.fst r7.2)).bind fun (r16 : Bool) =>
                  bif !r16 then
                    k ((.inl Bool.false))
                  else
                    bif !(Prod.fst r12 == Prod.fst r15 && (Prod.fst r12.2 == Prod.fst r15.2 && (Prod.fst (Prod.snd r12).2 == Prod.fst (Prod.snd r15).2 && (Prod.fst (Prod.snd (Prod.snd r12)).2 == Prod.fst (Prod.snd (Prod.snd r15)).2 && Bool.true)))) then
                      k ((.inl Bool.false))
                    else
                      bif !Prod.snd (Prod.snd (Prod.snd r12)).2 == Prod.snd (Prod.snd (Prod.snd r15)).2 then
                        k ((.inl Bool.false))
                      else
                        sh (Go.IntKind.wrap Go.IntKind.i64 (x2 + (1 : Int))) fun y17 =>
                        (l7_5 (x1, y17, Prod.fst r7, Prod.fst r7.2, Prod.fst (Prod.snd r7).2, Prod.fst (Prod.snd (Prod.snd r7)).2)).bind k
              else none
            else none
          else none
        else none
      else none
    else
      k ((.inr ()))
  else
    k ((.inr ()))
theorem u7_5_eq {R : Type} (sh : Sh) (hsh : ∀ {α R : Type} (x : α) (K : α → Option R), sh x K = K x) (f21 : i21 → Option o21) (f15 : i15 → Option o15) (f22 : i22 → Option o22) (f16 : i16 → Option o16) (l7_5 : iL7_5 → Option oL7_5) (x1 : Rows) (x2 : Int) (x3 : Int) (x4 : Rows) (x5 : Int) (x6 : Rows) (K : Ex → CSt → Option R) : roundK Try.prog (tabO sh hsh br7 [ent21 f21, ent15 f15, ent22 f22, ent16 f16]) (tabL [entL7_5 l7_5]) ann7 0 Try.f7 5 (encL7_5 (x1, x2, x3, x4, x5, x6)) K = u7_5 sh f21 f15 f22 f16 l7_5 x1 x2 x3 x4 x5 x6 (retKL7_5 K) := by kernel_rfl
theorem u7_5_law {R : Type} (f21 : i21 → Option o21) (f15 : i15 → Option o15) (f22 : i22 → Option o22) (f16 : i16 → Option o16) (l7_5 : iL7_5 → Option oL7_5) (x1 : Rows) (x2 : Int) (x3 : Int) (x4 : Rows) (x5 : Int) (x6 : Rows) (K : oL7_5 → Option R) : u7_5 sh0 f21 f15 f22 f16 l7_5 x1 x2 x3 x4 x5 x6 K = (u7_5 sh0 f21 f15 f22 f16 l7_5 x1 x2 x3 x4 x5 x6 some).bind K := by
  simp only [u7_5, sh0, cond_bind', two_bind, none_bind', Option.bind_assoc, Option.bind_some]
theorem okL7_5 (f21 : i21 → Option o21) (f15 : i15 → Option o15) (f22 : i22 → Option o22) (f16 : i16 → Option o16) (l7_5 : iL7_5 → Option oL7_5) (hf21 : Sd21 f21) (hf15 : Sd15 f15) (hf22 : Sd22 f22) (hf16 : Sd16 f16) (hl7_5 : SdL7_5 l7_5) : SdL7_5 (fun a => u7_5 sh0 f21 f15 f22 f16 l7_5 a.1 a.2.1 a.2.2.1 a.2.2.2.1 a.2.2.2.2.1 a.2.2.2.2.2 some) := by
  intro nt a b h
  refine round_ok (sh := sh0) (hsh := fun _ _ => rfl) (br := br7) Try.mixed (by kernel_rfl) (.cons (mkEnt_ok hf21) (.cons (mkEnt_ok hf15) (.cons (mkEnt_ok hf22) (.cons (mkEnt_ok hf16) .nil)))) (.cons (mkLEnt_ok (hl7_5 nt)) .nil) ((u7_5_eq sh0 (fun _ _ => rfl) f21 f15 f22 f16 l7_5  a.1 a.2.1 a.2.2.1 a.2.2.2.1 a.2.2.2.2.1 a.2.2.2.2.2 _).trans ?_)
  rw [u7_5_law]
  simp only at h
  rw [h, Option.bind_some, retKL7_5_eq]
noncomputable def t7 {R : Type} (sh : Sh) (f10 : i10 → Option o10) (f19 : i19 → Option o19) (f20 : i20 → Option o20) (f13 : i13 → Option o13) (l7_5 : iL7_5 → Option oL7_5) (x1 : Rows) (k : o7 → Option R) : Option R :=
  (f10 ()).bind fun (r1 : Int × Rows) =>
  (f19 ()).bind fun (r2 : Int × Rows) =>
  sh ([] : Rows) fun y3 =>
  sh ([] : Rows) fun y4 =>
  (f20 (Prod.fst r1, Prod.snd r1, Prod.fst r2, Prod.snd r2)).bind fun (r5 : Bool) =>
  bif !r5 then
    k (Bool.false)
  else
    (l7_5 (x1, (0 : Int), Prod.fst r1, Prod.snd r1, Prod.fst r2, Prod.snd r2)).bind (two (fun (r18 : Bool) =>
      k (r18)
    ) (fun _ =>
      (f13 ()).bind fun (r20 : Bool) =>
      k (r20)
    ))
theorem t7_eq {R : Type} (sh : Sh) (hsh : ∀ {α R : Type} (x : α) (K : α → Option R), sh x K = K x) (f10 : i10 → Option o10) (f19 : i19 → Option o19) (f20 : i20 → Option o20) (f13 : i13 → Option o13) (l7_5 : iL7_5 → Option oL7_5) (x1 : Rows) (K : CSt → Option R) : bodyK Try.prog (tabO sh hsh br7 [ent10 f10, ent19 f19, ent20 f20, ent13 f13]) (tabL [entL7_5 l7_5]) ann7 false Try.f7 (enc7 x1) K = t7 sh f10 f19 f20 f13 l7_5 x1 (retK7 K) := by kernel_rfl
theorem t7_law {R : Type} (f10 : i10 → Option o10) (f19 : i19 → Option o19) (f20 : i20 → Option o20) (f13 : i13 → Option o13) (l7_5 : iL7_5 → Option oL7_5) (x1 : Rows) (K : o7 → Option R) : t7 sh0 f10 f19 f20 f13 l7_5 x1 K = (t7 sh0 f10 f19 f20 f13 l7_5 x1 some).bind K := by
  simp only [t7, sh0, cond_bind', two_bind, none_bind', Option.bind_assoc, Option.bind_some]
theorem ok7 (f10 : i10 → Option o10) (f19 : i19 → Option o19) (f20 : i20 → Option o20) (f13 : i13 → Option o13) (l7_5 : iL7_5 → Option oL7_5) (hf10 : Sd10 f10) (hf19 : Sd19 f19) (hf20 : Sd20 f20) (hf13 : Sd13 f13) (hl7_5 : SdL7_5 l7_5) : Sd7 (fun a => t7 sh0 f10 f19 f20 f13 l7_5 a some) := by
  intro a b h
  refine call_ok (sh := sh0) (hsh := fun _ _ => rfl) (br := br7) (own := false) Try.mixed Try.func7 (by kernel_rfl) (.cons (mkEnt_ok hf10) (.cons (mkEnt_ok hf19) (.cons (mkEnt_ok hf20) (.cons (mkEnt_ok hf13) .nil)))) (fun nt => (.cons (mkLEnt_ok (hl7_5 nt)) .nil)) ((t7_eq sh0 (fun _ _ => rfl) f10 f19 f20 f13 l7_5 a _).trans ?_)
  rw [t7_law]
  simp only at h
  rw [h, Option.bind_some, retK7_eq]

/-! 8 erasure/erasurelaw34.LeaseRaw -/
abbrev i8 : Type := Int × Rows × Int × Int × Int × Int × Int × Int
def enc8 : i8 → CSt := fun a => ([Go.Ev.SV.agg [Go.Ev.SL.d (Go.Ev.DL.int Go.IntKind.i64 a.1), Go.Ev.SL.d (Go.Ev.DL.lst (38 : Nat) a.2.1)], Go.Ev.SV.agg [Go.Ev.SL.d (Go.Ev.DL.int Go.IntKind.i64 a.2.2.1), Go.Ev.SL.d (Go.Ev.DL.int Go.IntKind.i64 a.2.2.2.1), Go.Ev.SL.d (Go.Ev.DL.int Go.IntKind.i64 a.2.2.2.2.1), Go.Ev.SL.d (Go.Ev.DL.int Go.IntKind.i64 a.2.2.2.2.2.1), Go.Ev.SL.d (Go.Ev.DL.int Go.IntKind.i64 a.2.2.2.2.2.2.1), Go.Ev.SL.d (Go.Ev.DL.int Go.IntKind.i64 a.2.2.2.2.2.2.2)]], [])
def dec8 : (c : CSt) → Option { a : i8 // c = enc8 a }
  | ([Go.Ev.SV.agg [Go.Ev.SL.d (Go.Ev.DL.int Go.IntKind.i64 x1), Go.Ev.SL.d (Go.Ev.DL.lst (38 : Nat) x2)], Go.Ev.SV.agg [Go.Ev.SL.d (Go.Ev.DL.int Go.IntKind.i64 x3), Go.Ev.SL.d (Go.Ev.DL.int Go.IntKind.i64 x4), Go.Ev.SL.d (Go.Ev.DL.int Go.IntKind.i64 x5), Go.Ev.SL.d (Go.Ev.DL.int Go.IntKind.i64 x6), Go.Ev.SL.d (Go.Ev.DL.int Go.IntKind.i64 x7), Go.Ev.SL.d (Go.Ev.DL.int Go.IntKind.i64 x8)]], []) => some ⟨(x1, x2, x3, x4, x5, x6, x7, x8), rfl⟩
  | _ => none
abbrev o8 : Type := Bool
def ret8 : o8 → CSt := fun b => ([Go.Ev.SV.one (Go.Ev.SL.d (Go.Ev.DL.bool b))], [])
def retK8 {R : Type} (K : CSt → Option R) : o8 → Option R := fun b => K (([Go.Ev.SV.one (Go.Ev.SL.d (Go.Ev.DL.bool b))], []))
theorem retK8_eq {R : Type} (K : CSt → Option R) (b : o8) : retK8 K b = K (ret8 b) := rfl
abbrev Sd8 (f : i8 → Option o8) : Prop := ∀ a b, f a = some b → CallOk Try.prog 8 (enc8 a) (ret8 b)
def ent8 (f : i8 → Option o8) : Ent := mkEnt 8 dec8 ret8 retK8 retK8_eq f
def ann8 : Nat → List Nat × List Nat := fun id => ([], [])
def br8 : FuncId → Bool := fun (g : Nat) => false
noncomputable def t8 {R : Type} (sh : Sh) (f13 : i13 → Option o13) (f21 : i21 → Option o21) (f15 : i15 → Option o15) (f22 : i22 → Option o22) (f16 : i16 → Option o16) (f23 : i23 → Option o23) (x1 : Int) (x2 : Rows) (x3 : Int) (x4 : Int) (x5 : Int) (x6 : Int) (x7 : Int) (x8 : Int) (k : o8 → Option R) : Option R :=
  sh ((↑(List.length x2) : Int)) fun y1 =>
  bif Decidable.decide (y1 > (70 : Int)) then
    (f13 ()).bind fun (r2 : Bool) =>
    k (r2)
  else
    (f21 (x1, x2, x1, x2, x3, x4, x5, x6, x7, x8)).bind fun (r3 : Int × Rows × Int × Rows × Bool) =>
    sh ([] : Rows) fun y4 =>
    sh ([] : Rows) fun y5 =>
    (f15 (x1, x2, x4, x7)).bind fun (r6 : Int × Int × Int × Int × Bool) =>
    (f22 (x1, x2, x4, x7)).bind fun (r7 : Int × Int × Int × Int × Bool) =>
    bif Prod.snd (Prod.snd (Prod.snd r3)).2 then
      (f16 (x1, x2)).bind fun (r8 : Bool) =>
      (f23 (x1, x2)).bind fun (r9 : Bool) =>
      bif r8 == r9 then
        bif Prod.fst r6 == Prod.fst r7 && (Prod.fst r6.2 == Prod.fst r7.2 && (Prod.fst (Prod.snd r6).2 == Prod.fst (Prod.snd r7).2 && (Prod.fst (Prod.snd (Prod.snd r6)).2 == Prod.fst (Prod.snd (Prod.snd r7)).2 && Bool.true))) then
          bif Prod.snd (Prod.snd (Prod.snd r6)).2 == Prod.snd (Prod.snd (Prod.snd r7)).2 then
            (f13 ()).bind fun (r10 : Bool) =>
            k (r10)
          else
            k (Bool.false)
        else
          k (Bool.false)
      else
        k (Bool.false)
    else
      k (Bool.false)
theorem t8_eq {R : Type} (sh : Sh) (hsh : ∀ {α R : Type} (x : α) (K : α → Option R), sh x K = K x) (f13 : i13 → Option o13) (f21 : i21 → Option o21) (f15 : i15 → Option o15) (f22 : i22 → Option o22) (f16 : i16 → Option o16) (f23 : i23 → Option o23) (x1 : Int) (x2 : Rows) (x3 : Int) (x4 : Int) (x5 : Int) (x6 : Int) (x7 : Int) (x8 : Int) (K : CSt → Option R) : bodyK Try.prog (tabO sh hsh br8 [ent13 f13, ent21 f21, ent15 f15, ent22 f22, ent16 f16, ent23 f23]) (tabL []) ann8 false Try.f8 (enc8 (x1, x2, x3, x4, x5, x6, x7, x8)) K = t8 sh f13 f21 f15 f22 f16 f23 x1 x2 x3 x4 x5 x6 x7 x8 (retK8 K) := by kernel_rfl
theorem t8_law {R : Type} (f13 : i13 → Option o13) (f21 : i21 → Option o21) (f15 : i15 → Option o15) (f22 : i22 → Option o22) (f16 : i16 → Option o16) (f23 : i23 → Option o23) (x1 : Int) (x2 : Rows) (x3 : Int) (x4 : Int) (x5 : Int) (x6 : Int) (x7 : Int) (x8 : Int) (K : o8 → Option R) : t8 sh0 f13 f21 f15 f22 f16 f23 x1 x2 x3 x4 x5 x6 x7 x8 K = (t8 sh0 f13 f21 f15 f22 f16 f23 x1 x2 x3 x4 x5 x6 x7 x8 some).bind K := by
  simp only [t8, sh0, cond_bind', two_bind, none_bind', Option.bind_assoc, Option.bind_some]
theorem ok8 (f13 : i13 → Option o13) (f21 : i21 → Option o21) (f15 : i15 → Option o15) (f22 : i22 → Option o22) (f16 : i16 → Option o16) (f23 : i23 → Option o23) (hf13 : Sd13 f13) (hf21 : Sd21 f21) (hf15 : Sd15 f15) (hf22 : Sd22 f22) (hf16 : Sd16 f16) (hf23 : Sd23 f23) : Sd8 (fun a => t8 sh0 f13 f21 f15 f22 f16 f23 a.1 a.2.1 a.2.2.1 a.2.2.2.1 a.2.2.2.2.1 a.2.2.2.2.2.1 a.2.2.2.2.2.2.1 a.2.2.2.2.2.2.2 some) := by
  intro a b h
  refine call_ok (sh := sh0) (hsh := fun _ _ => rfl) (br := br8) (own := false) Try.mixed Try.func8 (by kernel_rfl) (.cons (mkEnt_ok hf13) (.cons (mkEnt_ok hf21) (.cons (mkEnt_ok hf15) (.cons (mkEnt_ok hf22) (.cons (mkEnt_ok hf16) (.cons (mkEnt_ok hf23) .nil)))))) (fun nt => .nil) ((t8_eq sh0 (fun _ _ => rfl) f13 f21 f15 f22 f16 f23 a.1 a.2.1 a.2.2.1 a.2.2.2.1 a.2.2.2.2.1 a.2.2.2.2.2.1 a.2.2.2.2.2.2.1 a.2.2.2.2.2.2.2 _).trans ?_)
  rw [t8_law]
  simp only at h
  rw [h, Option.bind_some, retK8_eq]

/-! 9 erasure/erasurelaw34.LeaseOthers -/
abbrev i9 : Type := Rows × Int × Int × Int × Int × Int × Int × Int
def enc9 : i9 → CSt := fun a => ([Go.Ev.SV.one (Go.Ev.SL.d (Go.Ev.DL.lst (35 : Nat) a.1)), Go.Ev.SV.agg [Go.Ev.SL.d (Go.Ev.DL.int Go.IntKind.i64 a.2.1), Go.Ev.SL.d (Go.Ev.DL.int Go.IntKind.i64 a.2.2.1), Go.Ev.SL.d (Go.Ev.DL.int Go.IntKind.i64 a.2.2.2.1), Go.Ev.SL.d (Go.Ev.DL.int Go.IntKind.i64 a.2.2.2.2.1), Go.Ev.SL.d (Go.Ev.DL.int Go.IntKind.i64 a.2.2.2.2.2.1), Go.Ev.SL.d (Go.Ev.DL.int Go.IntKind.i64 a.2.2.2.2.2.2.1)], Go.Ev.SV.one (Go.Ev.SL.d (Go.Ev.DL.int Go.IntKind.i64 a.2.2.2.2.2.2.2))], [])
def dec9 : (c : CSt) → Option { a : i9 // c = enc9 a }
  | ([Go.Ev.SV.one (Go.Ev.SL.d (Go.Ev.DL.lst (35 : Nat) x1)), Go.Ev.SV.agg [Go.Ev.SL.d (Go.Ev.DL.int Go.IntKind.i64 x2), Go.Ev.SL.d (Go.Ev.DL.int Go.IntKind.i64 x3), Go.Ev.SL.d (Go.Ev.DL.int Go.IntKind.i64 x4), Go.Ev.SL.d (Go.Ev.DL.int Go.IntKind.i64 x5), Go.Ev.SL.d (Go.Ev.DL.int Go.IntKind.i64 x6), Go.Ev.SL.d (Go.Ev.DL.int Go.IntKind.i64 x7)], Go.Ev.SV.one (Go.Ev.SL.d (Go.Ev.DL.int Go.IntKind.i64 x8))], []) => some ⟨(x1, x2, x3, x4, x5, x6, x7, x8), rfl⟩
  | _ => none
abbrev o9 : Type := Bool
def ret9 : o9 → CSt := fun b => ([Go.Ev.SV.one (Go.Ev.SL.d (Go.Ev.DL.bool b))], [])
def retK9 {R : Type} (K : CSt → Option R) : o9 → Option R := fun b => K (([Go.Ev.SV.one (Go.Ev.SL.d (Go.Ev.DL.bool b))], []))
theorem retK9_eq {R : Type} (K : CSt → Option R) (b : o9) : retK9 K b = K (ret9 b) := rfl
abbrev Sd9 (f : i9 → Option o9) : Prop := ∀ a b, f a = some b → CallOk Try.prog 9 (enc9 a) (ret9 b)
def ent9 (f : i9 → Option o9) : Ent := mkEnt 9 dec9 ret9 retK9 retK9_eq f
def ann9 : Nat → List Nat × List Nat := fun id => ([], [])
def br9 : FuncId → Bool := fun (g : Nat) => false
noncomputable def t9 {R : Type} (sh : Sh) (f14 : i14 → Option o14) (f13 : i13 → Option o13) (f21 : i21 → Option o21) (f15 : i15 → Option o15) (x1 : Rows) (x2 : Int) (x3 : Int) (x4 : Int) (x5 : Int) (x6 : Int) (x7 : Int) (x8 : Int) (k : o9 → Option R) : Option R :=
  (f14 x1).bind fun (r1 : Int × Rows) =>
  sh ([] : Rows) fun y2 =>
  sh (Go.IntKind.wrap Go.IntKind.i64 (↑(BitVec.toNat (BitVec.ofInt (64 : Nat) x2 &&& BitVec.ofInt (64 : Nat) (3 : Int))) : Int)) fun y3 =>
  bif y3 == (3 : Int) then
    (f13 ()).bind fun (r4 : Bool) =>
    k (r4)
  else
    bif x3 == x8 then
      (f13 ()).bind fun (r5 : Bool) =>
      k (r5)
    else
      (f21 (Prod.fst r1, Prod.snd r1, Prod.fst r1, Prod.snd r1, x2, x3, x4, x5, x6, x7)).bind fun (r6 : Int × Rows × Int × Rows × Bool) =>
      sh ([] : Rows) fun y7 =>
      sh ([] : Rows) fun y8 =>
      (f15 (Prod.fst r1, Prod.snd r1, x8, x6)).bind fun (r9 : Int × Int × Int × Int × Bool) =>
      (f15 (Prod.fst r6, Prod.fst r6.2, x8, x6)).bind fun (r10 : Int × Int × Int × Int × Bool) =>
      bif Prod.snd (Prod.snd (Prod.snd r6)).2 then
        bif Prod.fst r9 == Prod.fst r10 && (Prod.fst r9.2 == Prod.fst r10.2 && (Prod.fst (Prod.snd r9).2 == Prod.fst (Prod.snd r10).2 && (Prod.fst (Prod.snd (Prod.snd r9)).2 == Prod.fst (Prod.snd (Prod.snd r10)).2 && Bool.true))) then
          bif Prod.snd (Prod.snd (Prod.snd r9)).2 == Prod.snd (Prod.snd (Prod.snd r10)).2 then
            (f13 ()).bind fun (r11 : Bool) =>
            k (r11)
          else
            k (Bool.false)
        else
          k (Bool.false)
      else
        k (Bool.false)
theorem t9_eq {R : Type} (sh : Sh) (hsh : ∀ {α R : Type} (x : α) (K : α → Option R), sh x K = K x) (f14 : i14 → Option o14) (f13 : i13 → Option o13) (f21 : i21 → Option o21) (f15 : i15 → Option o15) (x1 : Rows) (x2 : Int) (x3 : Int) (x4 : Int) (x5 : Int) (x6 : Int) (x7 : Int) (x8 : Int) (K : CSt → Option R) : bodyK Try.prog (tabO sh hsh br9 [ent14 f14, ent13 f13, ent21 f21, ent15 f15]) (tabL []) ann9 false Try.f9 (enc9 (x1, x2, x3, x4, x5, x6, x7, x8)) K = t9 sh f14 f13 f21 f15 x1 x2 x3 x4 x5 x6 x7 x8 (retK9 K) := by kernel_rfl
theorem t9_law {R : Type} (f14 : i14 → Option o14) (f13 : i13 → Option o13) (f21 : i21 → Option o21) (f15 : i15 → Option o15) (x1 : Rows) (x2 : Int) (x3 : Int) (x4 : Int) (x5 : Int) (x6 : Int) (x7 : Int) (x8 : Int) (K : o9 → Option R) : t9 sh0 f14 f13 f21 f15 x1 x2 x3 x4 x5 x6 x7 x8 K = (t9 sh0 f14 f13 f21 f15 x1 x2 x3 x4 x5 x6 x7 x8 some).bind K := by
  simp only [t9, sh0, cond_bind', two_bind, none_bind', Option.bind_assoc, Option.bind_some]
theorem ok9 (f14 : i14 → Option o14) (f13 : i13 → Option o13) (f21 : i21 → Option o21) (f15 : i15 → Option o15) (hf14 : Sd14 f14) (hf13 : Sd13 f13) (hf21 : Sd21 f21) (hf15 : Sd15 f15) : Sd9 (fun a => t9 sh0 f14 f13 f21 f15 a.1 a.2.1 a.2.2.1 a.2.2.2.1 a.2.2.2.2.1 a.2.2.2.2.2.1 a.2.2.2.2.2.2.1 a.2.2.2.2.2.2.2 some) := by
  intro a b h
  refine call_ok (sh := sh0) (hsh := fun _ _ => rfl) (br := br9) (own := false) Try.mixed Try.func9 (by kernel_rfl) (.cons (mkEnt_ok hf14) (.cons (mkEnt_ok hf13) (.cons (mkEnt_ok hf21) (.cons (mkEnt_ok hf15) .nil)))) (fun nt => .nil) ((t9_eq sh0 (fun _ _ => rfl) f14 f13 f21 f15 a.1 a.2.1 a.2.2.1 a.2.2.2.1 a.2.2.2.2.1 a.2.2.2.2.2.1 a.2.2.2.2.2.2.1 a.2.2.2.2.2.2.2 _).trans ?_)
  rw [t9_law]
  simp only at h
  rw [h, Option.bind_some, retK9_eq]

end Go.Proofs.LeG
