/- Printed by a tool of mine: plain functions, their equations and contracts. -/
import Derived.Test.YtjmpecjcnmdnaaaG1
set_option linter.unusedVariables false
set_option linter.unusedSimpArgs false

namespace Go.Proofs.SmG
open Go Go.Ev
/-! 44 erasure/merkle.node -/
abbrev i44 : Type := List Int
def enc44 : i44 → CSt := fun a => ([Go.Ev.SV.agg (Go.Ev.pkS Go.IntKind.u8 a (32 : Nat))], [])
def dec44 : (c : CSt) → Option { a : i44 // c = enc44 a }
  | ([Go.Ev.SV.agg [Go.Ev.SL.d (Go.Ev.DL.int Go.IntKind.u8 x1_0), Go.Ev.SL.d (Go.Ev.DL.int Go.IntKind.u8 x1_1), Go.Ev.SL.d (Go.Ev.DL.int Go.IntKind.u8 x1_2), Go.Ev.SL.d (Go.Ev.DL.int Go.IntKind.u8 x1_3), Go.Ev.SL.d (Go.Ev.DL.int Go.IntKind.u8 x1_4), Go.Ev.SL.d (Go.Ev.DL.int Go.IntKind.u8 x1_5), Go.Ev.SL.d (Go.Ev.DL.int Go.IntKind.u8 x1_6), Go.Ev.SL.d (Go.Ev.DL.int Go.IntKind.u8 x1_7), Go.Ev.SL.d (Go.Ev.DL.int Go.IntKind.u8 x1_8), Go.Ev.SL.d (Go.Ev.DL.int Go.IntKind.u8 x1_9), Go.Ev.SL.d (Go.Ev.DL.int Go.IntKind.u8 x1_10), Go.Ev.SL.d (Go.Ev.DL.int Go.IntKind.u8 x1_11), Go.Ev.SL.d (Go.Ev.DL.int Go.IntKind.u8 x1_12), Go.Ev.SL.d (Go.Ev.DL.int Go.IntKind.u8 x1_13), Go.Ev.SL.d (Go.Ev.DL.int Go.IntKind.u8 x1_14), Go.Ev.SL.d (Go.Ev.DL.int Go.IntKind.u8 x1_15), Go.Ev.SL.d (Go.Ev.DL.int Go.IntKind.u8 x1_16), Go.Ev.SL.d (Go.Ev.DL.int Go.IntKind.u8 x1_17), Go.Ev.SL.d (Go.Ev.DL.int Go.IntKind.u8 x1_18), Go.Ev.SL.d (Go.Ev.DL.int Go.IntKind.u8 x1_19), Go.Ev.SL.d (Go.Ev.DL.int Go.IntKind.u8 x1_20), Go.Ev.SL.d (Go.Ev.DL.int Go.IntKind.u8 x1_21), Go.Ev.SL.d (Go.Ev.DL.int Go.IntKind.u8 x1_22), Go.Ev.SL.d (Go.Ev.DL.int Go.IntKind.u8 x1_23), Go.Ev.SL.d (Go.Ev.DL.int Go.IntKind.u8 x1_24), Go.Ev.SL.d (Go.Ev.DL.int Go.IntKind.u8 x1_25), Go.Ev.SL.d (Go.Ev.DL.int Go.IntKind.u8 x1_26), Go.Ev.SL.d (Go.Ev.DL.int Go.IntKind.u8 x1_27), Go.Ev.SL.d (Go.Ev.DL.int Go.IntKind.u8 x1_28), Go.Ev.SL.d (Go.Ev.DL.int Go.IntKind.u8 x1_29), Go.Ev.SL.d (Go.Ev.DL.int Go.IntKind.u8 x1_30), Go.Ev.SL.d (Go.Ev.DL.int Go.IntKind.u8 x1_31)]], []) => some ⟨[x1_0, x1_1, x1_2, x1_3, x1_4, x1_5, x1_6, x1_7, x1_8, x1_9, x1_10, x1_11, x1_12, x1_13, x1_14, x1_15, x1_16, x1_17, x1_18, x1_19, x1_20, x1_21, x1_22, x1_23, x1_24, x1_25, x1_26, x1_27, x1_28, x1_29, x1_30, x1_31], rfl⟩
  | _ => none
abbrev o44 : Type := List Int
def ret44 : o44 → CSt := fun b => ([Go.Ev.SV.agg (Go.Ev.pkS Go.IntKind.u8 b (32 : Nat))], [])
def retK44 {R : Type} (K : CSt → Option R) : o44 → Option R := fun b => K (([Go.Ev.SV.agg (Go.Ev.pkS Go.IntKind.u8 b (32 : Nat))], []))
theorem retK44_eq {R : Type} (K : CSt → Option R) (b : o44) : retK44 K b = K (ret44 b) := rfl
abbrev Sd44 (f : i44 → Option o44) : Prop := ∀ a b, f a = some b → CallOk Try.prog 44 (enc44 a) (ret44 b)
def ent44 (f : i44 → Option o44) : Ent := mkEnt 44 dec44 ret44 retK44 retK44_eq f
def ann44 : Nat → List Nat × List Nat := fun id => ([], [])
def br44 : FuncId → Bool := fun (g : Nat) => ([67, 72] : List Nat).any (Nat.beq g)
def ar44 : TypeId → Bool := fun (t : Nat) => ([24, 25, 79, 82] : List Nat).any (Nat.beq t)
noncomputable def t44 {R : Type} (sh : Sh) (f61 : i61 → Option o61) (x1 : List Int) (k : o44 → Option R) : Option R :=
  sh (Go.Ev.colD (Go.Ev.mapD Go.IntKind.u8 (Go.Ev.pkL x1 (32 : Nat))) : Rows) fun y1 =>
  sh (List.replicate (32 : Nat) [Go.Ev.DL.int Go.IntKind.u8 (0 : Int)] : Rows) fun y2 =>
  bif Decidable.decide (List.length y1 = (32 : Nat)) then
    (f61 ((380 : Int), Go.Ev.colI y1 (32 : Nat), [])).bind fun (r3 : List Int) =>
    bif Decidable.decide (List.length y2 = (32 : Nat)) then
      sh (Go.Ev.colD (Go.Ev.mapD Go.IntKind.u8 (Go.Ev.pkL r3 (32 : Nat))) : Rows) fun y4 =>
      bif Decidable.decide (List.length y4 = (32 : Nat)) then
        k (Go.Ev.colI y4 (32 : Nat))
      else none
    else none
  else none
theorem t44_eq {R : Type} (sh : Sh) (hsh : ∀ {α R : Type} (x : α) (K : α → Option R), sh x K = K x) (f61 : i61 → Option o61) (x1 : List Int) (K : CSt → Option R) : bodyK Try.prog (tabO sh hsh br44 ar44 [ent61 f61]) (tabL []) ann44 false Try.f44 (enc44 x1) K = t44 sh f61 x1 (retK44 K) := by kernel_rfl
theorem t44_law {R : Type} (f61 : i61 → Option o61) (x1 : List Int) (K : o44 → Option R) : t44 sh0 f61 x1 K = (t44 sh0 f61 x1 some).bind K := by
  simp only [t44, sh0, cond_bind', two_bind, none_bind', Option.bind_assoc, Option.bind_some]
theorem ok44 (f61 : i61 → Option o61) (hf61 : Sd61 f61) : Sd44 (fun a => t44 sh0 f61 a some) := by
  intro a b h
  refine call_ok (sh := sh0) (hsh := fun _ _ => rfl) (br := br44) (ar := ar44) (own := false) Try.mixed Try.func44 (by kernel_rfl) (.cons (mkEnt_ok hf61) .nil) (fun nt => .nil) ((t44_eq sh0 (fun _ _ => rfl) f61 a _).trans ?_)
  rw [t44_law]
  simp only at h
  rw [h, Option.bind_some, retK44_eq]

/-! 45 erasure/merkle.pair -/
abbrev i45 : Type := List Int × List Int
def enc45 : i45 → CSt := fun a => ([Go.Ev.SV.agg (Go.Ev.pkS Go.IntKind.u8 a.1 (32 : Nat)), Go.Ev.SV.agg (Go.Ev.pkS Go.IntKind.u8 a.2 (32 : Nat))], [])
def dec45 : (c : CSt) → Option { a : i45 // c = enc45 a }
  | ([Go.Ev.SV.agg [Go.Ev.SL.d (Go.Ev.DL.int Go.IntKind.u8 x1_0), Go.Ev.SL.d (Go.Ev.DL.int Go.IntKind.u8 x1_1), Go.Ev.SL.d (Go.Ev.DL.int Go.IntKind.u8 x1_2), Go.Ev.SL.d (Go.Ev.DL.int Go.IntKind.u8 x1_3), Go.Ev.SL.d (Go.Ev.DL.int Go.IntKind.u8 x1_4), Go.Ev.SL.d (Go.Ev.DL.int Go.IntKind.u8 x1_5), Go.Ev.SL.d (Go.Ev.DL.int Go.IntKind.u8 x1_6), Go.Ev.SL.d (Go.Ev.DL.int Go.IntKind.u8 x1_7), Go.Ev.SL.d (Go.Ev.DL.int Go.IntKind.u8 x1_8), Go.Ev.SL.d (Go.Ev.DL.int Go.IntKind.u8 x1_9), Go.Ev.SL.d (Go.Ev.DL.int Go.IntKind.u8 x1_10), Go.Ev.SL.d (Go.Ev.DL.int Go.IntKind.u8 x1_11), Go.Ev.SL.d (Go.Ev.DL.int Go.IntKind.u8 x1_12), Go.Ev.SL.d (Go.Ev.DL.int Go.IntKind.u8 x1_13), Go.Ev.SL.d (Go.Ev.DL.int Go.IntKind.u8 x1_14), Go.Ev.SL.d (Go.Ev.DL.int Go.IntKind.u8 x1_15), Go.Ev.SL.d (Go.Ev.DL.int Go.IntKind.u8 x1_16), Go.Ev.SL.d (Go.Ev.DL.int Go.IntKind.u8 x1_17), Go.Ev.SL.d (Go.Ev.DL.int Go.IntKind.u8 x1_18), Go.Ev.SL.d (Go.Ev.DL.int Go.IntKind.u8 x1_19), Go.Ev.SL.d (Go.Ev.DL.int Go.IntKind.u8 x1_20), Go.Ev.SL.d (Go.Ev.DL.int Go.IntKind.u8 x1_21), Go.Ev.SL.d (Go.Ev.DL.int Go.IntKind.u8 x1_22), Go.Ev.SL.d (Go.Ev.DL.int Go.IntKind.u8 x1_23), Go.Ev.SL.d (Go.Ev.DL.int Go.IntKind.u8 x1_24), Go.Ev.SL.d (Go.Ev.DL.int Go.IntKind.u8 x1_25), Go.Ev.SL.d (Go.Ev.DL.int Go.IntKind.u8 x1_26), Go.Ev.SL.d (Go.Ev.DL.int Go.IntKind.u8 x1_27), Go.Ev.SL.d (Go.Ev.DL.int Go.IntKind.u8 x1_28), Go.Ev.SL.d (Go.Ev.DL.int Go.IntKind.u8 x1_29), Go.Ev.SL.d (Go.Ev.DL.int Go.IntKind.u8 x1_30), Go.Ev.SL.d (Go.Ev.DL.int Go.IntKind.u8 x1_31)], Go.Ev.SV.agg [Go.Ev.SL.d (Go.Ev.DL.int Go.IntKind.u8 x2_0), Go.Ev.SL.d (Go.Ev.DL.int Go.IntKind.u8 x2_1), Go.Ev.SL.d (Go.Ev.DL.int Go.IntKind.u8 x2_2), Go.Ev.SL.d (Go.Ev.DL.int Go.IntKind.u8 x2_3), Go.Ev.SL.d (Go.Ev.DL.int Go.IntKind.u8 x2_4), Go.Ev.SL.d (Go.Ev.DL.int Go.IntKind.u8 x2_5), Go.Ev.SL.d (Go.Ev.DL.int Go.IntKind.u8 x2_6), Go.Ev.SL.d (Go.Ev.DL.int Go.IntKind.u8 x2_7), Go.Ev.SL.d (Go.Ev.DL.int Go.IntKind.u8 x2_8), Go.Ev.SL.d (Go.Ev.DL.int Go.IntKind.u8 x2_9), Go.Ev.SL.d (Go.Ev.DL.int Go.IntKind.u8 x2_10), Go.Ev.SL.d (Go.Ev.DL.int Go.IntKind.u8 x2_11), Go.Ev.SL.d (Go.Ev.DL.int Go.IntKind.u8 x2_12), Go.Ev.SL.d (Go.Ev.DL.int Go.IntKind.u8 x2_13), Go.Ev.SL.d (Go.Ev.DL.int Go.IntKind.u8 x2_14), Go.Ev.SL.d (Go.Ev.DL.int Go.IntKind.u8 x2_15), Go.Ev.SL.d (Go.Ev.DL.int Go.IntKind.u8 x2_16), Go.Ev.SL.d (Go.Ev.DL.int Go.IntKind.u8 x2_17), Go.Ev.SL.d (Go.Ev.DL.int Go.IntKind.u8 x2_18), Go.Ev.SL.d (Go.Ev.DL.int Go.IntKind.u8 x2_19), Go.Ev.SL.d (Go.Ev.DL.int Go.IntKind.u8 x2_20), Go.Ev.SL.d (Go.Ev.DL.int Go.IntKind.u8 x2_21), Go.Ev.SL.d (Go.Ev.DL.int Go.IntKind.u8 x2_22), Go.Ev.SL.d (Go.Ev.DL.int Go.IntKind.u8 x2_23), Go.Ev.SL.d (Go.Ev.DL.int Go.IntKind.u8 x2_24), Go.Ev.SL.d (Go.Ev.DL.int Go.IntKind.u8 x2_25), Go.Ev.SL.d (Go.Ev.DL.int Go.IntKind.u8 x2_26), Go.Ev.SL.d (Go.Ev.DL.int Go.IntKind.u8 x2_27), Go.Ev.SL.d (Go.Ev.DL.int Go.IntKind.u8 x2_28), Go.Ev.SL.d (Go.Ev.DL.int Go.IntKind.u8 x2_29), Go.Ev.SL.d (Go.Ev.DL.int Go.IntKind.u8 x2_30), Go.Ev.SL.d (Go.Ev.DL.int Go.IntKind.u8 x2_31)]], []) => some ⟨([x1_0, x1_1, x1_2, x1_3, x1_4, x1_5, x1_6, x1_7, x1_8, x1_9, x1_10, x1_11, x1_12, x1_13, x1_14, x1_15, x1_16, x1_17, x1_18, x1_19, x1_20, x1_21, x1_22, x1_23, x1_24, x1_25, x1_26, x1_27, x1_28, x1_29, x1_30, x1_31], [x2_0, x2_1, x2_2, x2_3, x2_4, x2_5, x2_6, x2_7, x2_8, x2_9, x2_10, x2_11, x2_12, x2_13, x2_14, x2_15, x2_16, x2_17, x2_18, x2_19, x2_20, x2_21, x2_22, x2_23, x2_24, x2_25, x2_26, x2_27, x2_28, x2_29, x2_30, x2_31]), rfl⟩
  | _ => none
abbrev o45 : Type := List Int
def ret45 : o45 → CSt := fun b => ([Go.Ev.SV.agg (Go.Ev.pkS Go.IntKind.u8 b (32 : Nat))], [])
def retK45 {R : Type} (K : CSt → Option R) : o45 → Option R := fun b => K (([Go.Ev.SV.agg (Go.Ev.pkS Go.IntKind.u8 b (32 : Nat))], []))
theorem retK45_eq {R : Type} (K : CSt → Option R) (b : o45) : retK45 K b = K (ret45 b) := rfl
abbrev Sd45 (f : i45 → Option o45) : Prop := ∀ a b, f a = some b → CallOk Try.prog 45 (enc45 a) (ret45 b)
def ent45 (f : i45 → Option o45) : Ent := mkEnt 45 dec45 ret45 retK45 retK45_eq f
def ann45 : Nat → List Nat × List Nat := fun id => ([], [])
def br45 : FuncId → Bool := fun (g : Nat) => ([67, 72] : List Nat).any (Nat.beq g)
def ar45 : TypeId → Bool := fun (t : Nat) => ([24, 25, 79, 82] : List Nat).any (Nat.beq t)
noncomputable def t45 {R : Type} (sh : Sh) (f65 : i65 → Option o65) (x1 : List Int) (x2 : List Int) (k : o45 → Option R) : Option R :=
  sh (Go.Ev.colD (Go.Ev.mapD Go.IntKind.u8 (Go.Ev.pkL x1 (32 : Nat))) : Rows) fun y1 =>
  sh (Go.Ev.colD (Go.Ev.mapD Go.IntKind.u8 (Go.Ev.pkL x2 (32 : Nat))) : Rows) fun y2 =>
  sh (List.replicate (32 : Nat) [Go.Ev.DL.int Go.IntKind.u8 (0 : Int)] : Rows) fun y3 =>
  bif Decidable.decide (List.length y1 = (32 : Nat)) then
    bif Decidable.decide (List.length y2 = (32 : Nat)) then
      (f65 ((381 : Int), Go.Ev.colI y1 (32 : Nat), Go.Ev.colI y2 (32 : Nat))).bind fun (r4 : List Int) =>
      bif Decidable.decide (List.length y3 = (32 : Nat)) then
        sh (Go.Ev.colD (Go.Ev.mapD Go.IntKind.u8 (Go.Ev.pkL r4 (32 : Nat))) : Rows) fun y5 =>
        bif Decidable.decide (List.length y5 = (32 : Nat)) then
          k (Go.Ev.colI y5 (32 : Nat))
        else none
      else none
    else none
  else none
theorem t45_eq {R : Type} (sh : Sh) (hsh : ∀ {α R : Type} (x : α) (K : α → Option R), sh x K = K x) (f65 : i65 → Option o65) (x1 : List Int) (x2 : List Int) (K : CSt → Option R) : bodyK Try.prog (tabO sh hsh br45 ar45 [ent65 f65]) (tabL []) ann45 false Try.f45 (enc45 (x1, x2)) K = t45 sh f65 x1 x2 (retK45 K) := by kernel_rfl
theorem t45_law {R : Type} (f65 : i65 → Option o65) (x1 : List Int) (x2 : List Int) (K : o45 → Option R) : t45 sh0 f65 x1 x2 K = (t45 sh0 f65 x1 x2 some).bind K := by
  simp only [t45, sh0, cond_bind', two_bind, none_bind', Option.bind_assoc, Option.bind_some]
theorem ok45 (f65 : i65 → Option o65) (hf65 : Sd65 f65) : Sd45 (fun a => t45 sh0 f65 a.1 a.2 some) := by
  intro a b h
  refine call_ok (sh := sh0) (hsh := fun _ _ => rfl) (br := br45) (ar := ar45) (own := false) Try.mixed Try.func45 (by kernel_rfl) (.cons (mkEnt_ok hf65) .nil) (fun nt => .nil) ((t45_eq sh0 (fun _ _ => rfl) f65 a.1 a.2 _).trans ?_)
  rw [t45_law]
  simp only at h
  rw [h, Option.bind_some, retK45_eq]

/-! 40 erasure/merkle.root -/
abbrev i40 : Type := List Int × Int
def enc40 : i40 → CSt := fun a => ([Go.Ev.SV.agg (Go.Ev.pkS Go.IntKind.u8 a.1 (32 : Nat)), Go.Ev.SV.one (Go.Ev.SL.d (Go.Ev.DL.int Go.IntKind.i64 a.2))], [])
def dec40 : (c : CSt) → Option { a : i40 // c = enc40 a }
  | ([Go.Ev.SV.agg [Go.Ev.SL.d (Go.Ev.DL.int Go.IntKind.u8 x1_0), Go.Ev.SL.d (Go.Ev.DL.int Go.IntKind.u8 x1_1), Go.Ev.SL.d (Go.Ev.DL.int Go.IntKind.u8 x1_2), Go.Ev.SL.d (Go.Ev.DL.int Go.IntKind.u8 x1_3), Go.Ev.SL.d (Go.Ev.DL.int Go.IntKind.u8 x1_4), Go.Ev.SL.d (Go.Ev.DL.int Go.IntKind.u8 x1_5), Go.Ev.SL.d (Go.Ev.DL.int Go.IntKind.u8 x1_6), Go.Ev.SL.d (Go.Ev.DL.int Go.IntKind.u8 x1_7), Go.Ev.SL.d (Go.Ev.DL.int Go.IntKind.u8 x1_8), Go.Ev.SL.d (Go.Ev.DL.int Go.IntKind.u8 x1_9), Go.Ev.SL.d (Go.Ev.DL.int Go.IntKind.u8 x1_10), Go.Ev.SL.d (Go.Ev.DL.int Go.IntKind.u8 x1_11), Go.Ev.SL.d (Go.Ev.DL.int Go.IntKind.u8 x1_12), Go.Ev.SL.d (Go.Ev.DL.int Go.IntKind.u8 x1_13), Go.Ev.SL.d (Go.Ev.DL.int Go.IntKind.u8 x1_14), Go.Ev.SL.d (Go.Ev.DL.int Go.IntKind.u8 x1_15), Go.Ev.SL.d (Go.Ev.DL.int Go.IntKind.u8 x1_16), Go.Ev.SL.d (Go.Ev.DL.int Go.IntKind.u8 x1_17), Go.Ev.SL.d (Go.Ev.DL.int Go.IntKind.u8 x1_18), Go.Ev.SL.d (Go.Ev.DL.int Go.IntKind.u8 x1_19), Go.Ev.SL.d (Go.Ev.DL.int Go.IntKind.u8 x1_20), Go.Ev.SL.d (Go.Ev.DL.int Go.IntKind.u8 x1_21), Go.Ev.SL.d (Go.Ev.DL.int Go.IntKind.u8 x1_22), Go.Ev.SL.d (Go.Ev.DL.int Go.IntKind.u8 x1_23), Go.Ev.SL.d (Go.Ev.DL.int Go.IntKind.u8 x1_24), Go.Ev.SL.d (Go.Ev.DL.int Go.IntKind.u8 x1_25), Go.Ev.SL.d (Go.Ev.DL.int Go.IntKind.u8 x1_26), Go.Ev.SL.d (Go.Ev.DL.int Go.IntKind.u8 x1_27), Go.Ev.SL.d (Go.Ev.DL.int Go.IntKind.u8 x1_28), Go.Ev.SL.d (Go.Ev.DL.int Go.IntKind.u8 x1_29), Go.Ev.SL.d (Go.Ev.DL.int Go.IntKind.u8 x1_30), Go.Ev.SL.d (Go.Ev.DL.int Go.IntKind.u8 x1_31)], Go.Ev.SV.one (Go.Ev.SL.d (Go.Ev.DL.int Go.IntKind.i64 x2))], []) => some ⟨([x1_0, x1_1, x1_2, x1_3, x1_4, x1_5, x1_6, x1_7, x1_8, x1_9, x1_10, x1_11, x1_12, x1_13, x1_14, x1_15, x1_16, x1_17, x1_18, x1_19, x1_20, x1_21, x1_22, x1_23, x1_24, x1_25, x1_26, x1_27, x1_28, x1_29, x1_30, x1_31], x2), rfl⟩
  | _ => none
abbrev o40 : Type := List Int
def ret40 : o40 → CSt := fun b => ([Go.Ev.SV.agg (Go.Ev.pkS Go.IntKind.u8 b (32 : Nat))], [])
def retK40 {R : Type} (K : CSt → Option R) : o40 → Option R := fun b => K (([Go.Ev.SV.agg (Go.Ev.pkS Go.IntKind.u8 b (32 : Nat))], []))
theorem retK40_eq {R : Type} (K : CSt → Option R) (b : o40) : retK40 K b = K (ret40 b) := rfl
abbrev Sd40 (f : i40 → Option o40) : Prop := ∀ a b, f a = some b → CallOk Try.prog 40 (enc40 a) (ret40 b)
def ent40 (f : i40 → Option o40) : Ent := mkEnt 40 dec40 ret40 retK40 retK40_eq f
def ann40 : Nat → List Nat × List Nat := fun id => ([], [])
def br40 : FuncId → Bool := fun (g : Nat) => ([67, 72] : List Nat).any (Nat.beq g)
def ar40 : TypeId → Bool := fun (t : Nat) => ([24, 25, 79, 82] : List Nat).any (Nat.beq t)
noncomputable def t40 {R : Type} (sh : Sh) (f62 : i62 → Option o62) (f61 : i61 → Option o61) (x1 : List Int) (x2 : Int) (k : o40 → Option R) : Option R :=
  sh (Go.Ev.colD (Go.Ev.mapD Go.IntKind.u8 (Go.Ev.pkL x1 (32 : Nat))) : Rows) fun y1 =>
  sh (List.replicate (32 : Nat) [Go.Ev.DL.int Go.IntKind.u8 (0 : Int)] : Rows) fun y2 =>
  bif Decidable.decide (List.length y1 = (32 : Nat)) then
    (f62 ([], x2)).bind fun (r3 : Rows) =>
    (f61 ((382 : Int), Go.Ev.colI y1 (32 : Nat), r3)).bind fun (r4 : List Int) =>
    bif Decidable.decide (List.length y2 = (32 : Nat)) then
      sh (Go.Ev.colD (Go.Ev.mapD Go.IntKind.u8 (Go.Ev.pkL r4 (32 : Nat))) : Rows) fun y5 =>
      bif Decidable.decide (List.length y5 = (32 : Nat)) then
        k (Go.Ev.colI y5 (32 : Nat))
      else none
    else none
  else none
theorem t40_eq {R : Type} (sh : Sh) (hsh : ∀ {α R : Type} (x : α) (K : α → Option R), sh x K = K x) (f62 : i62 → Option o62) (f61 : i61 → Option o61) (x1 : List Int) (x2 : Int) (K : CSt → Option R) : bodyK Try.prog (tabO sh hsh br40 ar40 [ent62 f62, ent61 f61]) (tabL []) ann40 false Try.f40 (enc40 (x1, x2)) K = t40 sh f62 f61 x1 x2 (retK40 K) := by kernel_rfl
theorem t40_law {R : Type} (f62 : i62 → Option o62) (f61 : i61 → Option o61) (x1 : List Int) (x2 : Int) (K : o40 → Option R) : t40 sh0 f62 f61 x1 x2 K = (t40 sh0 f62 f61 x1 x2 some).bind K := by
  simp only [t40, sh0, cond_bind', two_bind, none_bind', Option.bind_assoc, Option.bind_some]
theorem ok40 (f62 : i62 → Option o62) (f61 : i61 → Option o61) (hf62 : Sd62 f62) (hf61 : Sd61 f61) : Sd40 (fun a => t40 sh0 f62 f61 a.1 a.2 some) := by
  intro a b h
  refine call_ok (sh := sh0) (hsh := fun _ _ => rfl) (br := br40) (ar := ar40) (own := false) Try.mixed Try.func40 (by kernel_rfl) (.cons (mkEnt_ok hf62) (.cons (mkEnt_ok hf61) .nil)) (fun nt => .nil) ((t40_eq sh0 (fun _ _ => rfl) f62 f61 a.1 a.2 _).trans ?_)
  rw [t40_law]
  simp only at h
  rw [h, Option.bind_some, retK40_eq]

/-! 25 erasure/merkle.Apply -/
abbrev i25 : Type := List Int × Int × Int × Rows
def enc25 : i25 → CSt := fun a => ([Go.Ev.SV.agg (Go.Ev.pkS Go.IntKind.u8 a.1 (32 : Nat)), Go.Ev.SV.agg [Go.Ev.SL.d (Go.Ev.DL.int Go.IntKind.i64 a.2.1), Go.Ev.SL.d (Go.Ev.DL.int Go.IntKind.i64 a.2.2.1), Go.Ev.SL.d (Go.Ev.DL.lst (25 : Nat) a.2.2.2)]], [])
def dec25 : (c : CSt) → Option { a : i25 // c = enc25 a }
  | ([Go.Ev.SV.agg [Go.Ev.SL.d (Go.Ev.DL.int Go.IntKind.u8 x1_0), Go.Ev.SL.d (Go.Ev.DL.int Go.IntKind.u8 x1_1), Go.Ev.SL.d (Go.Ev.DL.int Go.IntKind.u8 x1_2), Go.Ev.SL.d (Go.Ev.DL.int Go.IntKind.u8 x1_3), Go.Ev.SL.d (Go.Ev.DL.int Go.IntKind.u8 x1_4), Go.Ev.SL.d (Go.Ev.DL.int Go.IntKind.u8 x1_5), Go.Ev.SL.d (Go.Ev.DL.int Go.IntKind.u8 x1_6), Go.Ev.SL.d (Go.Ev.DL.int Go.IntKind.u8 x1_7), Go.Ev.SL.d (Go.Ev.DL.int Go.IntKind.u8 x1_8), Go.Ev.SL.d (Go.Ev.DL.int Go.IntKind.u8 x1_9), Go.Ev.SL.d (Go.Ev.DL.int Go.IntKind.u8 x1_10), Go.Ev.SL.d (Go.Ev.DL.int Go.IntKind.u8 x1_11), Go.Ev.SL.d (Go.Ev.DL.int Go.IntKind.u8 x1_12), Go.Ev.SL.d (Go.Ev.DL.int Go.IntKind.u8 x1_13), Go.Ev.SL.d (Go.Ev.DL.int Go.IntKind.u8 x1_14), Go.Ev.SL.d (Go.Ev.DL.int Go.IntKind.u8 x1_15), Go.Ev.SL.d (Go.Ev.DL.int Go.IntKind.u8 x1_16), Go.Ev.SL.d (Go.Ev.DL.int Go.IntKind.u8 x1_17), Go.Ev.SL.d (Go.Ev.DL.int Go.IntKind.u8 x1_18), Go.Ev.SL.d (Go.Ev.DL.int Go.IntKind.u8 x1_19), Go.Ev.SL.d (Go.Ev.DL.int Go.IntKind.u8 x1_20), Go.Ev.SL.d (Go.Ev.DL.int Go.IntKind.u8 x1_21), Go.Ev.SL.d (Go.Ev.DL.int Go.IntKind.u8 x1_22), Go.Ev.SL.d (Go.Ev.DL.int Go.IntKind.u8 x1_23), Go.Ev.SL.d (Go.Ev.DL.int Go.IntKind.u8 x1_24), Go.Ev.SL.d (Go.Ev.DL.int Go.IntKind.u8 x1_25), Go.Ev.SL.d (Go.Ev.DL.int Go.IntKind.u8 x1_26), Go.Ev.SL.d (Go.Ev.DL.int Go.IntKind.u8 x1_27), Go.Ev.SL.d (Go.Ev.DL.int Go.IntKind.u8 x1_28), Go.Ev.SL.d (Go.Ev.DL.int Go.IntKind.u8 x1_29), Go.Ev.SL.d (Go.Ev.DL.int Go.IntKind.u8 x1_30), Go.Ev.SL.d (Go.Ev.DL.int Go.IntKind.u8 x1_31)], Go.Ev.SV.agg [Go.Ev.SL.d (Go.Ev.DL.int Go.IntKind.i64 x2), Go.Ev.SL.d (Go.Ev.DL.int Go.IntKind.i64 x3), Go.Ev.SL.d (Go.Ev.DL.lst (25 : Nat) x4)]], []) => some ⟨([x1_0, x1_1, x1_2, x1_3, x1_4, x1_5, x1_6, x1_7, x1_8, x1_9, x1_10, x1_11, x1_12, x1_13, x1_14, x1_15, x1_16, x1_17, x1_18, x1_19, x1_20, x1_21, x1_22, x1_23, x1_24, x1_25, x1_26, x1_27, x1_28, x1_29, x1_30, x1_31], x2, x3, x4), rfl⟩
  | _ => none
abbrev o25 : Type := List Int × Int
def ret25 : o25 → CSt := fun b => ([Go.Ev.SV.agg (Go.Ev.pkS Go.IntKind.u8 b.1 (32 : Nat)), Go.Ev.SV.one (Go.Ev.SL.d (Go.Ev.DL.int Go.IntKind.i64 b.2))], [])
def retK25 {R : Type} (K : CSt → Option R) : o25 → Option R := fun b => K (([Go.Ev.SV.agg (Go.Ev.pkS Go.IntKind.u8 b.1 (32 : Nat)), Go.Ev.SV.one (Go.Ev.SL.d (Go.Ev.DL.int Go.IntKind.i64 b.2))], []))
theorem retK25_eq {R : Type} (K : CSt → Option R) (b : o25) : retK25 K b = K (ret25 b) := rfl
abbrev Sd25 (f : i25 → Option o25) : Prop := ∀ a b, f a = some b → CallOk Try.prog 25 (enc25 a) (ret25 b)
def ent25 (f : i25 → Option o25) : Ent := mkEnt 25 dec25 ret25 retK25 retK25_eq f
def ann25 : Nat → List Nat × List Nat := fun id => bif Nat.beq id 7 then ([3, 4, 6, 7, 8, 9], [3, 4, 5, 6, 7]) else ([], [])
def br25 : FuncId → Bool := fun (g : Nat) => ([67, 72] : List Nat).any (Nat.beq g)
def ar25 : TypeId → Bool := fun (t : Nat) => ([24, 25, 79, 82] : List Nat).any (Nat.beq t)
abbrev iL25_7 : Type := Int × Int × Int × Int × Int × Rows × Rows × Rows
def encL25_7 : iL25_7 → CSt := fun a => ([Go.Ev.SV.one (Go.Ev.SL.ptr (0 : Nat) (0 : Nat)), Go.Ev.SV.one (Go.Ev.SL.ept (1 : Nat) (0 : Nat) (0 : Nat)), Go.Ev.SV.one (Go.Ev.SL.ept (2 : Nat) (0 : Nat) (0 : Nat)), Go.Ev.SV.one (Go.Ev.SL.d (Go.Ev.DL.int Go.IntKind.i64 a.1)), Go.Ev.SV.one (Go.Ev.SL.d (Go.Ev.DL.int Go.IntKind.i64 a.2.1)), Go.Ev.SV.one (Go.Ev.SL.d (Go.Ev.DL.int Go.IntKind.i64 a.2.2.1))], [Go.Ev.Obj.box (32 : Nat) [Go.Ev.SL.d (Go.Ev.DL.int Go.IntKind.i64 a.2.2.2.1), Go.Ev.SL.d (Go.Ev.DL.int Go.IntKind.i64 a.2.2.2.2.1), Go.Ev.SL.d (Go.Ev.DL.lst (25 : Nat) a.2.2.2.2.2.1)], Go.Ev.Obj.vec (5 : Nat) Bool.false a.2.2.2.2.2.2.1, Go.Ev.Obj.vec (5 : Nat) Bool.false a.2.2.2.2.2.2.2])
def decL25_7 : (c : CSt) → Option { a : iL25_7 // c = encL25_7 a }
  | ([Go.Ev.SV.one (Go.Ev.SL.ptr (0 : Nat) (0 : Nat)), Go.Ev.SV.one (Go.Ev.SL.ept (1 : Nat) (0 : Nat) (0 : Nat)), Go.Ev.SV.one (Go.Ev.SL.ept (2 : Nat) (0 : Nat) (0 : Nat)), Go.Ev.SV.one (Go.Ev.SL.d (Go.Ev.DL.int Go.IntKind.i64 x1)), Go.Ev.SV.one (Go.Ev.SL.d (Go.Ev.DL.int Go.IntKind.i64 x2)), Go.Ev.SV.one (Go.Ev.SL.d (Go.Ev.DL.int Go.IntKind.i64 x3))], [Go.Ev.Obj.box (32 : Nat) [Go.Ev.SL.d (Go.Ev.DL.int Go.IntKind.i64 x4), Go.Ev.SL.d (Go.Ev.DL.int Go.IntKind.i64 x5), Go.Ev.SL.d (Go.Ev.DL.lst (25 : Nat) x6)], Go.Ev.Obj.vec (5 : Nat) Bool.false x7, Go.Ev.Obj.vec (5 : Nat) Bool.false x8]) => some ⟨(x1, x2, x3, x4, x5, x6, x7, x8), rfl⟩
  | _ => none
abbrev oL25_7 : Type := (Int × Int × Int × Int × Rows × Rows × Rows) ⊕ (Int × Int × Int × Rows × Rows × Rows)
def retL25_7 : oL25_7 → Ex × CSt := two (fun b => (Go.Ev.Ex.ret, ([Go.Ev.SV.one (Go.Ev.SL.ptr (0 : Nat) (0 : Nat)), Go.Ev.SV.one (Go.Ev.SL.ept (1 : Nat) (0 : Nat) (0 : Nat)), Go.Ev.SV.one (Go.Ev.SL.d (Go.Ev.DL.int Go.IntKind.i64 b.1)), Go.Ev.SV.one (Go.Ev.SL.ept (2 : Nat) (0 : Nat) (0 : Nat)), Go.Ev.SV.one (Go.Ev.SL.d (Go.Ev.DL.int Go.IntKind.i64 b.2.1))], [Go.Ev.Obj.box (32 : Nat) [Go.Ev.SL.d (Go.Ev.DL.int Go.IntKind.i64 b.2.2.1), Go.Ev.SL.d (Go.Ev.DL.int Go.IntKind.i64 b.2.2.2.1), Go.Ev.SL.d (Go.Ev.DL.lst (25 : Nat) b.2.2.2.2.1)], Go.Ev.Obj.vec (5 : Nat) Bool.false b.2.2.2.2.2.1, Go.Ev.Obj.vec (5 : Nat) Bool.false b.2.2.2.2.2.2]))) (fun b => (Go.Ev.Ex.exit (0 : Nat), ([Go.Ev.SV.one (Go.Ev.SL.ptr (0 : Nat) (0 : Nat)), Go.Ev.SV.one (Go.Ev.SL.ept (1 : Nat) (0 : Nat) (0 : Nat)), Go.Ev.SV.one Go.Ev.SL.un, Go.Ev.SV.one (Go.Ev.SL.ept (2 : Nat) (0 : Nat) (0 : Nat)), Go.Ev.SV.one (Go.Ev.SL.d (Go.Ev.DL.int Go.IntKind.i64 b.1))], [Go.Ev.Obj.box (32 : Nat) [Go.Ev.SL.d (Go.Ev.DL.int Go.IntKind.i64 b.2.1), Go.Ev.SL.d (Go.Ev.DL.int Go.IntKind.i64 b.2.2.1), Go.Ev.SL.d (Go.Ev.DL.lst (25 : Nat) b.2.2.2.1)], Go.Ev.Obj.vec (5 : Nat) Bool.false b.2.2.2.2.1, Go.Ev.Obj.vec (5 : Nat) Bool.false b.2.2.2.2.2])))
def retKL25_7 {R : Type} (K : Ex → CSt → Option R) : oL25_7 → Option R := two (fun b => K (Go.Ev.Ex.ret) (([Go.Ev.SV.one (Go.Ev.SL.ptr (0 : Nat) (0 : Nat)), Go.Ev.SV.one (Go.Ev.SL.ept (1 : Nat) (0 : Nat) (0 : Nat)), Go.Ev.SV.one (Go.Ev.SL.d (Go.Ev.DL.int Go.IntKind.i64 b.1)), Go.Ev.SV.one (Go.Ev.SL.ept (2 : Nat) (0 : Nat) (0 : Nat)), Go.Ev.SV.one (Go.Ev.SL.d (Go.Ev.DL.int Go.IntKind.i64 b.2.1))], [Go.Ev.Obj.box (32 : Nat) [Go.Ev.SL.d (Go.Ev.DL.int Go.IntKind.i64 b.2.2.1), Go.Ev.SL.d (Go.Ev.DL.int Go.IntKind.i64 b.2.2.2.1), Go.Ev.SL.d (Go.Ev.DL.lst (25 : Nat) b.2.2.2.2.1)], Go.Ev.Obj.vec (5 : Nat) Bool.false b.2.2.2.2.2.1, Go.Ev.Obj.vec (5 : Nat) Bool.false b.2.2.2.2.2.2]))) (fun b => K (Go.Ev.Ex.exit (0 : Nat)) (([Go.Ev.SV.one (Go.Ev.SL.ptr (0 : Nat) (0 : Nat)), Go.Ev.SV.one (Go.Ev.SL.ept (1 : Nat) (0 : Nat) (0 : Nat)), Go.Ev.SV.one Go.Ev.SL.un, Go.Ev.SV.one (Go.Ev.SL.ept (2 : Nat) (0 : Nat) (0 : Nat)), Go.Ev.SV.one (Go.Ev.SL.d (Go.Ev.DL.int Go.IntKind.i64 b.1))], [Go.Ev.Obj.box (32 : Nat) [Go.Ev.SL.d (Go.Ev.DL.int Go.IntKind.i64 b.2.1), Go.Ev.SL.d (Go.Ev.DL.int Go.IntKind.i64 b.2.2.1), Go.Ev.SL.d (Go.Ev.DL.lst (25 : Nat) b.2.2.2.1)], Go.Ev.Obj.vec (5 : Nat) Bool.false b.2.2.2.2.1, Go.Ev.Obj.vec (5 : Nat) Bool.false b.2.2.2.2.2])))
theorem retKL25_7_eq {R : Type} (K : Ex → CSt → Option R) (b : oL25_7) : retKL25_7 K b = K (retL25_7 b).1 (retL25_7 b).2 := by
  unfold retKL25_7 retL25_7
  repeat' (first | rfl | cases b with | inl b => rfl | inr b => ?_)
def entL25_7 (l : iL25_7 → Option oL25_7) : LEnt := mkLEnt 7 decL25_7 retL25_7 retKL25_7 retKL25_7_eq l
abbrev SdL25_7 (l : iL25_7 → Option oL25_7) : Prop := ∀ nt a b, l a = some b → LoopAt Try.prog nt 0 ann25 Try.f25 7 (encL25_7 a) (retL25_7 b)
noncomputable def u25_7 {R : Type} (sh : Sh) (f45 : i45 → Option o45) (l25_7 : iL25_7 → Option oL25_7) (x1 : Int) (x2 : Int) (x3 : Int) (x4 : Int) (x5 : Int) (x6 : Rows) (x7 : Rows) (x8 : Rows) (k : oL25_7 → Option R) : Option R :=
  bif Decidable.decide (x3 > (1 : Int)) then
    sh (Go.IntKind.wrap Go.IntKind.i64 (↑(BitVec.toNat (BitVec.ofInt (64 : Nat) x2 ^^^ BitVec.ofInt (64 : Nat) (1 : Int))) : Int)) fun y10 =>
    bif Decidable.decide (y10 < x3) then
      sh ((↑(List.length x6) : Int)) fun y11 =>
      bif Decidable.decide (x1 ≥ y11) then
        bif Decidable.decide (List.length x7 = (32 : Nat)) then
          sh (List.replicate (32 : Nat) [Go.Ev.DL.int Go.IntKind.u8 (0 : Int)] : Rows) fun y12 =>
          k ((.inl ((1 : Int), x1, x4, x5, x6, y12, x8)))
        else none
      else
        bif Int.tmod x2 (2 : Int) == (0 : Int) then
          bif Decidable.decide (List.length x8 = (32 : Nat)) then
            bif Decidable.decide ((0 : Int) ≤ x1 ∧ x1 < (↑(List.length x6) : Int)) then
              (f45 (Go.Ev.colI x8 (32 : Nat), Go.Ev.rowI x6 (Int.toNat x1) (32 : Nat))).bind fun (r13 : List Int) =>
              bif Decidable.decide (List.length x8 = (32 : Nat)) then
                sh (Go.Ev.colD (Go.Ev.mapD Go.IntKind.u8 (Go.Ev.pkL r13 (32 : Nat))) : Rows) fun y14 =>
                (l25_7 (Go.IntKind.wrap Go.IntKind.i64 (x1 + (1 : Int)), Go.IntKind.wrap Go.IntKind.i64 (Int.tdiv x2 (2 : Int)), Go.IntKind.wrap Go.IntKind.i64 (Int.tdiv (Go.IntKind.wrap Go.IntKind.i64 (x3 + (1 : Int))) (2 : Int)), x4, x5, x6, x7, y14)).bind k
              else none
            else none
          else none
        else
          bif Decidable.decide ((0 : Int) ≤ x1 ∧ x1 < (↑(List.length x6) : Int)) then
            bif Decidable.decide (List.length x8 = (32 : Nat)) then
              (f45 (Go.Ev.rowI x6 (Int.toNat x1) (32 : Nat), Go.Ev.colI x8 (32 : Nat))).bind fun (r15 : List Int) =>
              bif Decidable.decide (List.length x8 = (32 : Nat)) then
                sh (Go.Ev.colD (Go.Ev.mapD Go.IntKind.u8 (Go.Ev.pkL r15 (32 : Nat))) : Rows) fun y16 =>
                (l25_7 (Go.IntKind.wrap Go.IntKind.i64 (x1 + (1 : Int)), Go.IntKind.wrap Go.IntKind.i64 (Int.tdiv x2 (2 : Int)), Go.IntKind.wrap Go.IntKind.i64 (Int.tdiv (Go.IntKind.wrap Go.IntKind.i64 (x3 + (1 : Int))) (2 : Int)), x4, x5, x6, x7, y16)).bind k
              else none
            else none
          else none
    else
      (l25_7 (x1, Go.IntKind.wrap Go.IntKind.i64 (Int.tdiv x2 (2 : Int)), Go.IntKind.wrap Go.IntKind.i64 (Int.tdiv (Go.IntKind.wrap Go.IntKind.i64 (x3 + (1 : Int))) (2 : Int)), x4, x5, x6, x7, x8)).bind k
  else
    k ((.inr (x1, x4, x5, x6, x7, x8)))
theorem u25_7_eq {R : Type} (sh : Sh) (hsh : ∀ {α R : Type} (x : α) (K : α → Option R), sh x K = K x) (f45 : i45 → Option o45) (l25_7 : iL25_7 → Option oL25_7) (x1 : Int) (x2 : Int) (x3 : Int) (x4 : Int) (x5 : Int) (x6 : Rows) (x7 : Rows) (x8 : Rows) (K : Ex → CSt → Option R) : roundK Try.prog (tabO sh hsh br25 ar25 [ent45 f45]) (tabL [entL25_7 l25_7]) ann25 0 Try.f25 7 (encL25_7 (x1, x2, x3, x4, x5, x6, x7, x8)) K = u25_7 sh f45 l25_7 x1 x2 x3 x4 x5 x6 x7 x8 (retKL25_7 K) := by kernel_rfl
theorem u25_7_law {R : Type} (f45 : i45 → Option o45) (l25_7 : iL25_7 → Option oL25_7) (x1 : Int) (x2 : Int) (x3 : Int) (x4 : Int) (x5 : Int) (x6 : Rows) (x7 : Rows) (x8 : Rows) (K : oL25_7 → Option R) : u25_7 sh0 f45 l25_7 x1 x2 x3 x4 x5 x6 x7 x8 K = (u25_7 sh0 f45 l25_7 x1 x2 x3 x4 x5 x6 x7 x8 some).bind K := by
  simp only [u25_7, sh0, cond_bind', two_bind, none_bind', Option.bind_assoc, Option.bind_some]
theorem okL25_7 (f45 : i45 → Option o45) (l25_7 : iL25_7 → Option oL25_7) (hf45 : Sd45 f45) (hl25_7 : SdL25_7 l25_7) : SdL25_7 (fun a => u25_7 sh0 f45 l25_7 a.1 a.2.1 a.2.2.1 a.2.2.2.1 a.2.2.2.2.1 a.2.2.2.2.2.1 a.2.2.2.2.2.2.1 a.2.2.2.2.2.2.2 some) := by
  intro nt a b h
  refine round_ok (sh := sh0) (hsh := fun _ _ => rfl) (br := br25) (ar := ar25) Try.mixed (by kernel_rfl) (.cons (mkEnt_ok hf45) .nil) (.cons (mkLEnt_ok (hl25_7 nt)) .nil) ((u25_7_eq sh0 (fun _ _ => rfl) f45 l25_7  a.1 a.2.1 a.2.2.1 a.2.2.2.1 a.2.2.2.2.1 a.2.2.2.2.2.1 a.2.2.2.2.2.2.1 a.2.2.2.2.2.2.2 _).trans ?_)
  rw [u25_7_law]
  simp only at h
  rw [h, Option.bind_some, retKL25_7_eq]
noncomputable def t25 {R : Type} (sh : Sh) (f44 : i44 → Option o44) (f40 : i40 → Option o40) (l25_7 : iL25_7 → Option oL25_7) (x1 : List Int) (x2 : Int) (x3 : Int) (x4 : Rows) (k : o25 → Option R) : Option R :=
  sh (Go.Ev.colD (Go.Ev.mapD Go.IntKind.u8 (Go.Ev.pkL x1 (32 : Nat))) : Rows) fun y1 =>
  sh (List.replicate (32 : Nat) [Go.Ev.DL.int Go.IntKind.u8 (0 : Int)] : Rows) fun y2 =>
  bif Decidable.decide (x3 < (1 : Int)) then
    bif Decidable.decide (List.length y2 = (32 : Nat)) then
      sh (List.replicate (32 : Nat) [Go.Ev.DL.int Go.IntKind.u8 (0 : Int)] : Rows) fun y3 =>
      bif Decidable.decide (List.length y3 = (32 : Nat)) then
        k ((Go.Ev.colI y3 (32 : Nat), (1 : Int)))
      else none
    else none
  else
    bif Decidable.decide (x3 > (4096 : Int)) then
      bif Decidable.decide (List.length y2 = (32 : Nat)) then
        sh (List.replicate (32 : Nat) [Go.Ev.DL.int Go.IntKind.u8 (0 : Int)] : Rows) fun y4 =>
        bif Decidable.decide (List.length y4 = (32 : Nat)) then
          k ((Go.Ev.colI y4 (32 : Nat), (1 : Int)))
        else none
      else none
    else
      bif Decidable.decide (x2 < (0 : Int)) then
        bif Decidable.decide (List.length y2 = (32 : Nat)) then
          sh (List.replicate (32 : Nat) [Go.Ev.DL.int Go.IntKind.u8 (0 : Int)] : Rows) fun y5 =>
          bif Decidable.decide (List.length y5 = (32 : Nat)) then
            k ((Go.Ev.colI y5 (32 : Nat), (1 : Int)))
          else none
        else none
      else
        bif Decidable.decide (x2 ≥ x3) then
          bif Decidable.decide (List.length y2 = (32 : Nat)) then
            sh (List.replicate (32 : Nat) [Go.Ev.DL.int Go.IntKind.u8 (0 : Int)] : Rows) fun y6 =>
            bif Decidable.decide (List.length y6 = (32 : Nat)) then
              k ((Go.Ev.colI y6 (32 : Nat), (1 : Int)))
            else none
          else none
        else
          bif Decidable.decide (List.length y1 = (32 : Nat)) then
            (f44 (Go.Ev.colI y1 (32 : Nat))).bind fun (r7 : List Int) =>
            sh (List.replicate (32 : Nat) [Go.Ev.DL.int Go.IntKind.u8 (0 : Int)] : Rows) fun y8 =>
            bif Decidable.decide (List.length y8 = (32 : Nat)) then
              sh (Go.Ev.colD (Go.Ev.mapD Go.IntKind.u8 (Go.Ev.pkL r7 (32 : Nat))) : Rows) fun y9 =>
              (l25_7 ((0 : Int), x2, x3, x2, x3, x4, y2, y9)).bind (two (fun (r17 : Int × Int × Int × Int × Rows × Rows × Rows) =>
                bif Decidable.decide (List.length (Prod.fst (Prod.snd (Prod.snd (Prod.snd (Prod.snd r17)))).2) = (32 : Nat)) then
                  k ((Go.Ev.colI (Prod.fst (Prod.snd (Prod.snd (Prod.snd (Prod.snd r17)))).2) (32 : Nat), Prod.fst r17))
                else none
              ) (fun (r18 : Int × Int × Int × Rows × Rows × Rows) =>
                sh ((↑(List.length (Prod.fst (Prod.snd (Prod.snd r18)).2)) : Int)) fun y19 =>
                bif Prod.fst r18 != y19 then
                  bif Decidable.decide (List.length (Prod.fst (Prod.snd (Prod.snd (Prod.snd r18))).2) = (32 : Nat)) then
                    sh (List.replicate (32 : Nat) [Go.Ev.DL.int Go.IntKind.u8 (0 : Int)] : Rows) fun y20 =>
                    bif Decidable.decide (List.length y20 = (32 : Nat)) then
                      k ((Go.Ev.colI y20 (32 : Nat), (1 : Int)))
                    else none
                  else none
                else
                  bif Decidable.decide (List.length (Prod.snd (Prod.snd (Prod.snd (Prod.snd r18))).2) = (32 : Nat)) then
                    (f40 (Go.Ev.colI (Prod.snd (Prod.snd (Prod.snd (Prod.snd r18))).2) (32 : Nat), Prod.fst (Prod.snd r18).2)).bind fun (r21 : List Int) =>
                    bif Decidable.decide (List.length (Prod.fst (Prod.snd (Prod.snd (Prod.snd r18))).2) = (32 : Nat)) then
                      sh (Go.Ev.colD (Go.Ev.mapD Go.IntKind.u8 (Go.Ev.pkL r21 (32 : Nat))) : Rows) fun y22 =>
                      bif Decidable.decide (List.length y22 = (32 : Nat)) then
                        k ((Go.Ev.colI y22 (32 : Nat), (0 : Int)))
                      else none
                    else none
                  else none
              ))
            else none
          else none
theorem t25_eq {R : Type} (sh : Sh) (hsh : ∀ {α R : Type} (x : α) (K : α → Option R), sh x K = K x) (f44 : i44 → Option o44) (f40 : i40 → Option o40) (l25_7 : iL25_7 → Option oL25_7) (x1 : List Int) (x2 : Int) (x3 : Int) (x4 : Rows) (K : CSt → Option R) : bodyK Try.prog (tabO sh hsh br25 ar25 [ent44 f44, ent40 f40]) (tabL [entL25_7 l25_7]) ann25 false Try.f25 (enc25 (x1, x2, x3, x4)) K = t25 sh f44 f40 l25_7 x1 x2 x3 x4 (retK25 K) := by kernel_rfl
theorem t25_law {R : Type} (f44 : i44 → Option o44) (f40 : i40 → Option o40) (l25_7 : iL25_7 → Option oL25_7) (x1 : List Int) (x2 : Int) (x3 : Int) (x4 : Rows) (K : o25 → Option R) : t25 sh0 f44 f40 l25_7 x1 x2 x3 x4 K = (t25 sh0 f44 f40 l25_7 x1 x2 x3 x4 some).bind K := by
  simp only [t25, sh0, cond_bind', two_bind, none_bind', Option.bind_assoc, Option.bind_some]
theorem ok25 (f44 : i44 → Option o44) (f40 : i40 → Option o40) (l25_7 : iL25_7 → Option oL25_7) (hf44 : Sd44 f44) (hf40 : Sd40 f40) (hl25_7 : SdL25_7 l25_7) : Sd25 (fun a => t25 sh0 f44 f40 l25_7 a.1 a.2.1 a.2.2.1 a.2.2.2 some) := by
  intro a b h
  refine call_ok (sh := sh0) (hsh := fun _ _ => rfl) (br := br25) (ar := ar25) (own := false) Try.mixed Try.func25 (by kernel_rfl) (.cons (mkEnt_ok hf44) (.cons (mkEnt_ok hf40) .nil)) (fun nt => (.cons (mkLEnt_ok (hl25_7 nt)) .nil)) ((t25_eq sh0 (fun _ _ => rfl) f44 f40 l25_7 a.1 a.2.1 a.2.2.1 a.2.2.2 _).trans ?_)
  rw [t25_law]
  simp only at h
  rw [h, Option.bind_some, retK25_eq]

/-! 27 erasure/merkle.Verify -/
abbrev i27 : Type := List Int × List Int × Int × Int × Rows
def enc27 : i27 → CSt := fun a => ([Go.Ev.SV.agg (Go.Ev.pkS Go.IntKind.u8 a.1 (32 : Nat)), Go.Ev.SV.agg (Go.Ev.pkS Go.IntKind.u8 a.2.1 (32 : Nat)), Go.Ev.SV.agg [Go.Ev.SL.d (Go.Ev.DL.int Go.IntKind.i64 a.2.2.1), Go.Ev.SL.d (Go.Ev.DL.int Go.IntKind.i64 a.2.2.2.1), Go.Ev.SL.d (Go.Ev.DL.lst (25 : Nat) a.2.2.2.2)]], [])
def dec27 : (c : CSt) → Option { a : i27 // c = enc27 a }
  | ([Go.Ev.SV.agg [Go.Ev.SL.d (Go.Ev.DL.int Go.IntKind.u8 x1_0), Go.Ev.SL.d (Go.Ev.DL.int Go.IntKind.u8 x1_1), Go.Ev.SL.d (Go.Ev.DL.int Go.IntKind.u8 x1_2), Go.Ev.SL.d (Go.Ev.DL.int Go.IntKind.u8 x1_3), Go.Ev.SL.d (Go.Ev.DL.int Go.IntKind.u8 x1_4), Go.Ev.SL.d (Go.Ev.DL.int Go.IntKind.u8 x1_5), Go.Ev.SL.d (Go.Ev.DL.int Go.IntKind.u8 x1_6), Go.Ev.SL.d (Go.Ev.DL.int Go.IntKind.u8 x1_7), Go.Ev.SL.d (Go.Ev.DL.int Go.IntKind.u8 x1_8), Go.Ev.SL.d (Go.Ev.DL.int Go.IntKind.u8 x1_9), Go.Ev.SL.d (Go.Ev.DL.int Go.IntKind.u8 x1_10), Go.Ev.SL.d (Go.Ev.DL.int Go.IntKind.u8 x1_11), Go.Ev.SL.d (Go.Ev.DL.int Go.IntKind.u8 x1_12), Go.Ev.SL.d (Go.Ev.DL.int Go.IntKind.u8 x1_13), Go.Ev.SL.d (Go.Ev.DL.int Go.IntKind.u8 x1_14), Go.Ev.SL.d (Go.Ev.DL.int Go.IntKind.u8 x1_15), Go.Ev.SL.d (Go.Ev.DL.int Go.IntKind.u8 x1_16), Go.Ev.SL.d (Go.Ev.DL.int Go.IntKind.u8 x1_17), Go.Ev.SL.d (Go.Ev.DL.int Go.IntKind.u8 x1_18), Go.Ev.SL.d (Go.Ev.DL.int Go.IntKind.u8 x1_19), Go.Ev.SL.d (Go.Ev.DL.int Go.IntKind.u8 x1_20), Go.Ev.SL.d (Go.Ev.DL.int Go.IntKind.u8 x1_21), Go.Ev.SL.d (Go.Ev.DL.int Go.IntKind.u8 x1_22), Go.Ev.SL.d (Go.Ev.DL.int Go.IntKind.u8 x1_23), Go.Ev.SL.d (Go.Ev.DL.int Go.IntKind.u8 x1_24), Go.Ev.SL.d (Go.Ev.DL.int Go.IntKind.u8 x1_25), Go.Ev.SL.d (Go.Ev.DL.int Go.IntKind.u8 x1_26), Go.Ev.SL.d (Go.Ev.DL.int Go.IntKind.u8 x1_27), Go.Ev.SL.d (Go.Ev.DL.int Go.IntKind.u8 x1_28), Go.Ev.SL.d (Go.Ev.DL.int Go.IntKind.u8 x1_29), Go.Ev.SL.d (Go.Ev.DL.int Go.IntKind.u8 x1_30), Go.Ev.SL.d (Go.Ev.DL.int Go.IntKind.u8 x1_31)], Go.Ev.SV.agg [Go.Ev.SL.d (Go.Ev.DL.int Go.IntKind.u8 x2_0), Go.Ev.SL.d (Go.Ev.DL.int Go.IntKind.u8 x2_1), Go.Ev.SL.d (Go.Ev.DL.int Go.IntKind.u8 x2_2), Go.Ev.SL.d (Go.Ev.DL.int Go.IntKind.u8 x2_3), Go.Ev.SL.d (Go.Ev.DL.int Go.IntKind.u8 x2_4), Go.Ev.SL.d (Go.Ev.DL.int Go.IntKind.u8 x2_5), Go.Ev.SL.d (Go.Ev.DL.int Go.IntKind.u8 x2_6), Go.Ev.SL.d (Go.Ev.DL.int Go.IntKind.u8 x2_7), Go.Ev.SL.d (Go.Ev.DL.int Go.IntKind.u8 x2_8), Go.Ev.SL.d (Go.Ev.DL.int Go.IntKind.u8 x2_9), Go.Ev.SL.d (Go.Ev.DL.int Go.IntKind.u8 x2_10), Go.Ev.SL.d (Go.Ev.DL.int Go.IntKind.u8 x2_11), Go.Ev.SL.d (Go.Ev.DL.int Go.IntKind.u8 x2_12), Go.Ev.SL.d (Go.Ev.DL.int Go.IntKind.u8 x2_13), Go.Ev.SL.d (Go.Ev.DL.int Go.IntKind.u8 x2_14), Go.Ev.SL.d (Go.Ev.DL.int Go.IntKind.u8 x2_15), Go.Ev.SL.d (Go.Ev.DL.int Go.IntKind.u8 x2_16), Go.Ev.SL.d (Go.Ev.DL.int Go.IntKind.u8 x2_17), Go.Ev.SL.d (Go.Ev.DL.int Go.IntKind.u8 x2_18), Go.Ev.SL.d (Go.Ev.DL.int Go.IntKind.u8 x2_19), Go.Ev.SL.d (Go.Ev.DL.int Go.IntKind.u8 x2_20), Go.Ev.SL.d (Go.Ev.DL.int Go.IntKind.u8 x2_21), Go.Ev.SL.d (Go.Ev.DL.int Go.IntKind.u8 x2_22), Go.Ev.SL.d (Go.Ev.DL.int Go.IntKind.u8 x2_23), Go.Ev.SL.d (Go.Ev.DL.int Go.IntKind.u8 x2_24), Go.Ev.SL.d (Go.Ev.DL.int Go.IntKind.u8 x2_25), Go.Ev.SL.d (Go.Ev.DL.int Go.IntKind.u8 x2_26), Go.Ev.SL.d (Go.Ev.DL.int Go.IntKind.u8 x2_27), Go.Ev.SL.d (Go.Ev.DL.int Go.IntKind.u8 x2_28), Go.Ev.SL.d (Go.Ev.DL.int Go.IntKind.u8 x2_29), Go.Ev.SL.d (Go.Ev.DL.int Go.IntKind.u8 x2_30), Go.Ev.SL.d (Go.Ev.DL.int Go.IntKind.u8 x2_31)], Go.Ev.SV.agg [Go.Ev.SL.d (Go.Ev.DL.int Go.IntKind.i64 x3), Go.Ev.SL.d (Go.Ev.DL.int Go.IntKind.i64 x4), Go.Ev.SL.d (Go.Ev.DL.lst (25 : Nat) x5)]], []) => some ⟨([x1_0, x1_1, x1_2, x1_3, x1_4, x1_5, x1_6, x1_7, x1_8, x1_9, x1_10, x1_11, x1_12, x1_13, x1_14, x1_15, x1_16, x1_17, x1_18, x1_19, x1_20, x1_21, x1_22, x1_23, x1_24, x1_25, x1_26, x1_27, x1_28, x1_29, x1_30, x1_31], [x2_0, x2_1, x2_2, x2_3, x2_4, x2_5, x2_6, x2_7, x2_8, x2_9, x2_10, x2_11, x2_12, x2_13, x2_14, x2_15, x2_16, x2_17, x2_18, x2_19, x2_20, x2_21, x2_22, x2_23, x2_24, x2_25, x2_26, x2_27, x2_28, x2_29, x2_30, x2_31], x3, x4, x5), rfl⟩
  | _ => none
abbrev o27 : Type := Bool
def ret27 : o27 → CSt := fun b => ([Go.Ev.SV.one (Go.Ev.SL.d (Go.Ev.DL.bool b))], [])
def retK27 {R : Type} (K : CSt → Option R) : o27 → Option R := fun b => K (([Go.Ev.SV.one (Go.Ev.SL.d (Go.Ev.DL.bool b))], []))
theorem retK27_eq {R : Type} (K : CSt → Option R) (b : o27) : retK27 K b = K (ret27 b) := rfl
abbrev Sd27 (f : i27 → Option o27) : Prop := ∀ a b, f a = some b → CallOk Try.prog 27 (enc27 a) (ret27 b)
def ent27 (f : i27 → Option o27) : Ent := mkEnt 27 dec27 ret27 retK27 retK27_eq f
def ann27 : Nat → List Nat × List Nat := fun id => ([], [])
def br27 : FuncId → Bool := fun (g : Nat) => ([67, 72] : List Nat).any (Nat.beq g)
def ar27 : TypeId → Bool := fun (t : Nat) => ([24, 25, 79, 82] : List Nat).any (Nat.beq t)
noncomputable def t27 {R : Type} (sh : Sh) (f25 : i25 → Option o25) (x1 : List Int) (x2 : List Int) (x3 : Int) (x4 : Int) (x5 : Rows) (k : o27 → Option R) : Option R :=
  sh (Go.Ev.colD (Go.Ev.mapD Go.IntKind.u8 (Go.Ev.pkL x1 (32 : Nat))) : Rows) fun y1 =>
  sh (Go.Ev.colD (Go.Ev.mapD Go.IntKind.u8 (Go.Ev.pkL x2 (32 : Nat))) : Rows) fun y2 =>
  bif Decidable.decide (List.length y2 = (32 : Nat)) then
    (f25 (Go.Ev.colI y2 (32 : Nat), x3, x4, x5)).bind fun (r3 : List Int × Int) =>
    sh (List.replicate (32 : Nat) [Go.Ev.DL.int Go.IntKind.u8 (0 : Int)] : Rows) fun y4 =>
    bif Decidable.decide (List.length y4 = (32 : Nat)) then
      sh (Go.Ev.colD (Go.Ev.mapD Go.IntKind.u8 (Go.Ev.pkL (Prod.fst r3) (32 : Nat))) : Rows) fun y5 =>
      bif Prod.snd r3 == (0 : Int) then
        bif Decidable.decide (List.length y5 = (32 : Nat)) then
          bif Decidable.decide (List.length y1 = (32 : Nat)) then
            k (Go.Ev.eqI (Go.Ev.colI y5 (32 : Nat)) (Go.Ev.colI y1 (32 : Nat)) (32 : Nat))
          else none
        else none
      else
        k (Bool.false)
    else none
  else none
theorem t27_eq {R : Type} (sh : Sh) (hsh : ∀ {α R : Type} (x : α) (K : α → Option R), sh x K = K x) (f25 : i25 → Option o25) (x1 : List Int) (x2 : List Int) (x3 : Int) (x4 : Int) (x5 : Rows) (K : CSt → Option R) : bodyK Try.prog (tabO sh hsh br27 ar27 [ent25 f25]) (tabL []) ann27 false Try.f27 (enc27 (x1, x2, x3, x4, x5)) K = t27 sh f25 x1 x2 x3 x4 x5 (retK27 K) := by kernel_rfl
theorem t27_law {R : Type} (f25 : i25 → Option o25) (x1 : List Int) (x2 : List Int) (x3 : Int) (x4 : Int) (x5 : Rows) (K : o27 → Option R) : t27 sh0 f25 x1 x2 x3 x4 x5 K = (t27 sh0 f25 x1 x2 x3 x4 x5 some).bind K := by
  simp only [t27, sh0, cond_bind', two_bind, none_bind', Option.bind_assoc, Option.bind_some]
theorem ok27 (f25 : i25 → Option o25) (hf25 : Sd25 f25) : Sd27 (fun a => t27 sh0 f25 a.1 a.2.1 a.2.2.1 a.2.2.2.1 a.2.2.2.2 some) := by
  intro a b h
  refine call_ok (sh := sh0) (hsh := fun _ _ => rfl) (br := br27) (ar := ar27) (own := false) Try.mixed Try.func27 (by kernel_rfl) (.cons (mkEnt_ok hf25) .nil) (fun nt => .nil) ((t27_eq sh0 (fun _ _ => rfl) f25 a.1 a.2.1 a.2.2.1 a.2.2.2.1 a.2.2.2.2 _).trans ?_)
  rw [t27_law]
  simp only at h
  rw [h, Option.bind_some, retK27_eq]

/-! 20 erasure/merkle.Height -/
abbrev i20 : Type := Int
def enc20 : i20 → CSt := fun a => ([Go.Ev.SV.one (Go.Ev.SL.d (Go.Ev.DL.int Go.IntKind.i64 a))], [])
def dec20 : (c : CSt) → Option { a : i20 // c = enc20 a }
  | ([Go.Ev.SV.one (Go.Ev.SL.d (Go.Ev.DL.int Go.IntKind.i64 x1))], []) => some ⟨x1, rfl⟩
  | _ => none
abbrev o20 : Type := Int
def ret20 : o20 → CSt := fun b => ([Go.Ev.SV.one (Go.Ev.SL.d (Go.Ev.DL.int Go.IntKind.i64 b))], [])
def retK20 {R : Type} (K : CSt → Option R) : o20 → Option R := fun b => K (([Go.Ev.SV.one (Go.Ev.SL.d (Go.Ev.DL.int Go.IntKind.i64 b))], []))
theorem retK20_eq {R : Type} (K : CSt → Option R) (b : o20) : retK20 K b = K (ret20 b) := rfl
abbrev Sd20 (f : i20 → Option o20) : Prop := ∀ a b, f a = some b → CallOk Try.prog 20 (enc20 a) (ret20 b)
def ent20 (f : i20 → Option o20) : Ent := mkEnt 20 dec20 ret20 retK20 retK20_eq f
def ann20 : Nat → List Nat × List Nat := fun id => bif Nat.beq id 4 then ([0, 3], [3]) else ([], [])
def br20 : FuncId → Bool := fun (g : Nat) => ([67, 72] : List Nat).any (Nat.beq g)
def ar20 : TypeId → Bool := fun (t : Nat) => ([24, 25, 79, 82] : List Nat).any (Nat.beq t)
abbrev iL20_4 : Type := Int × Int
def encL20_4 : iL20_4 → CSt := fun a => ([Go.Ev.SV.one (Go.Ev.SL.d (Go.Ev.DL.int Go.IntKind.i64 a.1)), Go.Ev.SV.one (Go.Ev.SL.d (Go.Ev.DL.int Go.IntKind.i64 a.2))], [])
def decL20_4 : (c : CSt) → Option { a : iL20_4 // c = encL20_4 a }
  | ([Go.Ev.SV.one (Go.Ev.SL.d (Go.Ev.DL.int Go.IntKind.i64 x1)), Go.Ev.SV.one (Go.Ev.SL.d (Go.Ev.DL.int Go.IntKind.i64 x2))], []) => some ⟨(x1, x2), rfl⟩
  | _ => none
abbrev oL20_4 : Type := Int
def retL20_4 : oL20_4 → Ex × CSt := fun b => (Go.Ev.Ex.exit (0 : Nat), ([Go.Ev.SV.one (Go.Ev.SL.d (Go.Ev.DL.int Go.IntKind.i64 b))], []))
def retKL20_4 {R : Type} (K : Ex → CSt → Option R) : oL20_4 → Option R := fun b => K (Go.Ev.Ex.exit (0 : Nat)) (([Go.Ev.SV.one (Go.Ev.SL.d (Go.Ev.DL.int Go.IntKind.i64 b))], []))
theorem retKL20_4_eq {R : Type} (K : Ex → CSt → Option R) (b : oL20_4) : retKL20_4 K b = K (retL20_4 b).1 (retL20_4 b).2 := rfl
def entL20_4 (l : iL20_4 → Option oL20_4) : LEnt := mkLEnt 4 decL20_4 retL20_4 retKL20_4 retKL20_4_eq l
abbrev SdL20_4 (l : iL20_4 → Option oL20_4) : Prop := ∀ nt a b, l a = some b → LoopAt Try.prog nt 0 ann20 Try.f20 4 (encL20_4 a) (retL20_4 b)
noncomputable def u20_4 {R : Type} (sh : Sh) (l20_4 : iL20_4 → Option oL20_4) (x1 : Int) (x2 : Int) (k : oL20_4 → Option R) : Option R :=
  bif Decidable.decide (x1 > (1 : Int)) then
    (l20_4 (Go.IntKind.wrap Go.IntKind.i64 (Int.tdiv (Go.IntKind.wrap Go.IntKind.i64 (x1 + (1 : Int))) (2 : Int)), Go.IntKind.wrap Go.IntKind.i64 (x2 + (1 : Int)))).bind k
  else
    k (x2)
theorem u20_4_eq {R : Type} (sh : Sh) (hsh : ∀ {α R : Type} (x : α) (K : α → Option R), sh x K = K x) (l20_4 : iL20_4 → Option oL20_4) (x1 : Int) (x2 : Int) (K : Ex → CSt → Option R) : roundK Try.prog (tabO sh hsh br20 ar20 []) (tabL [entL20_4 l20_4]) ann20 0 Try.f20 4 (encL20_4 (x1, x2)) K = u20_4 sh l20_4 x1 x2 (retKL20_4 K) := by kernel_rfl
theorem u20_4_law {R : Type} (l20_4 : iL20_4 → Option oL20_4) (x1 : Int) (x2 : Int) (K : oL20_4 → Option R) : u20_4 sh0 l20_4 x1 x2 K = (u20_4 sh0 l20_4 x1 x2 some).bind K := by
  simp only [u20_4, sh0, cond_bind', two_bind, none_bind', Option.bind_assoc, Option.bind_some]
theorem okL20_4 (l20_4 : iL20_4 → Option oL20_4) (hl20_4 : SdL20_4 l20_4) : SdL20_4 (fun a => u20_4 sh0 l20_4 a.1 a.2 some) := by
  intro nt a b h
  refine round_ok (sh := sh0) (hsh := fun _ _ => rfl) (br := br20) (ar := ar20) Try.mixed (by kernel_rfl) .nil (.cons (mkLEnt_ok (hl20_4 nt)) .nil) ((u20_4_eq sh0 (fun _ _ => rfl) l20_4  a.1 a.2 _).trans ?_)
  rw [u20_4_law]
  simp only at h
  rw [h, Option.bind_some, retKL20_4_eq]
noncomputable def t20 {R : Type} (sh : Sh) (l20_4 : iL20_4 → Option oL20_4) (x1 : Int) (k : o20 → Option R) : Option R :=
  bif Decidable.decide (x1 < (1 : Int)) then
    k ((0 : Int))
  else
    bif Decidable.decide (x1 > (4096 : Int)) then
      k ((0 : Int))
    else
      (l20_4 (x1, (0 : Int))).bind fun (r1 : Int) =>
      k (r1)
theorem t20_eq {R : Type} (sh : Sh) (hsh : ∀ {α R : Type} (x : α) (K : α → Option R), sh x K = K x) (l20_4 : iL20_4 → Option oL20_4) (x1 : Int) (K : CSt → Option R) : bodyK Try.prog (tabO sh hsh br20 ar20 []) (tabL [entL20_4 l20_4]) ann20 false Try.f20 (enc20 x1) K = t20 sh l20_4 x1 (retK20 K) := by kernel_rfl
theorem t20_law {R : Type} (l20_4 : iL20_4 → Option oL20_4) (x1 : Int) (K : o20 → Option R) : t20 sh0 l20_4 x1 K = (t20 sh0 l20_4 x1 some).bind K := by
  simp only [t20, sh0, cond_bind', two_bind, none_bind', Option.bind_assoc, Option.bind_some]
theorem ok20 (l20_4 : iL20_4 → Option oL20_4) (hl20_4 : SdL20_4 l20_4) : Sd20 (fun a => t20 sh0 l20_4 a some) := by
  intro a b h
  refine call_ok (sh := sh0) (hsh := fun _ _ => rfl) (br := br20) (ar := ar20) (own := false) Try.mixed Try.func20 (by kernel_rfl) .nil (fun nt => (.cons (mkLEnt_ok (hl20_4 nt)) .nil)) ((t20_eq sh0 (fun _ _ => rfl) l20_4 a _).trans ?_)
  rw [t20_law]
  simp only at h
  rw [h, Option.bind_some, retK20_eq]

/-! 41 erasure/erasureref38.node -/
abbrev i41 : Type := List Int
def enc41 : i41 → CSt := fun a => ([Go.Ev.SV.agg (Go.Ev.pkS Go.IntKind.u8 a (32 : Nat))], [])
def dec41 : (c : CSt) → Option { a : i41 // c = enc41 a }
  | ([Go.Ev.SV.agg [Go.Ev.SL.d (Go.Ev.DL.int Go.IntKind.u8 x1_0), Go.Ev.SL.d (Go.Ev.DL.int Go.IntKind.u8 x1_1), Go.Ev.SL.d (Go.Ev.DL.int Go.IntKind.u8 x1_2), Go.Ev.SL.d (Go.Ev.DL.int Go.IntKind.u8 x1_3), Go.Ev.SL.d (Go.Ev.DL.int Go.IntKind.u8 x1_4), Go.Ev.SL.d (Go.Ev.DL.int Go.IntKind.u8 x1_5), Go.Ev.SL.d (Go.Ev.DL.int Go.IntKind.u8 x1_6), Go.Ev.SL.d (Go.Ev.DL.int Go.IntKind.u8 x1_7), Go.Ev.SL.d (Go.Ev.DL.int Go.IntKind.u8 x1_8), Go.Ev.SL.d (Go.Ev.DL.int Go.IntKind.u8 x1_9), Go.Ev.SL.d (Go.Ev.DL.int Go.IntKind.u8 x1_10), Go.Ev.SL.d (Go.Ev.DL.int Go.IntKind.u8 x1_11), Go.Ev.SL.d (Go.Ev.DL.int Go.IntKind.u8 x1_12), Go.Ev.SL.d (Go.Ev.DL.int Go.IntKind.u8 x1_13), Go.Ev.SL.d (Go.Ev.DL.int Go.IntKind.u8 x1_14), Go.Ev.SL.d (Go.Ev.DL.int Go.IntKind.u8 x1_15), Go.Ev.SL.d (Go.Ev.DL.int Go.IntKind.u8 x1_16), Go.Ev.SL.d (Go.Ev.DL.int Go.IntKind.u8 x1_17), Go.Ev.SL.d (Go.Ev.DL.int Go.IntKind.u8 x1_18), Go.Ev.SL.d (Go.Ev.DL.int Go.IntKind.u8 x1_19), Go.Ev.SL.d (Go.Ev.DL.int Go.IntKind.u8 x1_20), Go.Ev.SL.d (Go.Ev.DL.int Go.IntKind.u8 x1_21), Go.Ev.SL.d (Go.Ev.DL.int Go.IntKind.u8 x1_22), Go.Ev.SL.d (Go.Ev.DL.int Go.IntKind.u8 x1_23), Go.Ev.SL.d (Go.Ev.DL.int Go.IntKind.u8 x1_24), Go.Ev.SL.d (Go.Ev.DL.int Go.IntKind.u8 x1_25), Go.Ev.SL.d (Go.Ev.DL.int Go.IntKind.u8 x1_26), Go.Ev.SL.d (Go.Ev.DL.int Go.IntKind.u8 x1_27), Go.Ev.SL.d (Go.Ev.DL.int Go.IntKind.u8 x1_28), Go.Ev.SL.d (Go.Ev.DL.int Go.IntKind.u8 x1_29), Go.Ev.SL.d (Go.Ev.DL.int Go.IntKind.u8 x1_30), Go.Ev.SL.d (Go.Ev.DL.int Go.IntKind.u8 x1_31)]], []) => some ⟨[x1_0, x1_1, x1_2, x1_3, x1_4, x1_5, x1_6, x1_7, x1_8, x1_9, x1_10, x1_11, x1_12, x1_13, x1_14, x1_15, x1_16, x1_17, x1_18, x1_19, x1_20, x1_21, x1_22, x1_23, x1_24, x1_25, x1_26, x1_27, x1_28, x1_29, x1_30, x1_31], rfl⟩
  | _ => none
abbrev o41 : Type := List Int
def ret41 : o41 → CSt := fun b => ([Go.Ev.SV.agg (Go.Ev.pkS Go.IntKind.u8 b (32 : Nat))], [])
def retK41 {R : Type} (K : CSt → Option R) : o41 → Option R := fun b => K (([Go.Ev.SV.agg (Go.Ev.pkS Go.IntKind.u8 b (32 : Nat))], []))
theorem retK41_eq {R : Type} (K : CSt → Option R) (b : o41) : retK41 K b = K (ret41 b) := rfl
abbrev Sd41 (f : i41 → Option o41) : Prop := ∀ a b, f a = some b → CallOk Try.prog 41 (enc41 a) (ret41 b)
def ent41 (f : i41 → Option o41) : Ent := mkEnt 41 dec41 ret41 retK41 retK41_eq f
def ann41 : Nat → List Nat × List Nat := fun id => ([], [])
def br41 : FuncId → Bool := fun (g : Nat) => ([67, 72] : List Nat).any (Nat.beq g)
def ar41 : TypeId → Bool := fun (t : Nat) => ([24, 25, 79, 82] : List Nat).any (Nat.beq t)
noncomputable def t41 {R : Type} (sh : Sh) (f63 : i63 → Option o63) (x1 : List Int) (k : o41 → Option R) : Option R :=
  sh (Go.Ev.colD (Go.Ev.mapD Go.IntKind.u8 (Go.Ev.pkL x1 (32 : Nat))) : Rows) fun y1 =>
  sh (List.replicate (32 : Nat) [Go.Ev.DL.int Go.IntKind.u8 (0 : Int)] : Rows) fun y2 =>
  bif Decidable.decide (List.length y1 = (32 : Nat)) then
    (f63 ((380 : Int), Go.Ev.colI y1 (32 : Nat), [])).bind fun (r3 : List Int) =>
    bif Decidable.decide (List.length y2 = (32 : Nat)) then
      sh (Go.Ev.colD (Go.Ev.mapD Go.IntKind.u8 (Go.Ev.pkL r3 (32 : Nat))) : Rows) fun y4 =>
      bif Decidable.decide (List.length y4 = (32 : Nat)) then
        k (Go.Ev.colI y4 (32 : Nat))
      else none
    else none
  else none
theorem t41_eq {R : Type} (sh : Sh) (hsh : ∀ {α R : Type} (x : α) (K : α → Option R), sh x K = K x) (f63 : i63 → Option o63) (x1 : List Int) (K : CSt → Option R) : bodyK Try.prog (tabO sh hsh br41 ar41 [ent63 f63]) (tabL []) ann41 false Try.f41 (enc41 x1) K = t41 sh f63 x1 (retK41 K) := by kernel_rfl
theorem t41_law {R : Type} (f63 : i63 → Option o63) (x1 : List Int) (K : o41 → Option R) : t41 sh0 f63 x1 K = (t41 sh0 f63 x1 some).bind K := by
  simp only [t41, sh0, cond_bind', two_bind, none_bind', Option.bind_assoc, Option.bind_some]
theorem ok41 (f63 : i63 → Option o63) (hf63 : Sd63 f63) : Sd41 (fun a => t41 sh0 f63 a some) := by
  intro a b h
  refine call_ok (sh := sh0) (hsh := fun _ _ => rfl) (br := br41) (ar := ar41) (own := false) Try.mixed Try.func41 (by kernel_rfl) (.cons (mkEnt_ok hf63) .nil) (fun nt => .nil) ((t41_eq sh0 (fun _ _ => rfl) f63 a _).trans ?_)
  rw [t41_law]
  simp only at h
  rw [h, Option.bind_some, retK41_eq]

/-! 46 erasure/erasureref38.join -/
abbrev i46 : Type := List Int × List Int
def enc46 : i46 → CSt := fun a => ([Go.Ev.SV.agg (Go.Ev.pkS Go.IntKind.u8 a.1 (32 : Nat)), Go.Ev.SV.agg (Go.Ev.pkS Go.IntKind.u8 a.2 (32 : Nat))], [])
def dec46 : (c : CSt) → Option { a : i46 // c = enc46 a }
  | ([Go.Ev.SV.agg [Go.Ev.SL.d (Go.Ev.DL.int Go.IntKind.u8 x1_0), Go.Ev.SL.d (Go.Ev.DL.int Go.IntKind.u8 x1_1), Go.Ev.SL.d (Go.Ev.DL.int Go.IntKind.u8 x1_2), Go.Ev.SL.d (Go.Ev.DL.int Go.IntKind.u8 x1_3), Go.Ev.SL.d (Go.Ev.DL.int Go.IntKind.u8 x1_4), Go.Ev.SL.d (Go.Ev.DL.int Go.IntKind.u8 x1_5), Go.Ev.SL.d (Go.Ev.DL.int Go.IntKind.u8 x1_6), Go.Ev.SL.d (Go.Ev.DL.int Go.IntKind.u8 x1_7), Go.Ev.SL.d (Go.Ev.DL.int Go.IntKind.u8 x1_8), Go.Ev.SL.d (Go.Ev.DL.int Go.IntKind.u8 x1_9), Go.Ev.SL.d (Go.Ev.DL.int Go.IntKind.u8 x1_10), Go.Ev.SL.d (Go.Ev.DL.int Go.IntKind.u8 x1_11), Go.Ev.SL.d (Go.Ev.DL.int Go.IntKind.u8 x1_12), Go.Ev.SL.d (Go.Ev.DL.int Go.IntKind.u8 x1_13), Go.Ev.SL.d (Go.Ev.DL.int Go.IntKind.u8 x1_14), Go.Ev.SL.d (Go.Ev.DL.int Go.IntKind.u8 x1_15), Go.Ev.SL.d (Go.Ev.DL.int Go.IntKind.u8 x1_16), Go.Ev.SL.d (Go.Ev.DL.int Go.IntKind.u8 x1_17), Go.Ev.SL.d (Go.Ev.DL.int Go.IntKind.u8 x1_18), Go.Ev.SL.d (Go.Ev.DL.int Go.IntKind.u8 x1_19), Go.Ev.SL.d (Go.Ev.DL.int Go.IntKind.u8 x1_20), Go.Ev.SL.d (Go.Ev.DL.int Go.IntKind.u8 x1_21), Go.Ev.SL.d (Go.Ev.DL.int Go.IntKind.u8 x1_22), Go.Ev.SL.d (Go.Ev.DL.int Go.IntKind.u8 x1_23), Go.Ev.SL.d (Go.Ev.DL.int Go.IntKind.u8 x1_24), Go.Ev.SL.d (Go.Ev.DL.int Go.IntKind.u8 x1_25), Go.Ev.SL.d (Go.Ev.DL.int Go.IntKind.u8 x1_26), Go.Ev.SL.d (Go.Ev.DL.int Go.IntKind.u8 x1_27), Go.Ev.SL.d (Go.Ev.DL.int Go.IntKind.u8 x1_28), Go.Ev.SL.d (Go.Ev.DL.int Go.IntKind.u8 x1_29), Go.Ev.SL.d (Go.Ev.DL.int Go.IntKind.u8 x1_30), Go.Ev.SL.d (Go.Ev.DL.int Go.IntKind.u8 x1_31)], Go.Ev.SV.agg [Go.Ev.SL.d (Go.Ev.DL.int Go.IntKind.u8 x2_0), Go.Ev.SL.d (Go.Ev.DL.int Go.IntKind.u8 x2_1), Go.Ev.SL.d (Go.Ev.DL.int Go.IntKind.u8 x2_2), Go.Ev.SL.d (Go.Ev.DL.int Go.IntKind.u8 x2_3), Go.Ev.SL.d (Go.Ev.DL.int Go.IntKind.u8 x2_4), Go.Ev.SL.d (Go.Ev.DL.int Go.IntKind.u8 x2_5), Go.Ev.SL.d (Go.Ev.DL.int Go.IntKind.u8 x2_6), Go.Ev.SL.d (Go.Ev.DL.int Go.IntKind.u8 x2_7), Go.Ev.SL.d (Go.Ev.DL.int Go.IntKind.u8 x2_8), Go.Ev.SL.d (Go.Ev.DL.int Go.IntKind.u8 x2_9), Go.Ev.SL.d (Go.Ev.DL.int Go.IntKind.u8 x2_10), Go.Ev.SL.d (Go.Ev.DL.int Go.IntKind.u8 x2_11), Go.Ev.SL.d (Go.Ev.DL.int Go.IntKind.u8 x2_12), Go.Ev.SL.d (Go.Ev.DL.int Go.IntKind.u8 x2_13), Go.Ev.SL.d (Go.Ev.DL.int Go.IntKind.u8 x2_14), Go.Ev.SL.d (Go.Ev.DL.int Go.IntKind.u8 x2_15), Go.Ev.SL.d (Go.Ev.DL.int Go.IntKind.u8 x2_16), Go.Ev.SL.d (Go.Ev.DL.int Go.IntKind.u8 x2_17), Go.Ev.SL.d (Go.Ev.DL.int Go.IntKind.u8 x2_18), Go.Ev.SL.d (Go.Ev.DL.int Go.IntKind.u8 x2_19), Go.Ev.SL.d (Go.Ev.DL.int Go.IntKind.u8 x2_20), Go.Ev.SL.d (Go.Ev.DL.int Go.IntKind.u8 x2_21), Go.Ev.SL.d (Go.Ev.DL.int Go.IntKind.u8 x2_22), Go.Ev.SL.d (Go.Ev.DL.int Go.IntKind.u8 x2_23), Go.Ev.SL.d (Go.Ev.DL.int Go.IntKind.u8 x2_24), Go.Ev.SL.d (Go.Ev.DL.int Go.IntKind.u8 x2_25), Go.Ev.SL.d (Go.Ev.DL.int Go.IntKind.u8 x2_26), Go.Ev.SL.d (Go.Ev.DL.int Go.IntKind.u8 x2_27), Go.Ev.SL.d (Go.Ev.DL.int Go.IntKind.u8 x2_28), Go.Ev.SL.d (Go.Ev.DL.int Go.IntKind.u8 x2_29), Go.Ev.SL.d (Go.Ev.DL.int Go.IntKind.u8 x2_30), Go.Ev.SL.d (Go.Ev.DL.int Go.IntKind.u8 x2_31)]], []) => some ⟨([x1_0, x1_1, x1_2, x1_3, x1_4, x1_5, x1_6, x1_7, x1_8, x1_9, x1_10, x1_11, x1_12, x1_13, x1_14, x1_15, x1_16, x1_17, x1_18, x1_19, x1_20, x1_21, x1_22, x1_23, x1_24, x1_25, x1_26, x1_27, x1_28, x1_29, x1_30, x1_31], [x2_0, x2_1, x2_2, x2_3, x2_4, x2_5, x2_6, x2_7, x2_8, x2_9, x2_10, x2_11, x2_12, x2_13, x2_14, x2_15, x2_16, x2_17, x2_18, x2_19, x2_20, x2_21, x2_22, x2_23, x2_24, x2_25, x2_26, x2_27, x2_28, x2_29, x2_30, x2_31]), rfl⟩
  | _ => none
abbrev o46 : Type := List Int
def ret46 : o46 → CSt := fun b => ([Go.Ev.SV.agg (Go.Ev.pkS Go.IntKind.u8 b (32 : Nat))], [])
def retK46 {R : Type} (K : CSt → Option R) : o46 → Option R := fun b => K (([Go.Ev.SV.agg (Go.Ev.pkS Go.IntKind.u8 b (32 : Nat))], []))
theorem retK46_eq {R : Type} (K : CSt → Option R) (b : o46) : retK46 K b = K (ret46 b) := rfl
abbrev Sd46 (f : i46 → Option o46) : Prop := ∀ a b, f a = some b → CallOk Try.prog 46 (enc46 a) (ret46 b)
def ent46 (f : i46 → Option o46) : Ent := mkEnt 46 dec46 ret46 retK46 retK46_eq f
def ann46 : Nat → List Nat × List Nat := fun id => ([], [])
def br46 : FuncId → Bool := fun (g : Nat) => ([67, 72] : List Nat).any (Nat.beq g)
def ar46 : TypeId → Bool := fun (t : Nat) => ([24, 25, 79, 82] : List Nat).any (Nat.beq t)
noncomputable def t46 {R : Type} (sh : Sh) (f66 : i66 → Option o66) (x1 : List Int) (x2 : List Int) (k : o46 → Option R) : Option R :=
  sh (Go.Ev.colD (Go.Ev.mapD Go.IntKind.u8 (Go.Ev.pkL x1 (32 : Nat))) : Rows) fun y1 =>
  sh (Go.Ev.colD (Go.Ev.mapD Go.IntKind.u8 (Go.Ev.pkL x2 (32 : Nat))) : Rows) fun y2 =>
  sh (List.replicate (32 : Nat) [Go.Ev.DL.int Go.IntKind.u8 (0 : Int)] : Rows) fun y3 =>
  bif Decidable.decide (List.length y1 = (32 : Nat)) then
    bif Decidable.decide (List.length y2 = (32 : Nat)) then
      (f66 ((381 : Int), Go.Ev.colI y1 (32 : Nat), Go.Ev.colI y2 (32 : Nat))).bind fun (r4 : List Int) =>
      bif Decidable.decide (List.length y3 = (32 : Nat)) then
        sh (Go.Ev.colD (Go.Ev.mapD Go.IntKind.u8 (Go.Ev.pkL r4 (32 : Nat))) : Rows) fun y5 =>
        bif Decidable.decide (List.length y5 = (32 : Nat)) then
          k (Go.Ev.colI y5 (32 : Nat))
        else none
      else none
    else none
  else none
theorem t46_eq {R : Type} (sh : Sh) (hsh : ∀ {α R : Type} (x : α) (K : α → Option R), sh x K = K x) (f66 : i66 → Option o66) (x1 : List Int) (x2 : List Int) (K : CSt → Option R) : bodyK Try.prog (tabO sh hsh br46 ar46 [ent66 f66]) (tabL []) ann46 false Try.f46 (enc46 (x1, x2)) K = t46 sh f66 x1 x2 (retK46 K) := by kernel_rfl
theorem t46_law {R : Type} (f66 : i66 → Option o66) (x1 : List Int) (x2 : List Int) (K : o46 → Option R) : t46 sh0 f66 x1 x2 K = (t46 sh0 f66 x1 x2 some).bind K := by
  simp only [t46, sh0, cond_bind', two_bind, none_bind', Option.bind_assoc, Option.bind_some]
theorem ok46 (f66 : i66 → Option o66) (hf66 : Sd66 f66) : Sd46 (fun a => t46 sh0 f66 a.1 a.2 some) := by
  intro a b h
  refine call_ok (sh := sh0) (hsh := fun _ _ => rfl) (br := br46) (ar := ar46) (own := false) Try.mixed Try.func46 (by kernel_rfl) (.cons (mkEnt_ok hf66) .nil) (fun nt => .nil) ((t46_eq sh0 (fun _ _ => rfl) f66 a.1 a.2 _).trans ?_)
  rw [t46_law]
  simp only at h
  rw [h, Option.bind_some, retK46_eq]

/-! 42 erasure/erasureref38.up -/
abbrev i42 : Type := Rows
def enc42 : i42 → CSt := fun a => ([Go.Ev.SV.one (Go.Ev.SL.d (Go.Ev.DL.lst (25 : Nat) a))], [])
def dec42 : (c : CSt) → Option { a : i42 // c = enc42 a }
  | ([Go.Ev.SV.one (Go.Ev.SL.d (Go.Ev.DL.lst (25 : Nat) x1))], []) => some ⟨x1, rfl⟩
  | _ => none
abbrev o42 : Type := Rows
def ret42 : o42 → CSt := fun b => ([Go.Ev.SV.one (Go.Ev.SL.d (Go.Ev.DL.lst (25 : Nat) b))], [])
def retK42 {R : Type} (K : CSt → Option R) : o42 → Option R := fun b => K (([Go.Ev.SV.one (Go.Ev.SL.d (Go.Ev.DL.lst (25 : Nat) b))], []))
theorem retK42_eq {R : Type} (K : CSt → Option R) (b : o42) : retK42 K b = K (ret42 b) := rfl
abbrev Sd42 (f : i42 → Option o42) : Prop := ∀ a b, f a = some b → CallOk Try.prog 42 (enc42 a) (ret42 b)
def ent42 (f : i42 → Option o42) : Ent := mkEnt 42 dec42 ret42 retK42 retK42_eq f
def ann42 : Nat → List Nat × List Nat := fun id => bif Nat.beq id 3 then ([0, 3, 4], [3]) else ([], [])
def br42 : FuncId → Bool := fun (g : Nat) => ([67, 72] : List Nat).any (Nat.beq g)
def ar42 : TypeId → Bool := fun (t : Nat) => ([24, 25, 79, 82] : List Nat).any (Nat.beq t)
abbrev iL42_3 : Type := Rows × Int × Rows
def encL42_3 : iL42_3 → CSt := fun a => ([Go.Ev.SV.one (Go.Ev.SL.d (Go.Ev.DL.lst (25 : Nat) a.1)), Go.Ev.SV.one (Go.Ev.SL.vr (0 : Nat)), Go.Ev.SV.one (Go.Ev.SL.d (Go.Ev.DL.int Go.IntKind.i64 a.2.1))], [Go.Ev.Obj.vec (25 : Nat) Bool.false a.2.2])
def decL42_3 : (c : CSt) → Option { a : iL42_3 // c = encL42_3 a }
  | ([Go.Ev.SV.one (Go.Ev.SL.d (Go.Ev.DL.lst (25 : Nat) x1)), Go.Ev.SV.one (Go.Ev.SL.vr (0 : Nat)), Go.Ev.SV.one (Go.Ev.SL.d (Go.Ev.DL.int Go.IntKind.i64 x2))], [Go.Ev.Obj.vec (25 : Nat) Bool.false x3]) => some ⟨(x1, x2, x3), rfl⟩
  | _ => none
abbrev oL42_3 : Type := Rows
def retL42_3 : oL42_3 → Ex × CSt := fun b => (Go.Ev.Ex.exit (0 : Nat), ([Go.Ev.SV.one (Go.Ev.SL.vr (0 : Nat))], [Go.Ev.Obj.vec (25 : Nat) Bool.false b]))
def retKL42_3 {R : Type} (K : Ex → CSt → Option R) : oL42_3 → Option R := fun b => K (Go.Ev.Ex.exit (0 : Nat)) (([Go.Ev.SV.one (Go.Ev.SL.vr (0 : Nat))], [Go.Ev.Obj.vec (25 : Nat) Bool.false b]))
theorem retKL42_3_eq {R : Type} (K : Ex → CSt → Option R) (b : oL42_3) : retKL42_3 K b = K (retL42_3 b).1 (retL42_3 b).2 := rfl
def entL42_3 (l : iL42_3 → Option oL42_3) : LEnt := mkLEnt 3 decL42_3 retL42_3 retKL42_3 retKL42_3_eq l
abbrev SdL42_3 (l : iL42_3 → Option oL42_3) : Prop := ∀ nt a b, l a = some b → LoopAt Try.prog nt 0 ann42 Try.f42 3 (encL42_3 a) (retL42_3 b)
noncomputable def u42_3 {R : Type} (sh : Sh) (f46 : i46 → Option o46) (l42_3 : iL42_3 → Option oL42_3) (x1 : Rows) (x2 : Int) (x3 : Rows) (k : oL42_3 → Option R) : Option R :=
  sh ((↑(List.length x1) : Int)) fun y3 =>
  bif Decidable.decide (x2 < y3) then
    sh ((↑(List.length x1) : Int)) fun y4 =>
    bif Decidable.decide (Go.IntKind.wrap Go.IntKind.i64 (x2 + (1 : Int)) < y4) then
      bif Decidable.decide ((0 : Int) ≤ x2 ∧ x2 < (↑(List.length x1) : Int)) then
        bif Decidable.decide ((0 : Int) ≤ Go.IntKind.wrap Go.IntKind.i64 (x2 + (1 : Int)) ∧ Go.IntKind.wrap Go.IntKind.i64 (x2 + (1 : Int)) < (↑(List.length x1) : Int)) then
          (f46 (Go.Ev.rowI x1 (Int.toNat x2) (32 : Nat), Go.Ev.rowI x1 (Int.toNat (Go.IntKind.wrap Go.IntKind.i64 (x2 + (1 : Int)))) (32 : Nat))).bind fun (r5 : List Int) =>
          sh ([Go.Ev.mapD Go.IntKind.u8 (Go.Ev.pkL r5 (32 : Nat))] : Rows) fun y6 =>
          bif Go.Ev.roomE Go.Proofs.Try.prog (25 : Nat) (List.length x3 + List.length y6) then
            sh (x3 ++ y6 : Rows) fun y7 =>
            (l42_3 (x1, Go.IntKind.wrap Go.IntKind.i64 (x2 + (2 : Int)), y7)).bind k
          else none
        else none
      else none
    else
      bif Decidable.decide ((0 : Int) ≤ x2 ∧ x2 < (↑(List.length x1) : Int)) then
        sh ([Go.Ev.mapD Go.IntKind.u8 (Go.Ev.rowI x1 (Int.toNat x2) (32 : Nat))] : Rows) fun y8 =>
        bif Go.Ev.roomE Go.Proofs.Try.prog (25 : Nat) (List.length x3 + List.length y8) then
          sh (x3 ++ y8 : Rows) fun y9 =>
          (l42_3 (x1, Go.IntKind.wrap Go.IntKind.i64 (x2 + (2 : Int)), y9)).bind k
        else none
      else none
  else
    k (x3)
theorem u42_3_eq {R : Type} (sh : Sh) (hsh : ∀ {α R : Type} (x : α) (K : α → Option R), sh x K = K x) (f46 : i46 → Option o46) (l42_3 : iL42_3 → Option oL42_3) (x1 : Rows) (x2 : Int) (x3 : Rows) (K : Ex → CSt → Option R) : roundK Try.prog (tabO sh hsh br42 ar42 [ent46 f46]) (tabL [entL42_3 l42_3]) ann42 0 Try.f42 3 (encL42_3 (x1, x2, x3)) K = u42_3 sh f46 l42_3 x1 x2 x3 (retKL42_3 K) := by kernel_rfl
theorem u42_3_law {R : Type} (f46 : i46 → Option o46) (l42_3 : iL42_3 → Option oL42_3) (x1 : Rows) (x2 : Int) (x3 : Rows) (K : oL42_3 → Option R) : u42_3 sh0 f46 l42_3 x1 x2 x3 K = (u42_3 sh0 f46 l42_3 x1 x2 x3 some).bind K := by
  simp only [u42_3, sh0, cond_bind', two_bind, none_bind', Option.bind_assoc, Option.bind_some]
theorem okL42_3 (f46 : i46 → Option o46) (l42_3 : iL42_3 → Option oL42_3) (hf46 : Sd46 f46) (hl42_3 : SdL42_3 l42_3) : SdL42_3 (fun a => u42_3 sh0 f46 l42_3 a.1 a.2.1 a.2.2 some) := by
  intro nt a b h
  refine round_ok (sh := sh0) (hsh := fun _ _ => rfl) (br := br42) (ar := ar42) Try.mixed (by kernel_rfl) (.cons (mkEnt_ok hf46) .nil) (.cons (mkLEnt_ok (hl42_3 nt)) .nil) ((u42_3_eq sh0 (fun _ _ => rfl) f46 l42_3  a.1 a.2.1 a.2.2 _).trans ?_)
  rw [u42_3_law]
  simp only at h
  rw [h, Option.bind_some, retKL42_3_eq]
noncomputable def t42 {R : Type} (sh : Sh) (l42_3 : iL42_3 → Option oL42_3) (x1 : Rows) (k : o42 → Option R) : Option R :=
  sh ([] : Rows) fun y1 =>
  sh ([] : Rows) fun y2 =>
  (l42_3 (x1, (0 : Int), y2)).bind fun (r10 : Rows) =>
  k (r10)
theorem t42_eq {R : Type} (sh : Sh) (hsh : ∀ {α R : Type} (x : α) (K : α → Option R), sh x K = K x) (l42_3 : iL42_3 → Option oL42_3) (x1 : Rows) (K : CSt → Option R) : bodyK Try.prog (tabO sh hsh br42 ar42 []) (tabL [entL42_3 l42_3]) ann42 false Try.f42 (enc42 x1) K = t42 sh l42_3 x1 (retK42 K) := by kernel_rfl
theorem t42_law {R : Type} (l42_3 : iL42_3 → Option oL42_3) (x1 : Rows) (K : o42 → Option R) : t42 sh0 l42_3 x1 K = (t42 sh0 l42_3 x1 some).bind K := by
  simp only [t42, sh0, cond_bind', two_bind, none_bind', Option.bind_assoc, Option.bind_some]
theorem ok42 (l42_3 : iL42_3 → Option oL42_3) (hl42_3 : SdL42_3 l42_3) : Sd42 (fun a => t42 sh0 l42_3 a some) := by
  intro a b h
  refine call_ok (sh := sh0) (hsh := fun _ _ => rfl) (br := br42) (ar := ar42) (own := false) Try.mixed Try.func42 (by kernel_rfl) .nil (fun nt => (.cons (mkLEnt_ok (hl42_3 nt)) .nil)) ((t42_eq sh0 (fun _ _ => rfl) l42_3 a _).trans ?_)
  rw [t42_law]
  simp only at h
  rw [h, Option.bind_some, retK42_eq]

/-! 43 erasure/erasureref38.root -/
abbrev i43 : Type := List Int × Int
def enc43 : i43 → CSt := fun a => ([Go.Ev.SV.agg (Go.Ev.pkS Go.IntKind.u8 a.1 (32 : Nat)), Go.Ev.SV.one (Go.Ev.SL.d (Go.Ev.DL.int Go.IntKind.i64 a.2))], [])
def dec43 : (c : CSt) → Option { a : i43 // c = enc43 a }
  | ([Go.Ev.SV.agg [Go.Ev.SL.d (Go.Ev.DL.int Go.IntKind.u8 x1_0), Go.Ev.SL.d (Go.Ev.DL.int Go.IntKind.u8 x1_1), Go.Ev.SL.d (Go.Ev.DL.int Go.IntKind.u8 x1_2), Go.Ev.SL.d (Go.Ev.DL.int Go.IntKind.u8 x1_3), Go.Ev.SL.d (Go.Ev.DL.int Go.IntKind.u8 x1_4), Go.Ev.SL.d (Go.Ev.DL.int Go.IntKind.u8 x1_5), Go.Ev.SL.d (Go.Ev.DL.int Go.IntKind.u8 x1_6), Go.Ev.SL.d (Go.Ev.DL.int Go.IntKind.u8 x1_7), Go.Ev.SL.d (Go.Ev.DL.int Go.IntKind.u8 x1_8), Go.Ev.SL.d (Go.Ev.DL.int Go.IntKind.u8 x1_9), Go.Ev.SL.d (Go.Ev.DL.int Go.IntKind.u8 x1_10), Go.Ev.SL.d (Go.Ev.DL.int Go.IntKind.u8 x1_11), Go.Ev.SL.d (Go.Ev.DL.int Go.IntKind.u8 x1_12), Go.Ev.SL.d (Go.Ev.DL.int Go.IntKind.u8 x1_13), Go.Ev.SL.d (Go.Ev.DL.int Go.IntKind.u8 x1_14), Go.Ev.SL.d (Go.Ev.DL.int Go.IntKind.u8 x1_15), Go.Ev.SL.d (Go.Ev.DL.int Go.IntKind.u8 x1_16), Go.Ev.SL.d (Go.Ev.DL.int Go.IntKind.u8 x1_17), Go.Ev.SL.d (Go.Ev.DL.int Go.IntKind.u8 x1_18), Go.Ev.SL.d (Go.Ev.DL.int Go.IntKind.u8 x1_19), Go.Ev.SL.d (Go.Ev.DL.int Go.IntKind.u8 x1_20), Go.Ev.SL.d (Go.Ev.DL.int Go.IntKind.u8 x1_21), Go.Ev.SL.d (Go.Ev.DL.int Go.IntKind.u8 x1_22), Go.Ev.SL.d (Go.Ev.DL.int Go.IntKind.u8 x1_23), Go.Ev.SL.d (Go.Ev.DL.int Go.IntKind.u8 x1_24), Go.Ev.SL.d (Go.Ev.DL.int Go.IntKind.u8 x1_25), Go.Ev.SL.d (Go.Ev.DL.int Go.IntKind.u8 x1_26), Go.Ev.SL.d (Go.Ev.DL.int Go.IntKind.u8 x1_27), Go.Ev.SL.d (Go.Ev.DL.int Go.IntKind.u8 x1_28), Go.Ev.SL.d (Go.Ev.DL.int Go.IntKind.u8 x1_29), Go.Ev.SL.d (Go.Ev.DL.int Go.IntKind.u8 x1_30), Go.Ev.SL.d (Go.Ev.DL.int Go.IntKind.u8 x1_31)], Go.Ev.SV.one (Go.Ev.SL.d (Go.Ev.DL.int Go.IntKind.i64 x2))], []) => some ⟨([x1_0, x1_1, x1_2, x1_3, x1_4, x1_5, x1_6, x1_7, x1_8, x1_9, x1_10, x1_11, x1_12, x1_13, x1_14, x1_15, x1_16, x1_17, x1_18, x1_19, x1_20, x1_21, x1_22, x1_23, x1_24, x1_25, x1_26, x1_27, x1_28, x1_29, x1_30, x1_31], x2), rfl⟩
  | _ => none
abbrev o43 : Type := List Int
def ret43 : o43 → CSt := fun b => ([Go.Ev.SV.agg (Go.Ev.pkS Go.IntKind.u8 b (32 : Nat))], [])
def retK43 {R : Type} (K : CSt → Option R) : o43 → Option R := fun b => K (([Go.Ev.SV.agg (Go.Ev.pkS Go.IntKind.u8 b (32 : Nat))], []))
theorem retK43_eq {R : Type} (K : CSt → Option R) (b : o43) : retK43 K b = K (ret43 b) := rfl
abbrev Sd43 (f : i43 → Option o43) : Prop := ∀ a b, f a = some b → CallOk Try.prog 43 (enc43 a) (ret43 b)
def ent43 (f : i43 → Option o43) : Ent := mkEnt 43 dec43 ret43 retK43 retK43_eq f
def ann43 : Nat → List Nat × List Nat := fun id => ([], [])
def br43 : FuncId → Bool := fun (g : Nat) => ([67, 72] : List Nat).any (Nat.beq g)
def ar43 : TypeId → Bool := fun (t : Nat) => ([24, 25, 79, 82] : List Nat).any (Nat.beq t)
noncomputable def t43 {R : Type} (sh : Sh) (f64 : i64 → Option o64) (f63 : i63 → Option o63) (x1 : List Int) (x2 : Int) (k : o43 → Option R) : Option R :=
  sh (Go.Ev.colD (Go.Ev.mapD Go.IntKind.u8 (Go.Ev.pkL x1 (32 : Nat))) : Rows) fun y1 =>
  sh (List.replicate (32 : Nat) [Go.Ev.DL.int Go.IntKind.u8 (0 : Int)] : Rows) fun y2 =>
  bif Decidable.decide (List.length y1 = (32 : Nat)) then
    (f64 (x2)).bind fun (r3 : Rows) =>
    (f63 ((382 : Int), Go.Ev.colI y1 (32 : Nat), r3)).bind fun (r4 : List Int) =>
    bif Decidable.decide (List.length y2 = (32 : Nat)) then
      sh (Go.Ev.colD (Go.Ev.mapD Go.IntKind.u8 (Go.Ev.pkL r4 (32 : Nat))) : Rows) fun y5 =>
      bif Decidable.decide (List.length y5 = (32 : Nat)) then
        k (Go.Ev.colI y5 (32 : Nat))
      else none
    else none
  else none
theorem t43_eq {R : Type} (sh : Sh) (hsh : ∀ {α R : Type} (x : α) (K : α → Option R), sh x K = K x) (f64 : i64 → Option o64) (f63 : i63 → Option o63) (x1 : List Int) (x2 : Int) (K : CSt → Option R) : bodyK Try.prog (tabO sh hsh br43 ar43 [ent64 f64, ent63 f63]) (tabL []) ann43 false Try.f43 (enc43 (x1, x2)) K = t43 sh f64 f63 x1 x2 (retK43 K) := by kernel_rfl
theorem t43_law {R : Type} (f64 : i64 → Option o64) (f63 : i63 → Option o63) (x1 : List Int) (x2 : Int) (K : o43 → Option R) : t43 sh0 f64 f63 x1 x2 K = (t43 sh0 f64 f63 x1 x2 some).bind K := by
  simp only [t43, sh0, cond_bind', two_bind, none_bind', Option.bind_assoc, Option.bind_some]
theorem ok43 (f64 : i64 → Option o64) (f63 : i63 → Option o63) (hf64 : Sd64 f64) (hf63 : Sd63 f63) : Sd43 (fun a => t43 sh0 f64 f63 a.1 a.2 some) := by
  intro a b h
  refine call_ok (sh := sh0) (hsh := fun _ _ => rfl) (br := br43) (ar := ar43) (own := false) Try.mixed Try.func43 (by kernel_rfl) (.cons (mkEnt_ok hf64) (.cons (mkEnt_ok hf63) .nil)) (fun nt => .nil) ((t43_eq sh0 (fun _ _ => rfl) f64 f63 a.1 a.2 _).trans ?_)
  rw [t43_law]
  simp only at h
  rw [h, Option.bind_some, retK43_eq]

/-! 19 erasure/erasureref38.Root -/
abbrev i19 : Type := Rows
def enc19 : i19 → CSt := fun a => ([Go.Ev.SV.one (Go.Ev.SL.d (Go.Ev.DL.lst (25 : Nat) a))], [])
def dec19 : (c : CSt) → Option { a : i19 // c = enc19 a }
  | ([Go.Ev.SV.one (Go.Ev.SL.d (Go.Ev.DL.lst (25 : Nat) x1))], []) => some ⟨x1, rfl⟩
  | _ => none
abbrev o19 : Type := List Int × Int
def ret19 : o19 → CSt := fun b => ([Go.Ev.SV.agg (Go.Ev.pkS Go.IntKind.u8 b.1 (32 : Nat)), Go.Ev.SV.one (Go.Ev.SL.d (Go.Ev.DL.int Go.IntKind.i64 b.2))], [])
def retK19 {R : Type} (K : CSt → Option R) : o19 → Option R := fun b => K (([Go.Ev.SV.agg (Go.Ev.pkS Go.IntKind.u8 b.1 (32 : Nat)), Go.Ev.SV.one (Go.Ev.SL.d (Go.Ev.DL.int Go.IntKind.i64 b.2))], []))
theorem retK19_eq {R : Type} (K : CSt → Option R) (b : o19) : retK19 K b = K (ret19 b) := rfl
abbrev Sd19 (f : i19 → Option o19) : Prop := ∀ a b, f a = some b → CallOk Try.prog 19 (enc19 a) (ret19 b)
def ent19 (f : i19 → Option o19) : Ent := mkEnt 19 dec19 ret19 retK19 retK19_eq f
def ann19 : Nat → List Nat × List Nat := fun id => bif Nat.beq id 5 then ([0, 2, 4, 5], [0, 2, 4]) else bif Nat.beq id 9 then ([0, 2, 4, 6], [0, 2, 4, 6]) else ([], [])
def br19 : FuncId → Bool := fun (g : Nat) => ([67, 72] : List Nat).any (Nat.beq g)
def ar19 : TypeId → Bool := fun (t : Nat) => ([24, 25, 79, 82] : List Nat).any (Nat.beq t)
abbrev iL19_5 : Type := Rows × Int × Rows × Rows
def encL19_5 : iL19_5 → CSt := fun a => ([Go.Ev.SV.one (Go.Ev.SL.d (Go.Ev.DL.lst (25 : Nat) a.1)), Go.Ev.SV.one (Go.Ev.SL.ept (0 : Nat) (0 : Nat) (0 : Nat)), Go.Ev.SV.one (Go.Ev.SL.vr (1 : Nat)), Go.Ev.SV.one (Go.Ev.SL.d (Go.Ev.DL.int Go.IntKind.i64 a.2.1))], [Go.Ev.Obj.vec (5 : Nat) Bool.false a.2.2.1, Go.Ev.Obj.vec (25 : Nat) Bool.false a.2.2.2])
def decL19_5 : (c : CSt) → Option { a : iL19_5 // c = encL19_5 a }
  | ([Go.Ev.SV.one (Go.Ev.SL.d (Go.Ev.DL.lst (25 : Nat) x1)), Go.Ev.SV.one (Go.Ev.SL.ept (0 : Nat) (0 : Nat) (0 : Nat)), Go.Ev.SV.one (Go.Ev.SL.vr (1 : Nat)), Go.Ev.SV.one (Go.Ev.SL.d (Go.Ev.DL.int Go.IntKind.i64 x2))], [Go.Ev.Obj.vec (5 : Nat) Bool.false x3, Go.Ev.Obj.vec (25 : Nat) Bool.false x4]) => some ⟨(x1, x2, x3, x4), rfl⟩
  | _ => none
abbrev oL19_5 : Type := Rows × Rows × Rows
def retL19_5 : oL19_5 → Ex × CSt := fun b => (Go.Ev.Ex.exit (0 : Nat), ([Go.Ev.SV.one (Go.Ev.SL.d (Go.Ev.DL.lst (25 : Nat) b.1)), Go.Ev.SV.one (Go.Ev.SL.ept (0 : Nat) (0 : Nat) (0 : Nat)), Go.Ev.SV.one (Go.Ev.SL.vr (1 : Nat))], [Go.Ev.Obj.vec (5 : Nat) Bool.false b.2.1, Go.Ev.Obj.vec (25 : Nat) Bool.false b.2.2]))
def retKL19_5 {R : Type} (K : Ex → CSt → Option R) : oL19_5 → Option R := fun b => K (Go.Ev.Ex.exit (0 : Nat)) (([Go.Ev.SV.one (Go.Ev.SL.d (Go.Ev.DL.lst (25 : Nat) b.1)), Go.Ev.SV.one (Go.Ev.SL.ept (0 : Nat) (0 : Nat) (0 : Nat)), Go.Ev.SV.one (Go.Ev.SL.vr (1 : Nat))], [Go.Ev.Obj.vec (5 : Nat) Bool.false b.2.1, Go.Ev.Obj.vec (25 : Nat) Bool.false b.2.2]))
theorem retKL19_5_eq {R : Type} (K : Ex → CSt → Option R) (b : oL19_5) : retKL19_5 K b = K (retL19_5 b).1 (retL19_5 b).2 := rfl
def entL19_5 (l : iL19_5 → Option oL19_5) : LEnt := mkLEnt 5 decL19_5 retL19_5 retKL19_5 retKL19_5_eq l
abbrev SdL19_5 (l : iL19_5 → Option oL19_5) : Prop := ∀ nt a b, l a = some b → LoopAt Try.prog nt 0 ann19 Try.f19 5 (encL19_5 a) (retL19_5 b)
abbrev iL19_9 : Type := Rows × Rows × Rows × Rows
def encL19_9 : iL19_9 → CSt := fun a => ([Go.Ev.SV.one (Go.Ev.SL.d (Go.Ev.DL.lst (25 : Nat) a.1)), Go.Ev.SV.one (Go.Ev.SL.ept (0 : Nat) (0 : Nat) (0 : Nat)), Go.Ev.SV.one (Go.Ev.SL.vr (1 : Nat)), Go.Ev.SV.one (Go.Ev.SL.ept (2 : Nat) (0 : Nat) (0 : Nat))], [Go.Ev.Obj.vec (5 : Nat) Bool.false a.2.1, Go.Ev.Obj.vec (25 : Nat) Bool.false a.2.2.1, Go.Ev.Obj.vec (5 : Nat) Bool.false a.2.2.2])
def decL19_9 : (c : CSt) → Option { a : iL19_9 // c = encL19_9 a }
  | ([Go.Ev.SV.one (Go.Ev.SL.d (Go.Ev.DL.lst (25 : Nat) x1)), Go.Ev.SV.one (Go.Ev.SL.ept (0 : Nat) (0 : Nat) (0 : Nat)), Go.Ev.SV.one (Go.Ev.SL.vr (1 : Nat)), Go.Ev.SV.one (Go.Ev.SL.ept (2 : Nat) (0 : Nat) (0 : Nat))], [Go.Ev.Obj.vec (5 : Nat) Bool.false x2, Go.Ev.Obj.vec (25 : Nat) Bool.false x3, Go.Ev.Obj.vec (5 : Nat) Bool.false x4]) => some ⟨(x1, x2, x3, x4), rfl⟩
  | _ => none
abbrev oL19_9 : Type := (Rows × Rows × Rows × Rows) ⊕ (Rows × Rows × Rows × Rows)
def retL19_9 : oL19_9 → Ex × CSt := two (fun b => (Go.Ev.Ex.exit (2 : Nat), ([Go.Ev.SV.one (Go.Ev.SL.d (Go.Ev.DL.lst (25 : Nat) b.1)), Go.Ev.SV.one (Go.Ev.SL.ept (0 : Nat) (0 : Nat) (0 : Nat)), Go.Ev.SV.one (Go.Ev.SL.d (Go.Ev.DL.lst (25 : Nat) b.2.1)), Go.Ev.SV.one (Go.Ev.SL.ept (1 : Nat) (0 : Nat) (0 : Nat))], [Go.Ev.Obj.vec (5 : Nat) Bool.false b.2.2.1, Go.Ev.Obj.vec (5 : Nat) Bool.false b.2.2.2]))) (fun b => (Go.Ev.Ex.exit (2 : Nat), ([Go.Ev.SV.one (Go.Ev.SL.d (Go.Ev.DL.lst (25 : Nat) b.1)), Go.Ev.SV.one (Go.Ev.SL.ept (0 : Nat) (0 : Nat) (0 : Nat)), Go.Ev.SV.one (Go.Ev.SL.vr (1 : Nat)), Go.Ev.SV.one (Go.Ev.SL.ept (2 : Nat) (0 : Nat) (0 : Nat))], [Go.Ev.Obj.vec (5 : Nat) Bool.false b.2.1, Go.Ev.Obj.vec (25 : Nat) Bool.false b.2.2.1, Go.Ev.Obj.vec (5 : Nat) Bool.false b.2.2.2])))
def retKL19_9 {R : Type} (K : Ex → CSt → Option R) : oL19_9 → Option R := two (fun b => K (Go.Ev.Ex.exit (2 : Nat)) (([Go.Ev.SV.one (Go.Ev.SL.d (Go.Ev.DL.lst (25 : Nat) b.1)), Go.Ev.SV.one (Go.Ev.SL.ept (0 : Nat) (0 : Nat) (0 : Nat)), Go.Ev.SV.one (Go.Ev.SL.d (Go.Ev.DL.lst (25 : Nat) b.2.1)), Go.Ev.SV.one (Go.Ev.SL.ept (1 : Nat) (0 : Nat) (0 : Nat))], [Go.Ev.Obj.vec (5 : Nat) Bool.false b.2.2.1, Go.Ev.Obj.vec (5 : Nat) Bool.false b.2.2.2]))) (fun b => K (Go.Ev.Ex.exit (2 : Nat)) (([Go.Ev.SV.one (Go.Ev.SL.d (Go.Ev.DL.lst (25 : Nat) b.1)), Go.Ev.SV.one (Go.Ev.SL.ept (0 : Nat) (0 : Nat) (0 : Nat)), Go.Ev.SV.one (Go.Ev.SL.vr (1 : Nat)), Go.Ev.SV.one (Go.Ev.SL.ept (2 : Nat) (0 : Nat) (0 : Nat))], [Go.Ev.Obj.vec (5 : Nat) Bool.false b.2.1, Go.Ev.Obj.vec (25 : Nat) Bool.false b.2.2.1, Go.Ev.Obj.vec (5 : Nat) Bool.false b.2.2.2])))
theorem retKL19_9_eq {R : Type} (K : Ex → CSt → Option R) (b : oL19_9) : retKL19_9 K b = K (retL19_9 b).1 (retL19_9 b).2 := by
  unfold retKL19_9 retL19_9
  repeat' (first | rfl | cases b with | inl b => rfl | inr b => ?_)
def entL19_9 (l : iL19_9 → Option oL19_9) : LEnt := mkLEnt 9 decL19_9 retL19_9 retKL19_9 retKL19_9_eq l
abbrev SdL19_9 (l : iL19_9 → Option oL19_9) : Prop := ∀ nt a b, l a = some b → LoopAt Try.prog nt 0 ann19 Try.f19 9 (encL19_9 a) (retL19_9 b)
abbrev iL19_9v1 : Type := Rows × Rows × Rows × Rows
def encL19_9v1 : iL19_9v1 → CSt := fun a => ([Go.Ev.SV.one (Go.Ev.SL.d (Go.Ev.DL.lst (25 : Nat) a.1)), Go.Ev.SV.one (Go.Ev.SL.ept (0 : Nat) (0 : Nat) (0 : Nat)), Go.Ev.SV.one (Go.Ev.SL.d (Go.Ev.DL.lst (25 : Nat) a.2.1)), Go.Ev.SV.one (Go.Ev.SL.ept (1 : Nat) (0 : Nat) (0 : Nat))], [Go.Ev.Obj.vec (5 : Nat) Bool.false a.2.2.1, Go.Ev.Obj.vec (5 : Nat) Bool.false a.2.2.2])
def decL19_9v1 : (c : CSt) → Option { a : iL19_9v1 // c = encL19_9v1 a }
  | ([Go.Ev.SV.one (Go.Ev.SL.d (Go.Ev.DL.lst (25 : Nat) x1)), Go.Ev.SV.one (Go.Ev.SL.ept (0 : Nat) (0 : Nat) (0 : Nat)), Go.Ev.SV.one (Go.Ev.SL.d (Go.Ev.DL.lst (25 : Nat) x2)), Go.Ev.SV.one (Go.Ev.SL.ept (1 : Nat) (0 : Nat) (0 : Nat))], [Go.Ev.Obj.vec (5 : Nat) Bool.false x3, Go.Ev.Obj.vec (5 : Nat) Bool.false x4]) => some ⟨(x1, x2, x3, x4), rfl⟩
  | _ => none
abbrev oL19_9v1 : Type := Rows × Rows × Rows × Rows
def retL19_9v1 : oL19_9v1 → Ex × CSt := fun b => (Go.Ev.Ex.exit (2 : Nat), ([Go.Ev.SV.one (Go.Ev.SL.d (Go.Ev.DL.lst (25 : Nat) b.1)), Go.Ev.SV.one (Go.Ev.SL.ept (0 : Nat) (0 : Nat) (0 : Nat)), Go.Ev.SV.one (Go.Ev.SL.d (Go.Ev.DL.lst (25 : Nat) b.2.1)), Go.Ev.SV.one (Go.Ev.SL.ept (1 : Nat) (0 : Nat) (0 : Nat))], [Go.Ev.Obj.vec (5 : Nat) Bool.false b.2.2.1, Go.Ev.Obj.vec (5 : Nat) Bool.false b.2.2.2]))
def retKL19_9v1 {R : Type} (K : Ex → CSt → Option R) : oL19_9v1 → Option R := fun b => K (Go.Ev.Ex.exit (2 : Nat)) (([Go.Ev.SV.one (Go.Ev.SL.d (Go.Ev.DL.lst (25 : Nat) b.1)), Go.Ev.SV.one (Go.Ev.SL.ept (0 : Nat) (0 : Nat) (0 : Nat)), Go.Ev.SV.one (Go.Ev.SL.d (Go.Ev.DL.lst (25 : Nat) b.2.1)), Go.Ev.SV.one (Go.Ev.SL.ept (1 : Nat) (0 : Nat) (0 : Nat))], [Go.Ev.Obj.vec (5 : Nat) Bool.false b.2.2.1, Go.Ev.Obj.vec (5 : Nat) Bool.false b.2.2.2]))
theorem retKL19_9v1_eq {R : Type} (K : Ex → CSt → Option R) (b : oL19_9v1) : retKL19_9v1 K b = K (retL19_9v1 b).1 (retL19_9v1 b).2 := rfl
def entL19_9v1 (l : iL19_9v1 → Option oL19_9v1) : LEnt := mkLEnt 9 decL19_9v1 retL19_9v1 retKL19_9v1 retKL19_9v1_eq l
abbrev SdL19_9v1 (l : iL19_9v1 → Option oL19_9v1) : Prop := ∀ nt a b, l a = some b → LoopAt Try.prog nt 0 ann19 Try.f19 9 (encL19_9v1 a) (retL19_9v1 b)
noncomputable def u19_5 {R : Type} (sh : Sh) (f41 : i41 → Option o41) (l19_5 : iL19_5 → Option oL19_5) (x1 : Rows) (x2 : Int) (x3 : Rows) (x4 : Rows) (k : oL19_5 → Option R) : Option R :=
  sh ((↑(List.length x1) : Int)) fun y5 =>
  bif Decidable.decide (x2 < y5) then
    bif Decidable.decide ((0 : Int) ≤ x2 ∧ x2 < (↑(List.length x1) : Int)) then
      (f41 (Go.Ev.rowI x1 (Int.toNat x2) (32 : Nat))).bind fun (r6 : List Int) =>
      sh ([Go.Ev.mapD Go.IntKind.u8 (Go.Ev.pkL r6 (32 : Nat))] : Rows) fun y7 =>
      bif Go.Ev.roomE Go.Proofs.Try.prog (25 : Nat) (List.length x4 + List.length y7) then
        sh (x4 ++ y7 : Rows) fun y8 =>
        (l19_5 (x1, Go.IntKind.wrap Go.IntKind.i64 (x2 + (1 : Int)), x3, y8)).bind k
      else none
    else none
  else
    k ((x1, x3, x4))
theorem u19_5_eq {R : Type} (sh : Sh) (hsh : ∀ {α R : Type} (x : α) (K : α → Option R), sh x K = K x) (f41 : i41 → Option o41) (l19_5 : iL19_5 → Option oL19_5) (x1 : Rows) (x2 : Int) (x3 : Rows) (x4 : Rows) (K : Ex → CSt → Option R) : roundK Try.prog (tabO sh hsh br19 ar19 [ent41 f41]) (tabL [entL19_5 l19_5]) ann19 0 Try.f19 5 (encL19_5 (x1, x2, x3, x4)) K = u19_5 sh f41 l19_5 x1 x2 x3 x4 (retKL19_5 K) := by kernel_rfl
theorem u19_5_law {R : Type} (f41 : i41 → Option o41) (l19_5 : iL19_5 → Option oL19_5) (x1 : Rows) (x2 : Int) (x3 : Rows) (x4 : Rows) (K : oL19_5 → Option R) : u19_5 sh0 f41 l19_5 x1 x2 x3 x4 K = (u19_5 sh0 f41 l19_5 x1 x2 x3 x4 some).bind K := by
  simp only [u19_5, sh0, cond_bind', two_bind, none_bind', Option.bind_assoc, Option.bind_some]
theorem okL19_5 (f41 : i41 → Option o41) (l19_5 : iL19_5 → Option oL19_5) (hf41 : Sd41 f41) (hl19_5 : SdL19_5 l19_5) : SdL19_5 (fun a => u19_5 sh0 f41 l19_5 a.1 a.2.1 a.2.2.1 a.2.2.2 some) := by
  intro nt a b h
  refine round_ok (sh := sh0) (hsh := fun _ _ => rfl) (br := br19) (ar := ar19) Try.mixed (by kernel_rfl) (.cons (mkEnt_ok hf41) .nil) (.cons (mkLEnt_ok (hl19_5 nt)) .nil) ((u19_5_eq sh0 (fun _ _ => rfl) f41 l19_5  a.1 a.2.1 a.2.2.1 a.2.2.2 _).trans ?_)
  rw [u19_5_law]
  simp only at h
  rw [h, Option.bind_some, retKL19_5_eq]
noncomputable def u19_9 {R : Type} (sh : Sh) (f42 : i42 → Option o42) (l19_9v1 : iL19_9v1 → Option oL19_9v1) (x1 : Rows) (x2 : Rows) (x3 : Rows) (x4 : Rows) (k : oL19_9 → Option R) : Option R :=
  sh ((↑(List.length x3) : Int)) fun y11 =>
  bif Decidable.decide (y11 > (1 : Int)) then
    (f42 (x3)).bind fun (r12 : Rows) =>
    (l19_9v1 (x1, r12, x2, x4)).bind fun (r15 : Rows × Rows × Rows × Rows) =>
    k ((.inl (Prod.fst r15, Prod.fst r15.2, Prod.fst (Prod.snd r15).2, Prod.snd (Prod.snd r15).2)))
  else
    k ((.inr (x1, x2, x3, x4)))
theorem u19_9_eq {R : Type} (sh : Sh) (hsh : ∀ {α R : Type} (x : α) (K : α → Option R), sh x K = K x) (f42 : i42 → Option o42) (l19_9v1 : iL19_9v1 → Option oL19_9v1) (x1 : Rows) (x2 : Rows) (x3 : Rows) (x4 : Rows) (K : Ex → CSt → Option R) : roundK Try.prog (tabO sh hsh br19 ar19 [ent42 f42]) (tabL [entL19_9v1 l19_9v1]) ann19 0 Try.f19 9 (encL19_9 (x1, x2, x3, x4)) K = u19_9 sh f42 l19_9v1 x1 x2 x3 x4 (retKL19_9 K) := by kernel_rfl
theorem u19_9_law {R : Type} (f42 : i42 → Option o42) (l19_9v1 : iL19_9v1 → Option oL19_9v1) (x1 : Rows) (x2 : Rows) (x3 : Rows) (x4 : Rows) (K : oL19_9 → Option R) : u19_9 sh0 f42 l19_9v1 x1 x2 x3 x4 K = (u19_9 sh0 f42 l19_9v1 x1 x2 x3 x4 some).bind K := by
  simp only [u19_9, sh0, cond_bind', two_bind, none_bind', Option.bind_assoc, Option.bind_some]
theorem okL19_9 (f42 : i42 → Option o42) (l19_9v1 : iL19_9v1 → Option oL19_9v1) (hf42 : Sd42 f42) (hl19_9v1 : SdL19_9v1 l19_9v1) : SdL19_9 (fun a => u19_9 sh0 f42 l19_9v1 a.1 a.2.1 a.2.2.1 a.2.2.2 some) := by
  intro nt a b h
  refine round_ok (sh := sh0) (hsh := fun _ _ => rfl) (br := br19) (ar := ar19) Try.mixed (by kernel_rfl) (.cons (mkEnt_ok hf42) .nil) (.cons (mkLEnt_ok (hl19_9v1 nt)) .nil) ((u19_9_eq sh0 (fun _ _ => rfl) f42 l19_9v1  a.1 a.2.1 a.2.2.1 a.2.2.2 _).trans ?_)
  rw [u19_9_law]
  simp only at h
  rw [h, Option.bind_some, retKL19_9_eq]
noncomputable def u19_9v1 {R : Type} (sh : Sh) (f42 : i42 → Option o42) (l19_9v1 : iL19_9v1 → Option oL19_9v1) (x1 : Rows) (x2 : Rows) (x3 : Rows) (x4 : Rows) (k : oL19_9v1 → Option R) : Option R :=
  sh ((↑(List.length x2) : Int)) fun y13 =>
  bif Decidable.decide (y13 > (1 : Int)) then
    (f42 (x2)).bind fun (r14 : Rows) =>
    (l19_9v1 (x1, r14, x3, x4)).bind k
  else
    k ((x1, x2, x3, x4))
theorem u19_9v1_eq {R : Type} (sh : Sh) (hsh : ∀ {α R : Type} (x : α) (K : α → Option R), sh x K = K x) (f42 : i42 → Option o42) (l19_9v1 : iL19_9v1 → Option oL19_9v1) (x1 : Rows) (x2 : Rows) (x3 : Rows) (x4 : Rows) (K : Ex → CSt → Option R) : roundK Try.prog (tabO sh hsh br19 ar19 [ent42 f42]) (tabL [entL19_9v1 l19_9v1]) ann19 0 Try.f19 9 (encL19_9v1 (x1, x2, x3, x4)) K = u19_9v1 sh f42 l19_9v1 x1 x2 x3 x4 (retKL19_9v1 K) := by kernel_rfl
theorem u19_9v1_law {R : Type} (f42 : i42 → Option o42) (l19_9v1 : iL19_9v1 → Option oL19_9v1) (x1 : Rows) (x2 : Rows) (x3 : Rows) (x4 : Rows) (K : oL19_9v1 → Option R) : u19_9v1 sh0 f42 l19_9v1 x1 x2 x3 x4 K = (u19_9v1 sh0 f42 l19_9v1 x1 x2 x3 x4 some).bind K := by
  simp only [u19_9v1, sh0, cond_bind', two_bind, none_bind', Option.bind_assoc, Option.bind_some]
theorem okL19_9v1 (f42 : i42 → Option o42) (l19_9v1 : iL19_9v1 → Option oL19_9v1) (hf42 : Sd42 f42) (hl19_9v1 : SdL19_9v1 l19_9v1) : SdL19_9v1 (fun a => u19_9v1 sh0 f42 l19_9v1 a.1 a.2.1 a.2.2.1 a.2.2.2 some) := by
  intro nt a b h
  refine round_ok (sh := sh0) (hsh := fun _ _ => rfl) (br := br19) (ar := ar19) Try.mixed (by kernel_rfl) (.cons (mkEnt_ok hf42) .nil) (.cons (mkLEnt_ok (hl19_9v1 nt)) .nil) ((u19_9v1_eq sh0 (fun _ _ => rfl) f42 l19_9v1  a.1 a.2.1 a.2.2.1 a.2.2.2 _).trans ?_)
  rw [u19_9v1_law]
  simp only at h
  rw [h, Option.bind_some, retKL19_9v1_eq]
noncomputable def t19 {R : Type} (sh : Sh) (f43 : i43 → Option o43) (l19_5 : iL19_5 → Option oL19_5) (l19_9 : iL19_9 → Option oL19_9) (x1 : Rows) (k : o19 → Option R) : Option R :=
  sh (List.replicate (32 : Nat) [Go.Ev.DL.int Go.IntKind.u8 (0 : Int)] : Rows) fun y1 =>
  sh ((↑(List.length x1) : Int)) fun y2 =>
  bif Decidable.decide (y2 > (4096 : Int)) then
    bif Decidable.decide (List.length y1 = (32 : Nat)) then
      sh (List.replicate (32 : Nat) [Go.Ev.DL.int Go.IntKind.u8 (0 : Int)] : Rows) fun y3 =>
      bif Decidable.decide (List.length y3 = (32 : Nat)) then
        k ((Go.Ev.colI y3 (32 : Nat), (8 : Int)))
      else none
    else none
  else
    sh ([] : Rows) fun y4 =>
    (l19_5 (x1, (0 : Int), y1, y4)).bind fun (r9 : Rows × Rows × Rows) =>
    sh (List.replicate (32 : Nat) [Go.Ev.DL.int Go.IntKind.u8 (0 : Int)] : Rows) fun y10 =>
    (l19_9 (Prod.fst r9, Prod.fst r9.2, Prod.snd r9.2, y10)).bind (two (fun (r16 : Rows × Rows × Rows × Rows) =>
      sh ((↑(List.length (Prod.fst r16.2)) : Int)) fun y17 =>
      bif y17 == (1 : Int) then
        bif Decidable.decide ((0 : Int) ≤ (0 : Int) ∧ (0 : Int) < (↑(List.length (Prod.fst r16.2)) : Int)) then
          bif Decidable.decide (List.length (Prod.snd (Prod.snd r16).2) = (32 : Nat)) then
            sh (Go.Ev.colD (Go.Ev.mapD Go.IntKind.u8 (Go.Ev.rowI (Prod.fst r16.2) (0 : Nat) (32 : Nat))) : Rows) fun y18 =>
            bif Decidable.decide (List.length y18 = (32 : Nat)) then
              sh ((↑(List.length (Prod.fst r16)) : Int)) fun y19 =>
              (f43 (Go.Ev.colI y18 (32 : Nat), y19)).bind fun (r20 : List Int) =>
              bif Decidable.decide (List.length (Prod.fst (Prod.snd r16).2) = (32 : Nat)) then
                sh (Go.Ev.colD (Go.Ev.mapD Go.IntKind.u8 (Go.Ev.pkL r20 (32 : Nat))) : Rows) fun y21 =>
                bif Decidable.decide (List.length y21 = (32 : Nat)) then
                  k ((Go.Ev.colI y21 (32 : Nat), (0 : Int)))
                else none
              else none
            else none
          else none
        else none
      else
        bif Decidable.decide (List.length (Prod.snd (Prod.snd r16).2) = (32 : Nat)) then
          sh ((↑(List.length (Prod.fst r16)) : Int)) fun y22 =>
          (f43 (Go.Ev.colI (Prod.snd (Prod.snd r16).2) (32 : Nat), y22)).bind fun (r23 : List Int) =>
          bif Decidable.decide (List.length (Prod.fst (Prod.snd r16).2) = (32 : Nat)) then
            sh (Go.Ev.colD (Go.Ev.mapD Go.IntKind.u8 (Go.Ev.pkL r23 (32 : Nat))) : Rows) fun y24 =>
            bif Decidable.decide (List.length y24 = (32 : Nat)) then
              k ((Go.Ev.colI y24 (32 : Nat), (0 : Int)))
            else none
          else none
        else none
    ) (fun (r25 : Rows × Rows × Rows × Rows) =>
      sh ((↑(List.length (Prod.fst (Prod.snd r25).2)) : Int)) fun y26 =>
      bif y26 == (1 : Int) then
        bif Decidable.decide ((0 : Int) ≤ (0 : Int) ∧ (0 : Int) < (↑(List.length (Prod.fst (Prod.snd r25).2)) : Int)) then
          bif Decidable.decide ((0 : Nat) < List.length (Prod.fst (Prod.snd r25).2)) then
            bif Decidable.decide (List.length (Prod.snd (Prod.snd r25).2) = (32 : Nat)) then
              sh (Go.Ev.colD (Go.Ev.mapD Go.IntKind.u8 (Go.Ev.rowI (Prod.fst (Prod.snd r25).2) (0 : Nat) (32 : Nat))) : Rows) fun y27 =>
              bif Decidable.decide (List.length y27 = (32 : Nat)) then
                sh ((↑(List.length (Prod.fst r25)) : Int)) fun y28 =>
                (f43 (Go.Ev.colI y27 (32 : Nat), y28)).bind fun (r29 : List Int) =>
                bif Decidable.decide (List.length (Prod.fst r25.2) = (32 : Nat)) then
                  sh (Go.Ev.colD (Go.Ev.mapD Go.IntKind.u8 (Go.Ev.pkL r29 (32 : Nat))) : Rows) fun y30 =>
                  bif Decidable.decide (List.length y30 = (32 : Nat)) then
                    k ((Go.Ev.colI y30 (32 : Nat), (0 : Int)))
                  else none
                else none
              else none
            else none
          else none
        else none
      else
        bif Decidable.decide (List.length (Prod.snd (Prod.snd r25).2) = (32 : Nat)) then
          sh ((↑(List.length (Prod.fst r25)) : Int)) fun y31 =>
          (f43 (Go.Ev.colI (Prod.snd (Prod.snd r25).2) (32 : Nat), y31)).bind fun (r32 : List Int) =>
          bif Decidable.decide (List.length (Prod.fst r25.2) = (32 : Nat)) then
            sh (Go.Ev.colD (Go.Ev.mapD Go.IntKind.u8 (Go.Ev.pkL r32 (32 : Nat))) : Rows) fun y33 =>
            bif Decidable.decide (List.length y33 = (32 : Nat)) then
              k ((Go.Ev.colI y33 (32 : Nat), (0 : Int)))
            else none
          else none
        else none
    ))
theorem t19_eq {R : Type} (sh : Sh) (hsh : ∀ {α R : Type} (x : α) (K : α → Option R), sh x K = K x) (f43 : i43 → Option o43) (l19_5 : iL19_5 → Option oL19_5) (l19_9 : iL19_9 → Option oL19_9) (x1 : Rows) (K : CSt → Option R) : bodyK Try.prog (tabO sh hsh br19 ar19 [ent43 f43]) (tabL [entL19_5 l19_5, entL19_9 l19_9]) ann19 false Try.f19 (enc19 x1) K = t19 sh f43 l19_5 l19_9 x1 (retK19 K) := by kernel_rfl
theorem t19_law {R : Type} (f43 : i43 → Option o43) (l19_5 : iL19_5 → Option oL19_5) (l19_9 : iL19_9 → Option oL19_9) (x1 : Rows) (K : o19 → Option R) : t19 sh0 f43 l19_5 l19_9 x1 K = (t19 sh0 f43 l19_5 l19_9 x1 some).bind K := by
  simp only [t19, sh0, cond_bind', two_bind, none_bind', Option.bind_assoc, Option.bind_some]
theorem ok19 (f43 : i43 → Option o43) (l19_5 : iL19_5 → Option oL19_5) (l19_9 : iL19_9 → Option oL19_9) (hf43 : Sd43 f43) (hl19_5 : SdL19_5 l19_5) (hl19_9 : SdL19_9 l19_9) : Sd19 (fun a => t19 sh0 f43 l19_5 l19_9 a some) := by
  intro a b h
  refine call_ok (sh := sh0) (hsh := fun _ _ => rfl) (br := br19) (ar := ar19) (own := false) Try.mixed Try.func19 (by kernel_rfl) (.cons (mkEnt_ok hf43) .nil) (fun nt => (.cons (mkLEnt_ok (hl19_5 nt)) (.cons (mkLEnt_ok (hl19_9 nt)) .nil))) ((t19_eq sh0 (fun _ _ => rfl) f43 l19_5 l19_9 a _).trans ?_)
  rw [t19_law]
  simp only at h
  rw [h, Option.bind_some, retK19_eq]

/-! 21 erasure/erasureref38.Height -/
abbrev i21 : Type := Int
def enc21 : i21 → CSt := fun a => ([Go.Ev.SV.one (Go.Ev.SL.d (Go.Ev.DL.int Go.IntKind.i64 a))], [])
def dec21 : (c : CSt) → Option { a : i21 // c = enc21 a }
  | ([Go.Ev.SV.one (Go.Ev.SL.d (Go.Ev.DL.int Go.IntKind.i64 x1))], []) => some ⟨x1, rfl⟩
  | _ => none
abbrev o21 : Type := Int
def ret21 : o21 → CSt := fun b => ([Go.Ev.SV.one (Go.Ev.SL.d (Go.Ev.DL.int Go.IntKind.i64 b))], [])
def retK21 {R : Type} (K : CSt → Option R) : o21 → Option R := fun b => K (([Go.Ev.SV.one (Go.Ev.SL.d (Go.Ev.DL.int Go.IntKind.i64 b))], []))
theorem retK21_eq {R : Type} (K : CSt → Option R) (b : o21) : retK21 K b = K (ret21 b) := rfl
abbrev Sd21 (f : i21 → Option o21) : Prop := ∀ a b, f a = some b → CallOk Try.prog 21 (enc21 a) (ret21 b)
def ent21 (f : i21 → Option o21) : Ent := mkEnt 21 dec21 ret21 retK21 retK21_eq f
def ann21 : Nat → List Nat × List Nat := fun id => bif Nat.beq id 4 then ([0, 3], [3]) else ([], [])
def br21 : FuncId → Bool := fun (g : Nat) => ([67, 72] : List Nat).any (Nat.beq g)
def ar21 : TypeId → Bool := fun (t : Nat) => ([24, 25, 79, 82] : List Nat).any (Nat.beq t)
abbrev iL21_4 : Type := Int × Int
def encL21_4 : iL21_4 → CSt := fun a => ([Go.Ev.SV.one (Go.Ev.SL.d (Go.Ev.DL.int Go.IntKind.i64 a.1)), Go.Ev.SV.one (Go.Ev.SL.d (Go.Ev.DL.int Go.IntKind.i64 a.2))], [])
def decL21_4 : (c : CSt) → Option { a : iL21_4 // c = encL21_4 a }
  | ([Go.Ev.SV.one (Go.Ev.SL.d (Go.Ev.DL.int Go.IntKind.i64 x1)), Go.Ev.SV.one (Go.Ev.SL.d (Go.Ev.DL.int Go.IntKind.i64 x2))], []) => some ⟨(x1, x2), rfl⟩
  | _ => none
abbrev oL21_4 : Type := Int
def retL21_4 : oL21_4 → Ex × CSt := fun b => (Go.Ev.Ex.exit (0 : Nat), ([Go.Ev.SV.one (Go.Ev.SL.d (Go.Ev.DL.int Go.IntKind.i64 b))], []))
def retKL21_4 {R : Type} (K : Ex → CSt → Option R) : oL21_4 → Option R := fun b => K (Go.Ev.Ex.exit (0 : Nat)) (([Go.Ev.SV.one (Go.Ev.SL.d (Go.Ev.DL.int Go.IntKind.i64 b))], []))
theorem retKL21_4_eq {R : Type} (K : Ex → CSt → Option R) (b : oL21_4) : retKL21_4 K b = K (retL21_4 b).1 (retL21_4 b).2 := rfl
def entL21_4 (l : iL21_4 → Option oL21_4) : LEnt := mkLEnt 4 decL21_4 retL21_4 retKL21_4 retKL21_4_eq l
abbrev SdL21_4 (l : iL21_4 → Option oL21_4) : Prop := ∀ nt a b, l a = some b → LoopAt Try.prog nt 0 ann21 Try.f21 4 (encL21_4 a) (retL21_4 b)
noncomputable def u21_4 {R : Type} (sh : Sh) (l21_4 : iL21_4 → Option oL21_4) (x1 : Int) (x2 : Int) (k : oL21_4 → Option R) : Option R :=
  bif Decidable.decide (x1 > (1 : Int)) then
    (l21_4 (Go.IntKind.wrap Go.IntKind.i64 (Int.tdiv (Go.IntKind.wrap Go.IntKind.i64 (x1 + (1 : Int))) (2 : Int)), Go.IntKind.wrap Go.IntKind.i64 (x2 + (1 : Int)))).bind k
  else
    k (x2)
theorem u21_4_eq {R : Type} (sh : Sh) (hsh : ∀ {α R : Type} (x : α) (K : α → Option R), sh x K = K x) (l21_4 : iL21_4 → Option oL21_4) (x1 : Int) (x2 : Int) (K : Ex → CSt → Option R) : roundK Try.prog (tabO sh hsh br21 ar21 []) (tabL [entL21_4 l21_4]) ann21 0 Try.f21 4 (encL21_4 (x1, x2)) K = u21_4 sh l21_4 x1 x2 (retKL21_4 K) := by kernel_rfl
theorem u21_4_law {R : Type} (l21_4 : iL21_4 → Option oL21_4) (x1 : Int) (x2 : Int) (K : oL21_4 → Option R) : u21_4 sh0 l21_4 x1 x2 K = (u21_4 sh0 l21_4 x1 x2 some).bind K := by
  simp only [u21_4, sh0, cond_bind', two_bind, none_bind', Option.bind_assoc, Option.bind_some]
theorem okL21_4 (l21_4 : iL21_4 → Option oL21_4) (hl21_4 : SdL21_4 l21_4) : SdL21_4 (fun a => u21_4 sh0 l21_4 a.1 a.2 some) := by
  intro nt a b h
  refine round_ok (sh := sh0) (hsh := fun _ _ => rfl) (br := br21) (ar := ar21) Try.mixed (by kernel_rfl) .nil (.cons (mkLEnt_ok (hl21_4 nt)) .nil) ((u21_4_eq sh0 (fun _ _ => rfl) l21_4  a.1 a.2 _).trans ?_)
  rw [u21_4_law]
  simp only at h
  rw [h, Option.bind_some, retKL21_4_eq]
noncomputable def t21 {R : Type} (sh : Sh) (l21_4 : iL21_4 → Option oL21_4) (x1 : Int) (k : o21 → Option R) : Option R :=
  bif Decidable.decide (x1 < (1 : Int)) then
    k ((0 : Int))
  else
    bif Decidable.decide (x1 > (4096 : Int)) then
      k ((0 : Int))
    else
      (l21_4 (x1, (0 : Int))).bind fun (r1 : Int) =>
      k (r1)
theorem t21_eq {R : Type} (sh : Sh) (hsh : ∀ {α R : Type} (x : α) (K : α → Option R), sh x K = K x) (l21_4 : iL21_4 → Option oL21_4) (x1 : Int) (K : CSt → Option R) : bodyK Try.prog (tabO sh hsh br21 ar21 []) (tabL [entL21_4 l21_4]) ann21 false Try.f21 (enc21 x1) K = t21 sh l21_4 x1 (retK21 K) := by kernel_rfl
theorem t21_law {R : Type} (l21_4 : iL21_4 → Option oL21_4) (x1 : Int) (K : o21 → Option R) : t21 sh0 l21_4 x1 K = (t21 sh0 l21_4 x1 some).bind K := by
  simp only [t21, sh0, cond_bind', two_bind, none_bind', Option.bind_assoc, Option.bind_some]
theorem ok21 (l21_4 : iL21_4 → Option oL21_4) (hl21_4 : SdL21_4 l21_4) : Sd21 (fun a => t21 sh0 l21_4 a some) := by
  intro a b h
  refine call_ok (sh := sh0) (hsh := fun _ _ => rfl) (br := br21) (ar := ar21) (own := false) Try.mixed Try.func21 (by kernel_rfl) .nil (fun nt => (.cons (mkLEnt_ok (hl21_4 nt)) .nil)) ((t21_eq sh0 (fun _ _ => rfl) l21_4 a _).trans ?_)
  rw [t21_law]
  simp only at h
  rw [h, Option.bind_some, retK21_eq]

/-! 23 erasure/erasureref38.Prove -/
abbrev i23 : Type := Rows × Int
def enc23 : i23 → CSt := fun a => ([Go.Ev.SV.one (Go.Ev.SL.d (Go.Ev.DL.lst (25 : Nat) a.1)), Go.Ev.SV.one (Go.Ev.SL.d (Go.Ev.DL.int Go.IntKind.i64 a.2))], [])
def dec23 : (c : CSt) → Option { a : i23 // c = enc23 a }
  | ([Go.Ev.SV.one (Go.Ev.SL.d (Go.Ev.DL.lst (25 : Nat) x1)), Go.Ev.SV.one (Go.Ev.SL.d (Go.Ev.DL.int Go.IntKind.i64 x2))], []) => some ⟨(x1, x2), rfl⟩
  | _ => none
abbrev o23 : Type := Int × Int × Rows × Int
def ret23 : o23 → CSt := fun b => ([Go.Ev.SV.agg [Go.Ev.SL.d (Go.Ev.DL.int Go.IntKind.i64 b.1), Go.Ev.SL.d (Go.Ev.DL.int Go.IntKind.i64 b.2.1), Go.Ev.SL.d (Go.Ev.DL.lst (25 : Nat) b.2.2.1)], Go.Ev.SV.one (Go.Ev.SL.d (Go.Ev.DL.int Go.IntKind.i64 b.2.2.2))], [])
def retK23 {R : Type} (K : CSt → Option R) : o23 → Option R := fun b => K (([Go.Ev.SV.agg [Go.Ev.SL.d (Go.Ev.DL.int Go.IntKind.i64 b.1), Go.Ev.SL.d (Go.Ev.DL.int Go.IntKind.i64 b.2.1), Go.Ev.SL.d (Go.Ev.DL.lst (25 : Nat) b.2.2.1)], Go.Ev.SV.one (Go.Ev.SL.d (Go.Ev.DL.int Go.IntKind.i64 b.2.2.2))], []))
theorem retK23_eq {R : Type} (K : CSt → Option R) (b : o23) : retK23 K b = K (ret23 b) := rfl
abbrev Sd23 (f : i23 → Option o23) : Prop := ∀ a b, f a = some b → CallOk Try.prog 23 (enc23 a) (ret23 b)
def ent23 (f : i23 → Option o23) : Ent := mkEnt 23 dec23 ret23 retK23 retK23_eq f
def ann23 : Nat → List Nat × List Nat := fun id => bif Nat.beq id 8 then ([0, 1, 4, 6, 7, 8], [1, 4, 6, 7]) else bif Nat.beq id 11 then ([1, 4, 6, 7], [4, 6]) else ([], [])
def br23 : FuncId → Bool := fun (g : Nat) => ([67, 72] : List Nat).any (Nat.beq g)
def ar23 : TypeId → Bool := fun (t : Nat) => ([24, 25, 79, 82] : List Nat).any (Nat.beq t)
abbrev iL23_8 : Type := Rows × Int × Int × Int × Int × Int × Int × Rows × Rows × Rows
def encL23_8 : iL23_8 → CSt := fun a => ([Go.Ev.SV.one (Go.Ev.SL.d (Go.Ev.DL.lst (25 : Nat) a.1)), Go.Ev.SV.one (Go.Ev.SL.d (Go.Ev.DL.int Go.IntKind.i64 a.2.1)), Go.Ev.SV.one (Go.Ev.SL.ptr (0 : Nat) (0 : Nat)), Go.Ev.SV.one (Go.Ev.SL.ptr (1 : Nat) (0 : Nat)), Go.Ev.SV.one (Go.Ev.SL.vr (2 : Nat)), Go.Ev.SV.one (Go.Ev.SL.d (Go.Ev.DL.int Go.IntKind.i64 a.2.2.1))], [Go.Ev.Obj.box (32 : Nat) [Go.Ev.SL.d (Go.Ev.DL.int Go.IntKind.i64 a.2.2.2.1), Go.Ev.SL.d (Go.Ev.DL.int Go.IntKind.i64 a.2.2.2.2.1), Go.Ev.SL.vr (3 : Nat)], Go.Ev.Obj.box (32 : Nat) [Go.Ev.SL.d (Go.Ev.DL.int Go.IntKind.i64 a.2.2.2.2.2.1), Go.Ev.SL.d (Go.Ev.DL.int Go.IntKind.i64 a.2.2.2.2.2.2.1), Go.Ev.SL.vr (4 : Nat)], Go.Ev.Obj.vec (25 : Nat) Bool.false a.2.2.2.2.2.2.2.1, Go.Ev.Obj.vec (25 : Nat) Bool.false a.2.2.2.2.2.2.2.2.1, Go.Ev.Obj.vec (25 : Nat) Bool.false a.2.2.2.2.2.2.2.2.2])
def decL23_8 : (c : CSt) → Option { a : iL23_8 // c = encL23_8 a }
  | ([Go.Ev.SV.one (Go.Ev.SL.d (Go.Ev.DL.lst (25 : Nat) x1)), Go.Ev.SV.one (Go.Ev.SL.d (Go.Ev.DL.int Go.IntKind.i64 x2)), Go.Ev.SV.one (Go.Ev.SL.ptr (0 : Nat) (0 : Nat)), Go.Ev.SV.one (Go.Ev.SL.ptr (1 : Nat) (0 : Nat)), Go.Ev.SV.one (Go.Ev.SL.vr (2 : Nat)), Go.Ev.SV.one (Go.Ev.SL.d (Go.Ev.DL.int Go.IntKind.i64 x3))], [Go.Ev.Obj.box (32 : Nat) [Go.Ev.SL.d (Go.Ev.DL.int Go.IntKind.i64 x4), Go.Ev.SL.d (Go.Ev.DL.int Go.IntKind.i64 x5), Go.Ev.SL.vr (3 : Nat)], Go.Ev.Obj.box (32 : Nat) [Go.Ev.SL.d (Go.Ev.DL.int Go.IntKind.i64 x6), Go.Ev.SL.d (Go.Ev.DL.int Go.IntKind.i64 x7), Go.Ev.SL.vr (4 : Nat)], Go.Ev.Obj.vec (25 : Nat) Bool.false x8, Go.Ev.Obj.vec (25 : Nat) Bool.false x9, Go.Ev.Obj.vec (25 : Nat) Bool.false x10]) => some ⟨(x1, x2, x3, x4, x5, x6, x7, x8, x9, x10), rfl⟩
  | _ => none
abbrev oL23_8 : Type := Int × Int × Int × Int × Int × Rows × Rows × Rows
def retL23_8 : oL23_8 → Ex × CSt := fun b => (Go.Ev.Ex.exit (0 : Nat), ([Go.Ev.SV.one (Go.Ev.SL.d (Go.Ev.DL.int Go.IntKind.i64 b.1)), Go.Ev.SV.one (Go.Ev.SL.ptr (0 : Nat) (0 : Nat)), Go.Ev.SV.one (Go.Ev.SL.ptr (1 : Nat) (0 : Nat)), Go.Ev.SV.one (Go.Ev.SL.vr (2 : Nat))], [Go.Ev.Obj.box (32 : Nat) [Go.Ev.SL.d (Go.Ev.DL.int Go.IntKind.i64 b.2.1), Go.Ev.SL.d (Go.Ev.DL.int Go.IntKind.i64 b.2.2.1), Go.Ev.SL.vr (3 : Nat)], Go.Ev.Obj.box (32 : Nat) [Go.Ev.SL.d (Go.Ev.DL.int Go.IntKind.i64 b.2.2.2.1), Go.Ev.SL.d (Go.Ev.DL.int Go.IntKind.i64 b.2.2.2.2.1), Go.Ev.SL.vr (4 : Nat)], Go.Ev.Obj.vec (25 : Nat) Bool.false b.2.2.2.2.2.1, Go.Ev.Obj.vec (25 : Nat) Bool.false b.2.2.2.2.2.2.1, Go.Ev.Obj.vec (25 : Nat) Bool.false b.2.2.2.2.2.2.2]))
def retKL23_8 {R : Type} (K : Ex → CSt → Option R) : oL23_8 → Option R := fun b => K (Go.Ev.Ex.exit (0 : Nat)) (([Go.Ev.SV.one (Go.Ev.SL.d (Go.Ev.DL.int Go.IntKind.i64 b.1)), Go.Ev.SV.one (Go.Ev.SL.ptr (0 : Nat) (0 : Nat)), Go.Ev.SV.one (Go.Ev.SL.ptr (1 : Nat) (0 : Nat)), Go.Ev.SV.one (Go.Ev.SL.vr (2 : Nat))], [Go.Ev.Obj.box (32 : Nat) [Go.Ev.SL.d (Go.Ev.DL.int Go.IntKind.i64 b.2.1), Go.Ev.SL.d (Go.Ev.DL.int Go.IntKind.i64 b.2.2.1), Go.Ev.SL.vr (3 : Nat)], Go.Ev.Obj.box (32 : Nat) [Go.Ev.SL.d (Go.Ev.DL.int Go.IntKind.i64 b.2.2.2.1), Go.Ev.SL.d (Go.Ev.DL.int Go.IntKind.i64 b.2.2.2.2.1), Go.Ev.SL.vr (4 : Nat)], Go.Ev.Obj.vec (25 : Nat) Bool.false b.2.2.2.2.2.1, Go.Ev.Obj.vec (25 : Nat) Bool.false b.2.2.2.2.2.2.1, Go.Ev.Obj.vec (25 : Nat) Bool.false b.2.2.2.2.2.2.2]))
theorem retKL23_8_eq {R : Type} (K : Ex → CSt → Option R) (b : oL23_8) : retKL23_8 K b = K (retL23_8 b).1 (retL23_8 b).2 := rfl
def entL23_8 (l : iL23_8 → Option oL23_8) : LEnt := mkLEnt 8 decL23_8 retL23_8 retKL23_8 retKL23_8_eq l
abbrev SdL23_8 (l : iL23_8 → Option oL23_8) : Prop := ∀ nt a b, l a = some b → LoopAt Try.prog nt 0 ann23 Try.f23 8 (encL23_8 a) (retL23_8 b)
abbrev iL23_11 : Type := Int × Int × Int × Int × Int × Rows × Rows × Rows
def encL23_11 : iL23_11 → CSt := fun a => ([Go.Ev.SV.one (Go.Ev.SL.d (Go.Ev.DL.int Go.IntKind.i64 a.1)), Go.Ev.SV.one (Go.Ev.SL.ptr (0 : Nat) (0 : Nat)), Go.Ev.SV.one (Go.Ev.SL.ptr (1 : Nat) (0 : Nat)), Go.Ev.SV.one (Go.Ev.SL.vr (2 : Nat))], [Go.Ev.Obj.box (32 : Nat) [Go.Ev.SL.d (Go.Ev.DL.int Go.IntKind.i64 a.2.1), Go.Ev.SL.d (Go.Ev.DL.int Go.IntKind.i64 a.2.2.1), Go.Ev.SL.vr (3 : Nat)], Go.Ev.Obj.box (32 : Nat) [Go.Ev.SL.d (Go.Ev.DL.int Go.IntKind.i64 a.2.2.2.1), Go.Ev.SL.d (Go.Ev.DL.int Go.IntKind.i64 a.2.2.2.2.1), Go.Ev.SL.vr (4 : Nat)], Go.Ev.Obj.vec (25 : Nat) Bool.false a.2.2.2.2.2.1, Go.Ev.Obj.vec (25 : Nat) Bool.false a.2.2.2.2.2.2.1, Go.Ev.Obj.vec (25 : Nat) Bool.false a.2.2.2.2.2.2.2])
def decL23_11 : (c : CSt) → Option { a : iL23_11 // c = encL23_11 a }
  | ([Go.Ev.SV.one (Go.Ev.SL.d (Go.Ev.DL.int Go.IntKind.i64 x1)), Go.Ev.SV.one (Go.Ev.SL.ptr (0 : Nat) (0 : Nat)), Go.Ev.SV.one (Go.Ev.SL.ptr (1 : Nat) (0 : Nat)), Go.Ev.SV.one (Go.Ev.SL.vr (2 : Nat))], [Go.Ev.Obj.box (32 : Nat) [Go.Ev.SL.d (Go.Ev.DL.int Go.IntKind.i64 x2), Go.Ev.SL.d (Go.Ev.DL.int Go.IntKind.i64 x3), Go.Ev.SL.vr (3 : Nat)], Go.Ev.Obj.box (32 : Nat) [Go.Ev.SL.d (Go.Ev.DL.int Go.IntKind.i64 x4), Go.Ev.SL.d (Go.Ev.DL.int Go.IntKind.i64 x5), Go.Ev.SL.vr (4 : Nat)], Go.Ev.Obj.vec (25 : Nat) Bool.false x6, Go.Ev.Obj.vec (25 : Nat) Bool.false x7, Go.Ev.Obj.vec (25 : Nat) Bool.false x8]) => some ⟨(x1, x2, x3, x4, x5, x6, x7, x8), rfl⟩
  | _ => none
abbrev oL23_11 : Type := Int × Int × Int × Int × Rows × Rows
def retL23_11 : oL23_11 → Ex × CSt := fun b => (Go.Ev.Ex.exit (2 : Nat), ([Go.Ev.SV.one (Go.Ev.SL.ptr (0 : Nat) (0 : Nat)), Go.Ev.SV.one (Go.Ev.SL.ptr (1 : Nat) (0 : Nat))], [Go.Ev.Obj.box (32 : Nat) [Go.Ev.SL.d (Go.Ev.DL.int Go.IntKind.i64 b.1), Go.Ev.SL.d (Go.Ev.DL.int Go.IntKind.i64 b.2.1), Go.Ev.SL.vr (2 : Nat)], Go.Ev.Obj.box (32 : Nat) [Go.Ev.SL.d (Go.Ev.DL.int Go.IntKind.i64 b.2.2.1), Go.Ev.SL.d (Go.Ev.DL.int Go.IntKind.i64 b.2.2.2.1), Go.Ev.SL.vr (3 : Nat)], Go.Ev.Obj.vec (25 : Nat) Bool.false b.2.2.2.2.1, Go.Ev.Obj.vec (25 : Nat) Bool.false b.2.2.2.2.2]))
def retKL23_11 {R : Type} (K : Ex → CSt → Option R) : oL23_11 → Option R := fun b => K (Go.Ev.Ex.exit (2 : Nat)) (([Go.Ev.SV.one (Go.Ev.SL.ptr (0 : Nat) (0 : Nat)), Go.Ev.SV.one (Go.Ev.SL.ptr (1 : Nat) (0 : Nat))], [Go.Ev.Obj.box (32 : Nat) [Go.Ev.SL.d (Go.Ev.DL.int Go.IntKind.i64 b.1), Go.Ev.SL.d (Go.Ev.DL.int Go.IntKind.i64 b.2.1), Go.Ev.SL.vr (2 : Nat)], Go.Ev.Obj.box (32 : Nat) [Go.Ev.SL.d (Go.Ev.DL.int Go.IntKind.i64 b.2.2.1), Go.Ev.SL.d (Go.Ev.DL.int Go.IntKind.i64 b.2.2.2.1), Go.Ev.SL.vr (3 : Nat)], Go.Ev.Obj.vec (25 : Nat) Bool.false b.2.2.2.2.1, Go.Ev.Obj.vec (25 : Nat) Bool.false b.2.2.2.2.2]))
theorem retKL23_11_eq {R : Type} (K : Ex → CSt → Option R) (b : oL23_11) : retKL23_11 K b = K (retL23_11 b).1 (retL23_11 b).2 := rfl
def entL23_11 (l : iL23_11 → Option oL23_11) : LEnt := mkLEnt 11 decL23_11 retL23_11 retKL23_11 retKL23_11_eq l
abbrev SdL23_11 (l : iL23_11 → Option oL23_11) : Prop := ∀ nt a b, l a = some b → LoopAt Try.prog nt 0 ann23 Try.f23 11 (encL23_11 a) (retL23_11 b)
abbrev iL23_11v1 : Type := Int × Rows × Int × Int × Int × Int × Rows × Rows
def encL23_11v1 : iL23_11v1 → CSt := fun a => ([Go.Ev.SV.one (Go.Ev.SL.d (Go.Ev.DL.int Go.IntKind.i64 a.1)), Go.Ev.SV.one (Go.Ev.SL.ptr (0 : Nat) (0 : Nat)), Go.Ev.SV.one (Go.Ev.SL.ptr (1 : Nat) (0 : Nat)), Go.Ev.SV.one (Go.Ev.SL.d (Go.Ev.DL.lst (25 : Nat) a.2.1))], [Go.Ev.Obj.box (32 : Nat) [Go.Ev.SL.d (Go.Ev.DL.int Go.IntKind.i64 a.2.2.1), Go.Ev.SL.d (Go.Ev.DL.int Go.IntKind.i64 a.2.2.2.1), Go.Ev.SL.vr (2 : Nat)], Go.Ev.Obj.box (32 : Nat) [Go.Ev.SL.d (Go.Ev.DL.int Go.IntKind.i64 a.2.2.2.2.1), Go.Ev.SL.d (Go.Ev.DL.int Go.IntKind.i64 a.2.2.2.2.2.1), Go.Ev.SL.vr (3 : Nat)], Go.Ev.Obj.vec (25 : Nat) Bool.false a.2.2.2.2.2.2.1, Go.Ev.Obj.vec (25 : Nat) Bool.false a.2.2.2.2.2.2.2])
def decL23_11v1 : (c : CSt) → Option { a : iL23_11v1 // c = encL23_11v1 a }
  | ([Go.Ev.SV.one (Go.Ev.SL.d (Go.Ev.DL.int Go.IntKind.i64 x1)), Go.Ev.SV.one (Go.Ev.SL.ptr (0 : Nat) (0 : Nat)), Go.Ev.SV.one (Go.Ev.SL.ptr (1 : Nat) (0 : Nat)), Go.Ev.SV.one (Go.Ev.SL.d (Go.Ev.DL.lst (25 : Nat) x2))], [Go.Ev.Obj.box (32 : Nat) [Go.Ev.SL.d (Go.Ev.DL.int Go.IntKind.i64 x3), Go.Ev.SL.d (Go.Ev.DL.int Go.IntKind.i64 x4), Go.Ev.SL.vr (2 : Nat)], Go.Ev.Obj.box (32 : Nat) [Go.Ev.SL.d (Go.Ev.DL.int Go.IntKind.i64 x5), Go.Ev.SL.d (Go.Ev.DL.int Go.IntKind.i64 x6), Go.Ev.SL.vr (3 : Nat)], Go.Ev.Obj.vec (25 : Nat) Bool.false x7, Go.Ev.Obj.vec (25 : Nat) Bool.false x8]) => some ⟨(x1, x2, x3, x4, x5, x6, x7, x8), rfl⟩
  | _ => none
abbrev oL23_11v1 : Type := Int × Int × Int × Int × Rows × Rows
def retL23_11v1 : oL23_11v1 → Ex × CSt := fun b => (Go.Ev.Ex.exit (2 : Nat), ([Go.Ev.SV.one (Go.Ev.SL.ptr (0 : Nat) (0 : Nat)), Go.Ev.SV.one (Go.Ev.SL.ptr (1 : Nat) (0 : Nat))], [Go.Ev.Obj.box (32 : Nat) [Go.Ev.SL.d (Go.Ev.DL.int Go.IntKind.i64 b.1), Go.Ev.SL.d (Go.Ev.DL.int Go.IntKind.i64 b.2.1), Go.Ev.SL.vr (2 : Nat)], Go.Ev.Obj.box (32 : Nat) [Go.Ev.SL.d (Go.Ev.DL.int Go.IntKind.i64 b.2.2.1), Go.Ev.SL.d (Go.Ev.DL.int Go.IntKind.i64 b.2.2.2.1), Go.Ev.SL.vr (3 : Nat)], Go.Ev.Obj.vec (25 : Nat) Bool.false b.2.2.2.2.1, Go.Ev.Obj.vec (25 : Nat) Bool.false b.2.2.2.2.2]))
def retKL23_11v1 {R : Type} (K : Ex → CSt → Option R) : oL23_11v1 → Option R := fun b => K (Go.Ev.Ex.exit (2 : Nat)) (([Go.Ev.SV.one (Go.Ev.SL.ptr (0 : Nat) (0 : Nat)), Go.Ev.SV.one (Go.Ev.SL.ptr (1 : Nat) (0 : Nat))], [Go.Ev.Obj.box (32 : Nat) [Go.Ev.SL.d (Go.Ev.DL.int Go.IntKind.i64 b.1), Go.Ev.SL.d (Go.Ev.DL.int Go.IntKind.i64 b.2.1), Go.Ev.SL.vr (2 : Nat)], Go.Ev.Obj.box (32 : Nat) [Go.Ev.SL.d (Go.Ev.DL.int Go.IntKind.i64 b.2.2.1), Go.Ev.SL.d (Go.Ev.DL.int Go.IntKind.i64 b.2.2.2.1), Go.Ev.SL.vr (3 : Nat)], Go.Ev.Obj.vec (25 : Nat) Bool.false b.2.2.2.2.1, Go.Ev.Obj.vec (25 : Nat) Bool.false b.2.2.2.2.2]))
theorem retKL23_11v1_eq {R : Type} (K : Ex → CSt → Option R) (b : oL23_11v1) : retKL23_11v1 K b = K (retL23_11v1 b).1 (retL23_11v1 b).2 := rfl
def entL23_11v1 (l : iL23_11v1 → Option oL23_11v1) : LEnt := mkLEnt 11 decL23_11v1 retL23_11v1 retKL23_11v1 retKL23_11v1_eq l
abbrev SdL23_11v1 (l : iL23_11v1 → Option oL23_11v1) : Prop := ∀ nt a b, l a = some b → LoopAt Try.prog nt 0 ann23 Try.f23 11 (encL23_11v1 a) (retL23_11v1 b)
noncomputable def u23_8 {R : Type} (sh : Sh) (f41 : i41 → Option o41) (l23_8 : iL23_8 → Option oL23_8) (x1 : Rows) (x2 : Int) (x3 : Int) (x4 : Int) (x5 : Int) (x6 : Int) (x7 : Int) (x8 : Rows) (x9 : Rows) (x10 : Rows) (k : oL23_8 → Option R) : Option R :=
  sh ((↑(List.length x1) : Int)) fun y11 =>
  bif Decidable.decide (x3 < y11) then
    bif Decidable.decide ((0 : Int) ≤ x3 ∧ x3 < (↑(List.length x1) : Int)) then
      (f41 (Go.Ev.rowI x1 (Int.toNat x3) (32 : Nat))).bind fun (r12 : List Int) =>
      sh ([Go.Ev.mapD Go.IntKind.u8 (Go.Ev.pkL r12 (32 : Nat))] : Rows) fun y13 =>
      bif Go.Ev.roomE Go.Proofs.Try.prog (25 : Nat) (List.length x8 + List.length y13) then
        sh (x8 ++ y13 : Rows) fun y14 =>
        (l23_8 (x1, x2, Go.IntKind.wrap Go.IntKind.i64 (x3 + (1 : Int)), x4, x5, x6, x7, y14, x9, x10)).bind k
      else none
    else none
  else
    k ((x2, x4, x5, x6, x7, x8, x9, x10))
theorem u23_8_eq {R : Type} (sh : Sh) (hsh : ∀ {α R : Type} (x : α) (K : α → Option R), sh x K = K x) (f41 : i41 → Option o41) (l23_8 : iL23_8 → Option oL23_8) (x1 : Rows) (x2 : Int) (x3 : Int) (x4 : Int) (x5 : Int) (x6 : Int) (x7 : Int) (x8 : Rows) (x9 : Rows) (x10 : Rows) (K : Ex → CSt → Option R) : roundK Try.prog (tabO sh hsh br23 ar23 [ent41 f41]) (tabL [entL23_8 l23_8]) ann23 0 Try.f23 8 (encL23_8 (x1, x2, x3, x4, x5, x6, x7, x8, x9, x10)) K = u23_8 sh f41 l23_8 x1 x2 x3 x4 x5 x6 x7 x8 x9 x10 (retKL23_8 K) := by kernel_rfl
theorem u23_8_law {R : Type} (f41 : i41 → Option o41) (l23_8 : iL23_8 → Option oL23_8) (x1 : Rows) (x2 : Int) (x3 : Int) (x4 : Int) (x5 : Int) (x6 : Int) (x7 : Int) (x8 : Rows) (x9 : Rows) (x10 : Rows) (K : oL23_8 → Option R) : u23_8 sh0 f41 l23_8 x1 x2 x3 x4 x5 x6 x7 x8 x9 x10 K = (u23_8 sh0 f41 l23_8 x1 x2 x3 x4 x5 x6 x7 x8 x9 x10 some).bind K := by
  simp only [u23_8, sh0, cond_bind', two_bind, none_bind', Option.bind_assoc, Option.bind_some]
theorem okL23_8 (f41 : i41 → Option o41) (l23_8 : iL23_8 → Option oL23_8) (hf41 : Sd41 f41) (hl23_8 : SdL23_8 l23_8) : SdL23_8 (fun a => u23_8 sh0 f41 l23_8 a.1 a.2.1 a.2.2.1 a.2.2.2.1 a.2.2.2.2.1 a.2.2.2.2.2.1 a.2.2.2.2.2.2.1 a.2.2.2.2.2.2.2.1 a.2.2.2.2.2.2.2.2.1 a.2.2.2.2.2.2.2.2.2 some) := by
  intro nt a b h
  refine round_ok (sh := sh0) (hsh := fun _ _ => rfl) (br := br23) (ar := ar23) Try.mixed (by kernel_rfl) (.cons (mkEnt_ok hf41) .nil) (.cons (mkLEnt_ok (hl23_8 nt)) .nil) ((u23_8_eq sh0 (fun _ _ => rfl) f41 l23_8  a.1 a.2.1 a.2.2.1 a.2.2.2.1 a.2.2.2.2.1 a.2.2.2.2.2.1 a.2.2.2.2.2.2.1 a.2.2.2.2.2.2.2.1 a.2.2.2.2.2.2.2.2.1 a.2.2.2.2.2.2.2.2.2 _).trans ?_)
  rw [u23_8_law]
  simp only at h
  rw [h, Option.bind_some, retKL23_8_eq]
noncomputable def u23_11 {R : Type} (sh : Sh) (f42 : i42 → Option o42) (l23_11v1 : iL23_11v1 → Option oL23_11v1) (x1 : Int) (x2 : Int) (x3 : Int) (x4 : Int) (x5 : Int) (x6 : Rows) (x7 : Rows) (x8 : Rows) (k : oL23_11 → Option R) : Option R :=
  sh ((↑(List.length x6) : Int)) fun y16 =>
  bif Decidable.decide (y16 > (1 : Int)) then
    bif Int.tmod x1 (2 : Int) == (1 : Int) then
      bif Decidable.decide ((0 : Int) ≤ Go.IntKind.wrap Go.IntKind.i64 (x1 - (1 : Int)) ∧ Go.IntKind.wrap Go.IntKind.i64 (x1 - (1 : Int)) < (↑(List.length x6) : Int)) then
        bif Decidable.decide (Int.toNat (Go.IntKind.wrap Go.IntKind.i64 (x1 - (1 : Int))) < List.length x6) then
          sh ([Go.Ev.mapD Go.IntKind.u8 (Go.Ev.rowI x6 (Int.toNat (Go.IntKind.wrap Go.IntKind.i64 (x1 - (1 : Int)))) (32 : Nat))] : Rows) fun y17 =>
          bif Go.Ev.roomE Go.Proofs.Try.prog (25 : Nat) (List.length x8 + List.length y17) then
            sh (x8 ++ y17 : Rows) fun y18 =>
            (f42 (x6)).bind fun (r19 : Rows) =>
            (l23_11v1 (Go.IntKind.wrap Go.IntKind.i64 (Int.tdiv x1 (2 : Int)), r19, x2, x3, x4, x5, x7, y18)).bind fun (r29 : Int × Int × Int × Int × Rows × Rows) =>
            k ((Prod.fst r29, Prod.fst r29.2, Prod.fst (Prod.snd r29).2, Prod.fst (Prod.snd (Prod.snd r29)).2, Prod.fst (Prod.snd (Prod.snd (Prod.snd r29))).2, Prod.snd (Prod.snd (Prod.snd (Prod.snd r29))).2))
          else none
        else none
      else none
    else
      sh ((↑(List.length x6) : Int)) fun y30 =>
      bif Decidable.decide (Go.IntKind.wrap Go.IntKind.i64 (x1 + (1 : Int)) < y30) then
        bif Decidable.decide ((0 : Int) ≤ Go.IntKind.wrap Go.IntKind.i64 (x1 + (1 : Int)) ∧ Go.IntKind.wrap Go.IntKind.i64 (x1 + (1 : Int)) < (↑(List.length x6) : Int)) then
          bif Decidable.decide (Int.toNat (Go.IntKind.wrap Go.IntKind.i64 (x1 + (1 : Int))) < List.length x6) then
            sh ([Go.Ev.mapD Go.IntKind.u8 (Go.Ev.rowI x6 (Int.toNat (Go.IntKind.wrap Go.IntKind.i64 (x1 + (1 : Int)))) (32 : Nat))] : Rows) fun y31 =>
            bif Go.Ev.roomE Go.Proofs.Try.prog (25 : Nat) (List.length x8 + List.length y31) then
              sh (x8 ++ y31 : Rows) fun y32 =>
              (f42 (x6)).bind fun (r33 : Rows) =>
              (l23_11v1 (Go.IntKind.wrap Go.IntKind.i64 (Int.tdiv x1 (2 : Int)), r33, x2, x3, x4, x5, x7, y32)).bind fun (r34 : Int × Int × Int × Int × Rows × Rows) =>
              k ((Prod.fst r34, Prod.fst r34.2, Prod.fst (Prod.snd r34).2, Prod.fst (Prod.snd (Prod.snd r34)).2, Prod.fst (Prod.snd (Prod.snd (Prod.snd r34))).2, Prod.snd (Prod.snd (Prod.snd (Prod.snd r34))).2))
            else none
          else none
        else none
      else
        (f42 (x6)).bind fun (r35 : Rows) =>
        (l23_11v1 (Go.IntKind.wrap Go.IntKind.i64 (Int.tdiv x1 (2 : Int)), r35, x2, x3, x4, x5, x7, x8)).bind fun (r36 : Int × Int × Int × Int × Rows × Rows) =>
        k ((Prod.fst r36, Prod.fst r36.2, Prod.fst (Prod.snd r36).2, Prod.fst (Prod.snd (Prod.snd r36)).2, Prod.fst (Prod.snd (Prod.snd (Prod.snd r36))).2, Prod.snd (Prod.snd (Prod.snd (Prod.snd r36))).2))
  else
    k ((x2, x3, x4, x5, x7, x8))
theorem u23_11_eq {R : Type} (sh : Sh) (hsh : ∀ {α R : Type} (x : α) (K : α → Option R), sh x K = K x) (f42 : i42 → Option o42) (l23_11v1 : iL23_11v1 → Option oL23_11v1) (x1 : Int) (x2 : Int) (x3 : Int) (x4 : Int) (x5 : Int) (x6 : Rows) (x7 : Rows) (x8 : Rows) (K : Ex → CSt → Option R) : roundK Try.prog (tabO sh hsh br23 ar23 [ent42 f42]) (tabL [entL23_11v1 l23_11v1]) ann23 0 Try.f23 11 (encL23_11 (x1, x2, x3, x4, x5, x6, x7, x8)) K = u23_11 sh f42 l23_11v1 x1 x2 x3 x4 x5 x6 x7 x8 (retKL23_11 K) := by kernel_rfl
theorem u23_11_law {R : Type} (f42 : i42 → Option o42) (l23_11v1 : iL23_11v1 → Option oL23_11v1) (x1 : Int) (x2 : Int) (x3 : Int) (x4 : Int) (x5 : Int) (x6 : Rows) (x7 : Rows) (x8 : Rows) (K : oL23_11 → Option R) : u23_11 sh0 f42 l23_11v1 x1 x2 x3 x4 x5 x6 x7 x8 K = (u23_11 sh0 f42 l23_11v1 x1 x2 x3 x4 x5 x6 x7 x8 some).bind K := by
  simp only [u23_11, sh0, cond_bind', two_bind, none_bind', Option.bind_assoc, Option.bind_some]
theorem okL23_11 (f42 : i42 → Option o42) (l23_11v1 : iL23_11v1 → Option oL23_11v1) (hf42 : Sd42 f42) (hl23_11v1 : SdL23_11v1 l23_11v1) : SdL23_11 (fun a => u23_11 sh0 f42 l23_11v1 a.1 a.2.1 a.2.2.1 a.2.2.2.1 a.2.2.2.2.1 a.2.2.2.2.2.1 a.2.2.2.2.2.2.1 a.2.2.2.2.2.2.2 some) := by
  intro nt a b h
  refine round_ok (sh := sh0) (hsh := fun _ _ => rfl) (br := br23) (ar := ar23) Try.mixed (by kernel_rfl) (.cons (mkEnt_ok hf42) .nil) (.cons (mkLEnt_ok (hl23_11v1 nt)) .nil) ((u23_11_eq sh0 (fun _ _ => rfl) f42 l23_11v1  a.1 a.2.1 a.2.2.1 a.2.2.2.1 a.2.2.2.2.1 a.2.2.2.2.2.1 a.2.2.2.2.2.2.1 a.2.2.2.2.2.2.2 _).trans ?_)
  rw [u23_11_law]
  simp only at h
  rw [h, Option.bind_some, retKL23_11_eq]
noncomputable def u23_11v1 {R : Type} (sh : Sh) (f42 : i42 → Option o42) (l23_11v1 : iL23_11v1 → Option oL23_11v1) (x1 : Int) (x2 : Rows) (x3 : Int) (x4 : Int) (x5 : Int) (x6 : Int) (x7 : Rows) (x8 : Rows) (k : oL23_11v1 → Option R) : Option R :=
  sh ((↑(List.length x2) : Int)) fun y20 =>
  bif Decidable.decide (y20 > (1 : Int)) then
    bif Int.tmod x1 (2 : Int) == (1 : Int) then
      bif Decidable.decide ((0 : Int) ≤ Go.IntKind.wrap Go.IntKind.i64 (x1 - (1 : Int)) ∧ Go.IntKind.wrap Go.IntKind.i64 (x1 - (1 : Int)) < (↑(List.length x2) : Int)) then
        sh ([Go.Ev.mapD Go.IntKind.u8 (Go.Ev.rowI x2 (Int.toNat (Go.IntKind.wrap Go.IntKind.i64 (x1 - (1 : Int)))) (32 : Nat))] : Rows) fun y21 =>
        bif Go.Ev.roomE Go.Proofs.Try.prog (25 : Nat) (List.length x8 + List.length y21) then
          sh (x8 ++ y21 : Rows) fun y22 =>
          (f42 (x2)).bind fun (r23 : Rows) =>
          (l23_11v1 (Go.IntKind.wrap Go.IntKind.i64 (Int.tdiv x1 (2 : Int)), r23, x3, x4, x5, x6, x7, y22)).bind k
        else none
      else none
    else
      sh ((↑(List.length x2) : Int)) fun y24 =>
      bif Decidable.decide (Go.IntKind.wrap Go.IntKind.i64 (x1 + (1 : Int)) < y24) then
        bif Decidable.decide ((0 : Int) ≤ Go.IntKind.wrap Go.IntKind.i64 (x1 + (1 : Int)) ∧ Go.IntKind.wrap Go.IntKind.i64 (x1 + (1 : Int)) < (↑(List.length x2) : Int)) then
          sh ([Go.Ev.mapD Go.IntKind.u8 (Go.Ev.rowI x2 (Int.toNat (Go.IntKind.wrap Go.IntKind.i64 (x1 + (1 : Int)))) (32 : Nat))] : Rows) fun y25 =>
          bif Go.Ev.roomE Go.Proofs.Try.prog (25 : Nat) (List.length x8 + List.length y25) then
            sh (x8 ++ y25 : Rows) fun y26 =>
            (f42 (x2)).bind fun (r27 : Rows) =>
            (l23_11v1 (Go.IntKind.wrap Go.IntKind.i64 (Int.tdiv x1 (2 : Int)), r27, x3, x4, x5, x6, x7, y26)).bind k
          else none
        else none
      else
        (f42 (x2)).bind fun (r28 : Rows) =>
        (l23_11v1 (Go.IntKind.wrap Go.IntKind.i64 (Int.tdiv x1 (2 : Int)), r28, x3, x4, x5, x6, x7, x8)).bind k
  else
    k ((x3, x4, x5, x6, x7, x8))
theorem u23_11v1_eq {R : Type} (sh : Sh) (hsh : ∀ {α R : Type} (x : α) (K : α → Option R), sh x K = K x) (f42 : i42 → Option o42) (l23_11v1 : iL23_11v1 → Option oL23_11v1) (x1 : Int) (x2 : Rows) (x3 : Int) (x4 : Int) (x5 : Int) (x6 : Int) (x7 : Rows) (x8 : Rows) (K : Ex → CSt → Option R) : roundK Try.prog (tabO sh hsh br23 ar23 [ent42 f42]) (tabL [entL23_11v1 l23_11v1]) ann23 0 Try.f23 11 (encL23_11v1 (x1, x2, x3, x4, x5, x6, x7, x8)) K = u23_11v1 sh f42 l23_11v1 x1 x2 x3 x4 x5 x6 x7 x8 (retKL23_11v1 K) := by kernel_rfl
theorem u23_11v1_law {R : Type} (f42 : i42 → Option o42) (l23_11v1 : iL23_11v1 → Option oL23_11v1) (x1 : Int) (x2 : Rows) (x3 : Int) (x4 : Int) (x5 : Int) (x6 : Int) (x7 : Rows) (x8 : Rows) (K : oL23_11v1 → Option R) : u23_11v1 sh0 f42 l23_11v1 x1 x2 x3 x4 x5 x6 x7 x8 K = (u23_11v1 sh0 f42 l23_11v1 x1 x2 x3 x4 x5 x6 x7 x8 some).bind K := by
  simp only [u23_11v1, sh0, cond_bind', two_bind, none_bind', Option.bind_assoc, Option.bind_some]
theorem okL23_11v1 (f42 : i42 → Option o42) (l23_11v1 : iL23_11v1 → Option oL23_11v1) (hf42 : Sd42 f42) (hl23_11v1 : SdL23_11v1 l23_11v1) : SdL23_11v1 (fun a => u23_11v1 sh0 f42 l23_11v1 a.1 a.2.1 a.2.2.1 a.2.2.2.1 a.2.2.2.2.1 a.2.2.2.2.2.1 a.2.2.2.2.2.2.1 a.2.2.2.2.2.2.2 some) := by
  intro nt a b h
  refine round_ok (sh := sh0) (hsh := fun _ _ => rfl) (br := br23) (ar := ar23) Try.mixed (by kernel_rfl) (.cons (mkEnt_ok hf42) .nil) (.cons (mkLEnt_ok (hl23_11v1 nt)) .nil) ((u23_11v1_eq sh0 (fun _ _ => rfl) f42 l23_11v1  a.1 a.2.1 a.2.2.1 a.2.2.2.1 a.2.2.2.2.1 a.2.2.2.2.2.1 a.2.2.2.2.2.2.1 a.2.2.2.2.2.2.2 _).trans ?_)
  rw [u23_11v1_law]
  simp only at h
  rw [h, Option.bind_some, retKL23_11v1_eq]
noncomputable def t23 {R : Type} (sh : Sh) (l23_8 : iL23_8 → Option oL23_8) (l23_11 : iL23_11 → Option oL23_11) (x1 : Rows) (x2 : Int) (k : o23 → Option R) : Option R :=
  sh ([] : Rows) fun y1 =>
  sh ((↑(List.length x1) : Int)) fun y2 =>
  bif Decidable.decide (y2 > (4096 : Int)) then
    sh ([] : Rows) fun y3 =>
    k (((0 : Int), (0 : Int), y3, (8 : Int)))
  else
    bif Decidable.decide (x2 < (0 : Int)) then
      sh ([] : Rows) fun y4 =>
      k (((0 : Int), (0 : Int), y4, (10 : Int)))
    else
      sh ((↑(List.length x1) : Int)) fun y5 =>
      bif Decidable.decide (x2 ≥ y5) then
        sh ([] : Rows) fun y6 =>
        k (((0 : Int), (0 : Int), y6, (10 : Int)))
      else
        sh ((↑(List.length x1) : Int)) fun y7 =>
        sh ([] : Rows) fun y8 =>
        sh ([] : Rows) fun y9 =>
        sh ([] : Rows) fun y10 =>
        (l23_8 (x1, x2, (0 : Int), (0 : Int), (0 : Int), x2, y7, y10, y1, y9)).bind fun (r15 : Int × Int × Int × Int × Int × Rows × Rows × Rows) =>
        (l23_11 (Prod.fst r15, Prod.fst r15.2, Prod.fst (Prod.snd r15).2, Prod.fst (Prod.snd (Prod.snd r15)).2, Prod.fst (Prod.snd (Prod.snd (Prod.snd r15))).2, Prod.fst (Prod.snd (Prod.snd (Prod.snd (Prod.snd r15)))).2, Prod.fst (Prod.snd (Prod.snd (Prod.snd (Prod.snd (Prod.snd r15))))).2, Prod.snd (Prod.snd (Prod.snd (Prod.snd (Prod.snd (Prod.snd r15))))).2)).bind fun (r37 : Int × Int × Int × Int × Rows × Rows) =>
        k ((Prod.fst (Prod.snd r37).2, Prod.fst (Prod.snd (Prod.snd r37)).2, Prod.snd (Prod.snd (Prod.snd (Prod.snd r37))).2, (0 : Int)))
theorem t23_eq {R : Type} (sh : Sh) (hsh : ∀ {α R : Type} (x : α) (K : α → Option R), sh x K = K x) (l23_8 : iL23_8 → Option oL23_8) (l23_11 : iL23_11 → Option oL23_11) (x1 : Rows) (x2 : Int) (K : CSt → Option R) : bodyK Try.prog (tabO sh hsh br23 ar23 []) (tabL [entL23_8 l23_8, entL23_11 l23_11]) ann23 false Try.f23 (enc23 (x1, x2)) K = t23 sh l23_8 l23_11 x1 x2 (retK23 K) := by kernel_rfl
theorem t23_law {R : Type} (l23_8 : iL23_8 → Option oL23_8) (l23_11 : iL23_11 → Option oL23_11) (x1 : Rows) (x2 : Int) (K : o23 → Option R) : t23 sh0 l23_8 l23_11 x1 x2 K = (t23 sh0 l23_8 l23_11 x1 x2 some).bind K := by
  simp only [t23, sh0, cond_bind', two_bind, none_bind', Option.bind_assoc, Option.bind_some]
theorem ok23 (l23_8 : iL23_8 → Option oL23_8) (l23_11 : iL23_11 → Option oL23_11) (hl23_8 : SdL23_8 l23_8) (hl23_11 : SdL23_11 l23_11) : Sd23 (fun a => t23 sh0 l23_8 l23_11 a.1 a.2 some) := by
  intro a b h
  refine call_ok (sh := sh0) (hsh := fun _ _ => rfl) (br := br23) (ar := ar23) (own := false) Try.mixed Try.func23 (by kernel_rfl) .nil (fun nt => (.cons (mkLEnt_ok (hl23_8 nt)) (.cons (mkLEnt_ok (hl23_11 nt)) .nil))) ((t23_eq sh0 (fun _ _ => rfl) l23_8 l23_11 a.1 a.2 _).trans ?_)
  rw [t23_law]
  simp only at h
  rw [h, Option.bind_some, retK23_eq]

/-! 24 erasure/erasureref38.SameProof -/
abbrev i24 : Type := Int × Int × Rows × Int × Int × Rows
def enc24 : i24 → CSt := fun a => ([Go.Ev.SV.agg [Go.Ev.SL.d (Go.Ev.DL.int Go.IntKind.i64 a.1), Go.Ev.SL.d (Go.Ev.DL.int Go.IntKind.i64 a.2.1), Go.Ev.SL.d (Go.Ev.DL.lst (25 : Nat) a.2.2.1)], Go.Ev.SV.agg [Go.Ev.SL.d (Go.Ev.DL.int Go.IntKind.i64 a.2.2.2.1), Go.Ev.SL.d (Go.Ev.DL.int Go.IntKind.i64 a.2.2.2.2.1), Go.Ev.SL.d (Go.Ev.DL.lst (25 : Nat) a.2.2.2.2.2)]], [])
def dec24 : (c : CSt) → Option { a : i24 // c = enc24 a }
  | ([Go.Ev.SV.agg [Go.Ev.SL.d (Go.Ev.DL.int Go.IntKind.i64 x1), Go.Ev.SL.d (Go.Ev.DL.int Go.IntKind.i64 x2), Go.Ev.SL.d (Go.Ev.DL.lst (25 : Nat) x3)], Go.Ev.SV.agg [Go.Ev.SL.d (Go.Ev.DL.int Go.IntKind.i64 x4), Go.Ev.SL.d (Go.Ev.DL.int Go.IntKind.i64 x5), Go.Ev.SL.d (Go.Ev.DL.lst (25 : Nat) x6)]], []) => some ⟨(x1, x2, x3, x4, x5, x6), rfl⟩
  | _ => none
abbrev o24 : Type := Bool
def ret24 : o24 → CSt := fun b => ([Go.Ev.SV.one (Go.Ev.SL.d (Go.Ev.DL.bool b))], [])
def retK24 {R : Type} (K : CSt → Option R) : o24 → Option R := fun b => K (([Go.Ev.SV.one (Go.Ev.SL.d (Go.Ev.DL.bool b))], []))
theorem retK24_eq {R : Type} (K : CSt → Option R) (b : o24) : retK24 K b = K (ret24 b) := rfl
abbrev Sd24 (f : i24 → Option o24) : Prop := ∀ a b, f a = some b → CallOk Try.prog 24 (enc24 a) (ret24 b)
def ent24 (f : i24 → Option o24) : Ent := mkEnt 24 dec24 ret24 retK24 retK24_eq f
def ann24 : Nat → List Nat × List Nat := fun id => bif Nat.beq id 4 then ([2, 3, 5], [4]) else ([], [])
def br24 : FuncId → Bool := fun (g : Nat) => ([67, 72] : List Nat).any (Nat.beq g)
def ar24 : TypeId → Bool := fun (t : Nat) => ([24, 25, 79, 82] : List Nat).any (Nat.beq t)
abbrev iL24_4 : Type := Int × Int × Int × Rows × Int × Int × Rows
def encL24_4 : iL24_4 → CSt := fun a => ([Go.Ev.SV.one (Go.Ev.SL.ptr (0 : Nat) (0 : Nat)), Go.Ev.SV.one (Go.Ev.SL.ptr (1 : Nat) (0 : Nat)), Go.Ev.SV.one (Go.Ev.SL.d (Go.Ev.DL.int Go.IntKind.i64 a.1))], [Go.Ev.Obj.box (32 : Nat) [Go.Ev.SL.d (Go.Ev.DL.int Go.IntKind.i64 a.2.1), Go.Ev.SL.d (Go.Ev.DL.int Go.IntKind.i64 a.2.2.1), Go.Ev.SL.d (Go.Ev.DL.lst (25 : Nat) a.2.2.2.1)], Go.Ev.Obj.box (32 : Nat) [Go.Ev.SL.d (Go.Ev.DL.int Go.IntKind.i64 a.2.2.2.2.1), Go.Ev.SL.d (Go.Ev.DL.int Go.IntKind.i64 a.2.2.2.2.2.1), Go.Ev.SL.d (Go.Ev.DL.lst (25 : Nat) a.2.2.2.2.2.2)]])
def decL24_4 : (c : CSt) → Option { a : iL24_4 // c = encL24_4 a }
  | ([Go.Ev.SV.one (Go.Ev.SL.ptr (0 : Nat) (0 : Nat)), Go.Ev.SV.one (Go.Ev.SL.ptr (1 : Nat) (0 : Nat)), Go.Ev.SV.one (Go.Ev.SL.d (Go.Ev.DL.int Go.IntKind.i64 x1))], [Go.Ev.Obj.box (32 : Nat) [Go.Ev.SL.d (Go.Ev.DL.int Go.IntKind.i64 x2), Go.Ev.SL.d (Go.Ev.DL.int Go.IntKind.i64 x3), Go.Ev.SL.d (Go.Ev.DL.lst (25 : Nat) x4)], Go.Ev.Obj.box (32 : Nat) [Go.Ev.SL.d (Go.Ev.DL.int Go.IntKind.i64 x5), Go.Ev.SL.d (Go.Ev.DL.int Go.IntKind.i64 x6), Go.Ev.SL.d (Go.Ev.DL.lst (25 : Nat) x7)]]) => some ⟨(x1, x2, x3, x4, x5, x6, x7), rfl⟩
  | _ => none
abbrev oL24_4 : Type := (Bool) ⊕ (Unit)
def retL24_4 : oL24_4 → Ex × CSt := two (fun b => (Go.Ev.Ex.ret, ([Go.Ev.SV.one (Go.Ev.SL.d (Go.Ev.DL.bool b))], []))) (fun b => (Go.Ev.Ex.exit (0 : Nat), ([Go.Ev.SV.one Go.Ev.SL.un], [])))
def retKL24_4 {R : Type} (K : Ex → CSt → Option R) : oL24_4 → Option R := two (fun b => K (Go.Ev.Ex.ret) (([Go.Ev.SV.one (Go.Ev.SL.d (Go.Ev.DL.bool b))], []))) (fun b => K (Go.Ev.Ex.exit (0 : Nat)) (([Go.Ev.SV.one Go.Ev.SL.un], [])))
theorem retKL24_4_eq {R : Type} (K : Ex → CSt → Option R) (b : oL24_4) : retKL24_4 K b = K (retL24_4 b).1 (retL24_4 b).2 := by
  unfold retKL24_4 retL24_4
  repeat' (first | rfl | cases b with | inl b => rfl | inr b => ?_)
def entL24_4 (l : iL24_4 → Option oL24_4) : LEnt := mkLEnt 4 decL24_4 retL24_4 retKL24_4 retKL24_4_eq l
abbrev SdL24_4 (l : iL24_4 → Option oL24_4) : Prop := ∀ nt a b, l a = some b → LoopAt Try.prog nt 0 ann24 Try.f24 4 (encL24_4 a) (retL24_4 b)
noncomputable def u24_4 {R : Type} (sh : Sh) (l24_4 : iL24_4 → Option oL24_4) (x1 : Int) (x2 : Int) (x3 : Int) (x4 : Rows) (x5 : Int) (x6 : Int) (x7 : Rows) (k : oL24_4 → Option R) : Option R :=
  sh ((↑(List.length x4) : Int)) fun y3 =>
  bif Decidable.decide (x1 < y3) then
    bif Decidable.decide ((0 : Int) ≤ x1 ∧ x1 < (↑(List.length x4) : Int)) then
      bif Decidable.decide ((0 : Int) ≤ x1 ∧ x1 < (↑(List.length x7) : Int)) then
        bif !Go.Ev.eqI (Go.Ev.rowI x4 (Int.toNat x1) (32 : Nat)) (Go.Ev.rowI x7 (Int.toNat x1) (32 : Nat)) (32 : Nat) then
          k ((.inl Bool.false))
        else
          (l24_4 (Go.IntKind.wrap Go.IntKind.i64 (x1 + (1 : Int)), x2, x3, x4, x5, x6, x7)).bind k
      else none
    else none
  else
    k ((.inr ()))
theorem u24_4_eq {R : Type} (sh : Sh) (hsh : ∀ {α R : Type} (x : α) (K : α → Option R), sh x K = K x) (l24_4 : iL24_4 → Option oL24_4) (x1 : Int) (x2 : Int) (x3 : Int) (x4 : Rows) (x5 : Int) (x6 : Int) (x7 : Rows) (K : Ex → CSt → Option R) : roundK Try.prog (tabO sh hsh br24 ar24 []) (tabL [entL24_4 l24_4]) ann24 0 Try.f24 4 (encL24_4 (x1, x2, x3, x4, x5, x6, x7)) K = u24_4 sh l24_4 x1 x2 x3 x4 x5 x6 x7 (retKL24_4 K) := by kernel_rfl
theorem u24_4_law {R : Type} (l24_4 : iL24_4 → Option oL24_4) (x1 : Int) (x2 : Int) (x3 : Int) (x4 : Rows) (x5 : Int) (x6 : Int) (x7 : Rows) (K : oL24_4 → Option R) : u24_4 sh0 l24_4 x1 x2 x3 x4 x5 x6 x7 K = (u24_4 sh0 l24_4 x1 x2 x3 x4 x5 x6 x7 some).bind K := by
  simp only [u24_4, sh0, cond_bind', two_bind, none_bind', Option.bind_assoc, Option.bind_some]
theorem okL24_4 (l24_4 : iL24_4 → Option oL24_4) (hl24_4 : SdL24_4 l24_4) : SdL24_4 (fun a => u24_4 sh0 l24_4 a.1 a.2.1 a.2.2.1 a.2.2.2.1 a.2.2.2.2.1 a.2.2.2.2.2.1 a.2.2.2.2.2.2 some) := by
  intro nt a b h
  refine round_ok (sh := sh0) (hsh := fun _ _ => rfl) (br := br24) (ar := ar24) Try.mixed (by kernel_rfl) .nil (.cons (mkLEnt_ok (hl24_4 nt)) .nil) ((u24_4_eq sh0 (fun _ _ => rfl) l24_4  a.1 a.2.1 a.2.2.1 a.2.2.2.1 a.2.2.2.2.1 a.2.2.2.2.2.1 a.2.2.2.2.2.2 _).trans ?_)
  rw [u24_4_law]
  simp only at h
  rw [h, Option.bind_some, retKL24_4_eq]
noncomputable def t24 {R : Type} (sh : Sh) (l24_4 : iL24_4 → Option oL24_4) (x1 : Int) (x2 : Int) (x3 : Rows) (x4 : Int) (x5 : Int) (x6 : Rows) (k : o24 → Option R) : Option R :=
  bif x1 != x4 then
    k (Bool.false)
  else
    bif x2 != x5 then
      k (Bool.false)
    else
      sh ((↑(List.length x3) : Int)) fun y1 =>
      sh ((↑(List.length x6) : Int)) fun y2 =>
      bif y1 != y2 then
        k (Bool.false)
      else
        (l24_4 ((0 : Int), x1, x2, x3, x4, x5, x6)).bind (two (fun (r4 : Bool) =>
          k (r4)
        ) (fun _ =>
          k (Bool.true)
        ))
theorem t24_eq {R : Type} (sh : Sh) (hsh : ∀ {α R : Type} (x : α) (K : α → Option R), sh x K = K x) (l24_4 : iL24_4 → Option oL24_4) (x1 : Int) (x2 : Int) (x3 : Rows) (x4 : Int) (x5 : Int) (x6 : Rows) (K : CSt → Option R) : bodyK Try.prog (tabO sh hsh br24 ar24 []) (tabL [entL24_4 l24_4]) ann24 false Try.f24 (enc24 (x1, x2, x3, x4, x5, x6)) K = t24 sh l24_4 x1 x2 x3 x4 x5 x6 (retK24 K) := by kernel_rfl
theorem t24_law {R : Type} (l24_4 : iL24_4 → Option oL24_4) (x1 : Int) (x2 : Int) (x3 : Rows) (x4 : Int) (x5 : Int) (x6 : Rows) (K : o24 → Option R) : t24 sh0 l24_4 x1 x2 x3 x4 x5 x6 K = (t24 sh0 l24_4 x1 x2 x3 x4 x5 x6 some).bind K := by
  simp only [t24, sh0, cond_bind', two_bind, none_bind', Option.bind_assoc, Option.bind_some]
theorem ok24 (l24_4 : iL24_4 → Option oL24_4) (hl24_4 : SdL24_4 l24_4) : Sd24 (fun a => t24 sh0 l24_4 a.1 a.2.1 a.2.2.1 a.2.2.2.1 a.2.2.2.2.1 a.2.2.2.2.2 some) := by
  intro a b h
  refine call_ok (sh := sh0) (hsh := fun _ _ => rfl) (br := br24) (ar := ar24) (own := false) Try.mixed Try.func24 (by kernel_rfl) .nil (fun nt => (.cons (mkLEnt_ok (hl24_4 nt)) .nil)) ((t24_eq sh0 (fun _ _ => rfl) l24_4 a.1 a.2.1 a.2.2.1 a.2.2.2.1 a.2.2.2.2.1 a.2.2.2.2.2 _).trans ?_)
  rw [t24_law]
  simp only at h
  rw [h, Option.bind_some, retK24_eq]

/-! 26 erasure/erasureref38.Apply -/
abbrev i26 : Type := List Int × Int × Int × Rows
def enc26 : i26 → CSt := fun a => ([Go.Ev.SV.agg (Go.Ev.pkS Go.IntKind.u8 a.1 (32 : Nat)), Go.Ev.SV.agg [Go.Ev.SL.d (Go.Ev.DL.int Go.IntKind.i64 a.2.1), Go.Ev.SL.d (Go.Ev.DL.int Go.IntKind.i64 a.2.2.1), Go.Ev.SL.d (Go.Ev.DL.lst (25 : Nat) a.2.2.2)]], [])
def dec26 : (c : CSt) → Option { a : i26 // c = enc26 a }
  | ([Go.Ev.SV.agg [Go.Ev.SL.d (Go.Ev.DL.int Go.IntKind.u8 x1_0), Go.Ev.SL.d (Go.Ev.DL.int Go.IntKind.u8 x1_1), Go.Ev.SL.d (Go.Ev.DL.int Go.IntKind.u8 x1_2), Go.Ev.SL.d (Go.Ev.DL.int Go.IntKind.u8 x1_3), Go.Ev.SL.d (Go.Ev.DL.int Go.IntKind.u8 x1_4), Go.Ev.SL.d (Go.Ev.DL.int Go.IntKind.u8 x1_5), Go.Ev.SL.d (Go.Ev.DL.int Go.IntKind.u8 x1_6), Go.Ev.SL.d (Go.Ev.DL.int Go.IntKind.u8 x1_7), Go.Ev.SL.d (Go.Ev.DL.int Go.IntKind.u8 x1_8), Go.Ev.SL.d (Go.Ev.DL.int Go.IntKind.u8 x1_9), Go.Ev.SL.d (Go.Ev.DL.int Go.IntKind.u8 x1_10), Go.Ev.SL.d (Go.Ev.DL.int Go.IntKind.u8 x1_11), Go.Ev.SL.d (Go.Ev.DL.int Go.IntKind.u8 x1_12), Go.Ev.SL.d (Go.Ev.DL.int Go.IntKind.u8 x1_13), Go.Ev.SL.d (Go.Ev.DL.int Go.IntKind.u8 x1_14), Go.Ev.SL.d (Go.Ev.DL.int Go.IntKind.u8 x1_15), Go.Ev.SL.d (Go.Ev.DL.int Go.IntKind.u8 x1_16), Go.Ev.SL.d (Go.Ev.DL.int Go.IntKind.u8 x1_17), Go.Ev.SL.d (Go.Ev.DL.int Go.IntKind.u8 x1_18), Go.Ev.SL.d (Go.Ev.DL.int Go.IntKind.u8 x1_19), Go.Ev.SL.d (Go.Ev.DL.int Go.IntKind.u8 x1_20), Go.Ev.SL.d (Go.Ev.DL.int Go.IntKind.u8 x1_21), Go.Ev.SL.d (Go.Ev.DL.int Go.IntKind.u8 x1_22), Go.Ev.SL.d (Go.Ev.DL.int Go.IntKind.u8 x1_23), Go.Ev.SL.d (Go.Ev.DL.int Go.IntKind.u8 x1_24), Go.Ev.SL.d (Go.Ev.DL.int Go.IntKind.u8 x1_25), Go.Ev.SL.d (Go.Ev.DL.int Go.IntKind.u8 x1_26), Go.Ev.SL.d (Go.Ev.DL.int Go.IntKind.u8 x1_27), Go.Ev.SL.d (Go.Ev.DL.int Go.IntKind.u8 x1_28), Go.Ev.SL.d (Go.Ev.DL.int Go.IntKind.u8 x1_29), Go.Ev.SL.d (Go.Ev.DL.int Go.IntKind.u8 x1_30), Go.Ev.SL.d (Go.Ev.DL.int Go.IntKind.u8 x1_31)], Go.Ev.SV.agg [Go.Ev.SL.d (Go.Ev.DL.int Go.IntKind.i64 x2), Go.Ev.SL.d (Go.Ev.DL.int Go.IntKind.i64 x3), Go.Ev.SL.d (Go.Ev.DL.lst (25 : Nat) x4)]], []) => some ⟨([x1_0, x1_1, x1_2, x1_3, x1_4, x1_5, x1_6, x1_7, x1_8, x1_9, x1_10, x1_11, x1_12, x1_13, x1_14, x1_15, x1_16, x1_17, x1_18, x1_19, x1_20, x1_21, x1_22, x1_23, x1_24, x1_25, x1_26, x1_27, x1_28, x1_29, x1_30, x1_31], x2, x3, x4), rfl⟩
  | _ => none
abbrev o26 : Type := List Int × Int
def ret26 : o26 → CSt := fun b => ([Go.Ev.SV.agg (Go.Ev.pkS Go.IntKind.u8 b.1 (32 : Nat)), Go.Ev.SV.one (Go.Ev.SL.d (Go.Ev.DL.int Go.IntKind.i64 b.2))], [])
def retK26 {R : Type} (K : CSt → Option R) : o26 → Option R := fun b => K (([Go.Ev.SV.agg (Go.Ev.pkS Go.IntKind.u8 b.1 (32 : Nat)), Go.Ev.SV.one (Go.Ev.SL.d (Go.Ev.DL.int Go.IntKind.i64 b.2))], []))
theorem retK26_eq {R : Type} (K : CSt → Option R) (b : o26) : retK26 K b = K (ret26 b) := rfl
abbrev Sd26 (f : i26 → Option o26) : Prop := ∀ a b, f a = some b → CallOk Try.prog 26 (enc26 a) (ret26 b)
def ent26 (f : i26 → Option o26) : Ent := mkEnt 26 dec26 ret26 retK26 retK26_eq f
def ann26 : Nat → List Nat × List Nat := fun id => bif Nat.beq id 7 then ([3, 4, 6, 7, 8, 9], [3, 4, 5, 6, 7]) else ([], [])
def br26 : FuncId → Bool := fun (g : Nat) => ([67, 72] : List Nat).any (Nat.beq g)
def ar26 : TypeId → Bool := fun (t : Nat) => ([24, 25, 79, 82] : List Nat).any (Nat.beq t)
abbrev iL26_7 : Type := Int × Int × Int × Int × Int × Rows × Rows × Rows
def encL26_7 : iL26_7 → CSt := fun a => ([Go.Ev.SV.one (Go.Ev.SL.ptr (0 : Nat) (0 : Nat)), Go.Ev.SV.one (Go.Ev.SL.ept (1 : Nat) (0 : Nat) (0 : Nat)), Go.Ev.SV.one (Go.Ev.SL.ept (2 : Nat) (0 : Nat) (0 : Nat)), Go.Ev.SV.one (Go.Ev.SL.d (Go.Ev.DL.int Go.IntKind.i64 a.1)), Go.Ev.SV.one (Go.Ev.SL.d (Go.Ev.DL.int Go.IntKind.i64 a.2.1)), Go.Ev.SV.one (Go.Ev.SL.d (Go.Ev.DL.int Go.IntKind.i64 a.2.2.1))], [Go.Ev.Obj.box (32 : Nat) [Go.Ev.SL.d (Go.Ev.DL.int Go.IntKind.i64 a.2.2.2.1), Go.Ev.SL.d (Go.Ev.DL.int Go.IntKind.i64 a.2.2.2.2.1), Go.Ev.SL.d (Go.Ev.DL.lst (25 : Nat) a.2.2.2.2.2.1)], Go.Ev.Obj.vec (5 : Nat) Bool.false a.2.2.2.2.2.2.1, Go.Ev.Obj.vec (5 : Nat) Bool.false a.2.2.2.2.2.2.2])
def decL26_7 : (c : CSt) → Option { a : iL26_7 // c = encL26_7 a }
  | ([Go.Ev.SV.one (Go.Ev.SL.ptr (0 : Nat) (0 : Nat)), Go.Ev.SV.one (Go.Ev.SL.ept (1 : Nat) (0 : Nat) (0 : Nat)), Go.Ev.SV.one (Go.Ev.SL.ept (2 : Nat) (0 : Nat) (0 : Nat)), Go.Ev.SV.one (Go.Ev.SL.d (Go.Ev.DL.int Go.IntKind.i64 x1)), Go.Ev.SV.one (Go.Ev.SL.d (Go.Ev.DL.int Go.IntKind.i64 x2)), Go.Ev.SV.one (Go.Ev.SL.d (Go.Ev.DL.int Go.IntKind.i64 x3))], [Go.Ev.Obj.box (32 : Nat) [Go.Ev.SL.d (Go.Ev.DL.int Go.IntKind.i64 x4), Go.Ev.SL.d (Go.Ev.DL.int Go.IntKind.i64 x5), Go.Ev.SL.d (Go.Ev.DL.lst (25 : Nat) x6)], Go.Ev.Obj.vec (5 : Nat) Bool.false x7, Go.Ev.Obj.vec (5 : Nat) Bool.false x8]) => some ⟨(x1, x2, x3, x4, x5, x6, x7, x8), rfl⟩
  | _ => none
abbrev oL26_7 : Type := (Int × Int × Int × Int × Rows × Rows × Rows) ⊕ (Int × Int × Int × Rows × Rows × Rows)
def retL26_7 : oL26_7 → Ex × CSt := two (fun b => (Go.Ev.Ex.ret, ([Go.Ev.SV.one (Go.Ev.SL.ptr (0 : Nat) (0 : Nat)), Go.Ev.SV.one (Go.Ev.SL.ept (1 : Nat) (0 : Nat) (0 : Nat)), Go.Ev.SV.one (Go.Ev.SL.d (Go.Ev.DL.int Go.IntKind.i64 b.1)), Go.Ev.SV.one (Go.Ev.SL.ept (2 : Nat) (0 : Nat) (0 : Nat)), Go.Ev.SV.one (Go.Ev.SL.d (Go.Ev.DL.int Go.IntKind.i64 b.2.1))], [Go.Ev.Obj.box (32 : Nat) [Go.Ev.SL.d (Go.Ev.DL.int Go.IntKind.i64 b.2.2.1), Go.Ev.SL.d (Go.Ev.DL.int Go.IntKind.i64 b.2.2.2.1), Go.Ev.SL.d (Go.Ev.DL.lst (25 : Nat) b.2.2.2.2.1)], Go.Ev.Obj.vec (5 : Nat) Bool.false b.2.2.2.2.2.1, Go.Ev.Obj.vec (5 : Nat) Bool.false b.2.2.2.2.2.2]))) (fun b => (Go.Ev.Ex.exit (0 : Nat), ([Go.Ev.SV.one (Go.Ev.SL.ptr (0 : Nat) (0 : Nat)), Go.Ev.SV.one (Go.Ev.SL.ept (1 : Nat) (0 : Nat) (0 : Nat)), Go.Ev.SV.one Go.Ev.SL.un, Go.Ev.SV.one (Go.Ev.SL.ept (2 : Nat) (0 : Nat) (0 : Nat)), Go.Ev.SV.one (Go.Ev.SL.d (Go.Ev.DL.int Go.IntKind.i64 b.1))], [Go.Ev.Obj.box (32 : Nat) [Go.Ev.SL.d (Go.Ev.DL.int Go.IntKind.i64 b.2.1), Go.Ev.SL.d (Go.Ev.DL.int Go.IntKind.i64 b.2.2.1), Go.Ev.SL.d (Go.Ev.DL.lst (25 : Nat) b.2.2.2.1)], Go.Ev.Obj.vec (5 : Nat) Bool.false b.2.2.2.2.1, Go.Ev.Obj.vec (5 : Nat) Bool.false b.2.2.2.2.2])))
def retKL26_7 {R : Type} (K : Ex → CSt → Option R) : oL26_7 → Option R := two (fun b => K (Go.Ev.Ex.ret) (([Go.Ev.SV.one (Go.Ev.SL.ptr (0 : Nat) (0 : Nat)), Go.Ev.SV.one (Go.Ev.SL.ept (1 : Nat) (0 : Nat) (0 : Nat)), Go.Ev.SV.one (Go.Ev.SL.d (Go.Ev.DL.int Go.IntKind.i64 b.1)), Go.Ev.SV.one (Go.Ev.SL.ept (2 : Nat) (0 : Nat) (0 : Nat)), Go.Ev.SV.one (Go.Ev.SL.d (Go.Ev.DL.int Go.IntKind.i64 b.2.1))], [Go.Ev.Obj.box (32 : Nat) [Go.Ev.SL.d (Go.Ev.DL.int Go.IntKind.i64 b.2.2.1), Go.Ev.SL.d (Go.Ev.DL.int Go.IntKind.i64 b.2.2.2.1), Go.Ev.SL.d (Go.Ev.DL.lst (25 : Nat) b.2.2.2.2.1)], Go.Ev.Obj.vec (5 : Nat) Bool.false b.2.2.2.2.2.1, Go.Ev.Obj.vec (5 : Nat) Bool.false b.2.2.2.2.2.2]))) (fun b => K (Go.Ev.Ex.exit (0 : Nat)) (([Go.Ev.SV.one (Go.Ev.SL.ptr (0 : Nat) (0 : Nat)), Go.Ev.SV.one (Go.Ev.SL.ept (1 : Nat) (0 : Nat) (0 : Nat)), Go.Ev.SV.one Go.Ev.SL.un, Go.Ev.SV.one (Go.Ev.SL.ept (2 : Nat) (0 : Nat) (0 : Nat)), Go.Ev.SV.one (Go.Ev.SL.d (Go.Ev.DL.int Go.IntKind.i64 b.1))], [Go.Ev.Obj.box (32 : Nat) [Go.Ev.SL.d (Go.Ev.DL.int Go.IntKind.i64 b.2.1), Go.Ev.SL.d (Go.Ev.DL.int Go.IntKind.i64 b.2.2.1), Go.Ev.SL.d (Go.Ev.DL.lst (25 : Nat) b.2.2.2.1)], Go.Ev.Obj.vec (5 : Nat) Bool.false b.2.2.2.2.1, Go.Ev.Obj.vec (5 : Nat) Bool.false b.2.2.2.2.2])))
theorem retKL26_7_eq {R : Type} (K : Ex → CSt → Option R) (b : oL26_7) : retKL26_7 K b = K (retL26_7 b).1 (retL26_7 b).2 := by
  unfold retKL26_7 retL26_7
  repeat' (first | rfl | cases b with | inl b => rfl | inr b => ?_)
def entL26_7 (l : iL26_7 → Option oL26_7) : LEnt := mkLEnt 7 decL26_7 retL26_7 retKL26_7 retKL26_7_eq l
abbrev SdL26_7 (l : iL26_7 → Option oL26_7) : Prop := ∀ nt a b, l a = some b → LoopAt Try.prog nt 0 ann26 Try.f26 7 (encL26_7 a) (retL26_7 b)
noncomputable def u26_7 {R : Type} (sh : Sh) (f46 : i46 → Option o46) (l26_7 : iL26_7 → Option oL26_7) (x1 : Int) (x2 : Int) (x3 : Int) (x4 : Int) (x5 : Int) (x6 : Rows) (x7 : Rows) (x8 : Rows) (k : oL26_7 → Option R) : Option R :=
  bif Decidable.decide (x3 > (1 : Int)) then
    bif Int.tmod x2 (2 : Int) == (1 : Int) then
      sh ((↑(List.length x6) : Int)) fun y10 =>
      bif Decidable.decide (x1 ≥ y10) then
        bif Decidable.decide (List.length x7 = (32 : Nat)) then
          sh (List.replicate (32 : Nat) [Go.Ev.DL.int Go.IntKind.u8 (0 : Int)] : Rows) fun y11 =>
          k ((.inl ((1 : Int), x1, x4, x5, x6, y11, x8)))
        else none
      else
        bif Int.tmod x2 (2 : Int) == (1 : Int) then
          bif Decidable.decide ((0 : Int) ≤ x1 ∧ x1 < (↑(List.length x6) : Int)) then
            bif Decidable.decide (List.length x8 = (32 : Nat)) then
              (f46 (Go.Ev.rowI x6 (Int.toNat x1) (32 : Nat), Go.Ev.colI x8 (32 : Nat))).bind fun (r12 : List Int) =>
              bif Decidable.decide (List.length x8 = (32 : Nat)) then
                sh (Go.Ev.colD (Go.Ev.mapD Go.IntKind.u8 (Go.Ev.pkL r12 (32 : Nat))) : Rows) fun y13 =>
                (l26_7 (Go.IntKind.wrap Go.IntKind.i64 (x1 + (1 : Int)), Go.IntKind.wrap Go.IntKind.i64 (Int.tdiv x2 (2 : Int)), Go.IntKind.wrap Go.IntKind.i64 (Int.tdiv (Go.IntKind.wrap Go.IntKind.i64 (x3 + (1 : Int))) (2 : Int)), x4, x5, x6, x7, y13)).bind k
              else none
            else none
          else none
        else
          bif Decidable.decide (List.length x8 = (32 : Nat)) then
            bif Decidable.decide ((0 : Int) ≤ x1 ∧ x1 < (↑(List.length x6) : Int)) then
              (f46 (Go.Ev.colI x8 (32 : Nat), Go.Ev.rowI x6 (Int.toNat x1) (32 : Nat))).bind fun (r14 : List Int) =>
              bif Decidable.decide (List.length x8 = (32 : Nat)) then
                sh (Go.Ev.colD (Go.Ev.mapD Go.IntKind.u8 (Go.Ev.pkL r14 (32 : Nat))) : Rows) fun y15 =>
                (l26_7 (Go.IntKind.wrap Go.IntKind.i64 (x1 + (1 : Int)), Go.IntKind.wrap Go.IntKind.i64 (Int.tdiv x2 (2 : Int)), Go.IntKind.wrap Go.IntKind.i64 (Int.tdiv (Go.IntKind.wrap Go.IntKind.i64 (x3 + (1 : Int))) (2 : Int)), x4, x5, x6, x7, y15)).bind k
              else none
            else none
          else none
    else
      bif Decidable.decide (Go.IntKind.wrap Go.IntKind.i64 (x2 + (1 : Int)) < x3) then
        sh ((↑(List.length x6) : Int)) fun y16 =>
        bif Decidable.decide (x1 ≥ y16) then
          bif Decidable.decide (List.length x7 = (32 : Nat)) then
            sh (List.replicate (32 : Nat) [Go.Ev.DL.int Go.IntKind.u8 (0 : Int)] : Rows) fun y17 =>
            k ((.inl ((1 : Int), x1, x4, x5, x6, y17, x8)))
          else none
        else
          bif Int.tmod x2 (2 : Int) == (1 : Int) then
            bif Decidable.decide ((0 : Int) ≤ x1 ∧ x1 < (↑(List.length x6) : Int)) then
              bif Decidable.decide (List.length x8 = (32 : Nat)) then
                (f46 (Go.Ev.rowI x6 (Int.toNat x1) (32 : Nat), Go.Ev.colI x8 (32 : Nat))).bind fun (r18 : List Int) =>
                bif Decidable.decide (List.length x8 = (32 : Nat)) then
                  sh (Go.Ev.colD (Go.Ev.mapD Go.IntKind.u8 (Go.Ev.pkL r18 (32 : Nat))) : Rows) fun y19 =>
                  (l26_7 (Go.IntKind.wrap Go.IntKind.i64 (x1 + (1 : Int)), Go.IntKind.wrap Go.IntKind.i64 (Int.tdiv x2 (2 : Int)), Go.IntKind.wrap Go.IntKind.i64 (Int.tdiv (Go.IntKind.wrap Go.IntKind.i64 (x3 + (1 : Int))) (2 : Int)), x4, x5, x6, x7, y19)).bind k
                else none
              else none
            else none
          else
            bif Decidable.decide (List.length x8 = (32 : Nat)) then
              bif Decidable.decide ((0 : Int) ≤ x1 ∧ x1 < (↑(List.length x6) : Int)) then
                (f46 (Go.Ev.colI x8 (32 : Nat), Go.Ev.rowI x6 (Int.toNat x1) (32 : Nat))).bind fun (r20 : List Int) =>
                bif Decidable.decide (List.length x8 = (32 : Nat)) then
                  sh (Go.Ev.colD (Go.Ev.mapD Go.IntKind.u8 (Go.Ev.pkL r20 (32 : Nat))) : Rows) fun y21 =>
                  (l26_7 (Go.IntKind.wrap Go.IntKind.i64 (x1 + (1 : Int)), Go.IntKind.wrap Go.IntKind.i64 (Int.tdiv x2 (2 : Int)), Go.IntKind.wrap Go.IntKind.i64 (Int.tdiv (Go.IntKind.wrap Go.IntKind.i64 (x3 + (1 : Int))) (2 : Int)), x4, x5, x6, x7, y21)).bind k
                else none
              else none
            else none
      else
        (l26_7 (x1, Go.IntKind.wrap Go.IntKind.i64 (Int.tdiv x2 (2 : Int)), Go.IntKind.wrap Go.IntKind.i64 (Int.tdiv (Go.IntKind.wrap Go.IntKind.i64 (x3 + (1 : Int))) (2 : Int)), x4, x5, x6, x7, x8)).bind k
  else
    k ((.inr (x1, x4, x5, x6, x7, x8)))
theorem u26_7_eq {R : Type} (sh : Sh) (hsh : ∀ {α R : Type} (x : α) (K : α → Option R), sh x K = K x) (f46 : i46 → Option o46) (l26_7 : iL26_7 → Option oL26_7) (x1 : Int) (x2 : Int) (x3 : Int) (x4 : Int) (x5 : Int) (x6 : Rows) (x7 : Rows) (x8 : Rows) (K : Ex → CSt → Option R) : roundK Try.prog (tabO sh hsh br26 ar26 [ent46 f46]) (tabL [entL26_7 l26_7]) ann26 0 Try.f26 7 (encL26_7 (x1, x2, x3, x4, x5, x6, x7, x8)) K = u26_7 sh f46 l26_7 x1 x2 x3 x4 x5 x6 x7 x8 (retKL26_7 K) := by kernel_rfl
theorem u26_7_law {R : Type} (f46 : i46 → Option o46) (l26_7 : iL26_7 → Option oL26_7) (x1 : Int) (x2 : Int) (x3 : Int) (x4 : Int) (x5 : Int) (x6 : Rows) (x7 : Rows) (x8 : Rows) (K : oL26_7 → Option R) : u26_7 sh0 f46 l26_7 x1 x2 x3 x4 x5 x6 x7 x8 K = (u26_7 sh0 f46 l26_7 x1 x2 x3 x4 x5 x6 x7 x8 some).bind K := by
  simp only [u26_7, sh0, cond_bind', two_bind, none_bind', Option.bind_assoc, Option.bind_some]
theorem okL26_7 (f46 : i46 → Option o46) (l26_7 : iL26_7 → Option oL26_7) (hf46 : Sd46 f46) (hl26_7 : SdL26_7 l26_7) : SdL26_7 (fun a => u26_7 sh0 f46 l26_7 a.1 a.2.1 a.2.2.1 a.2.2.2.1 a.2.2.2.2.1 a.2.2.2.2.2.1 a.2.2.2.2.2.2.1 a.2.2.2.2.2.2.2 some) := by
  intro nt a b h
  refine round_ok (sh := sh0) (hsh := fun _ _ => rfl) (br := br26) (ar := ar26) Try.mixed (by kernel_rfl) (.cons (mkEnt_ok hf46) .nil) (.cons (mkLEnt_ok (hl26_7 nt)) .nil) ((u26_7_eq sh0 (fun _ _ => rfl) f46 l26_7  a.1 a.2.1 a.2.2.1 a.2.2.2.1 a.2.2.2.2.1 a.2.2.2.2.2.1 a.2.2.2.2.2.2.1 a.2.2.2.2.2.2.2 _).trans ?_)
  rw [u26_7_law]
  simp only at h
  rw [h, Option.bind_some, retKL26_7_eq]
noncomputable def t26 {R : Type} (sh : Sh) (f41 : i41 → Option o41) (f43 : i43 → Option o43) (l26_7 : iL26_7 → Option oL26_7) (x1 : List Int) (x2 : Int) (x3 : Int) (x4 : Rows) (k : o26 → Option R) : Option R :=
  sh (Go.Ev.colD (Go.Ev.mapD Go.IntKind.u8 (Go.Ev.pkL x1 (32 : Nat))) : Rows) fun y1 =>
  sh (List.replicate (32 : Nat) [Go.Ev.DL.int Go.IntKind.u8 (0 : Int)] : Rows) fun y2 =>
  bif Decidable.decide (x3 < (1 : Int)) then
    bif Decidable.decide (List.length y2 = (32 : Nat)) then
      sh (List.replicate (32 : Nat) [Go.Ev.DL.int Go.IntKind.u8 (0 : Int)] : Rows) fun y3 =>
      bif Decidable.decide (List.length y3 = (32 : Nat)) then
        k ((Go.Ev.colI y3 (32 : Nat), (1 : Int)))
      else none
    else none
  else
    bif Decidable.decide (x3 > (4096 : Int)) then
      bif Decidable.decide (List.length y2 = (32 : Nat)) then
        sh (List.replicate (32 : Nat) [Go.Ev.DL.int Go.IntKind.u8 (0 : Int)] : Rows) fun y4 =>
        bif Decidable.decide (List.length y4 = (32 : Nat)) then
          k ((Go.Ev.colI y4 (32 : Nat), (1 : Int)))
        else none
      else none
    else
      bif Decidable.decide (x2 < (0 : Int)) then
        bif Decidable.decide (List.length y2 = (32 : Nat)) then
          sh (List.replicate (32 : Nat) [Go.Ev.DL.int Go.IntKind.u8 (0 : Int)] : Rows) fun y5 =>
          bif Decidable.decide (List.length y5 = (32 : Nat)) then
            k ((Go.Ev.colI y5 (32 : Nat), (1 : Int)))
          else none
        else none
      else
        bif Decidable.decide (x2 ≥ x3) then
          bif Decidable.decide (List.length y2 = (32 : Nat)) then
            sh (List.replicate (32 : Nat) [Go.Ev.DL.int Go.IntKind.u8 (0 : Int)] : Rows) fun y6 =>
            bif Decidable.decide (List.length y6 = (32 : Nat)) then
              k ((Go.Ev.colI y6 (32 : Nat), (1 : Int)))
            else none
          else none
        else
          bif Decidable.decide (List.length y1 = (32 : Nat)) then
            (f41 (Go.Ev.colI y1 (32 : Nat))).bind fun (r7 : List Int) =>
            sh (List.replicate (32 : Nat) [Go.Ev.DL.int Go.IntKind.u8 (0 : Int)] : Rows) fun y8 =>
            bif Decidable.decide (List.length y8 = (32 : Nat)) then
              sh (Go.Ev.colD (Go.Ev.mapD Go.IntKind.u8 (Go.Ev.pkL r7 (32 : Nat))) : Rows) fun y9 =>
              (l26_7 ((0 : Int), x2, x3, x2, x3, x4, y2, y9)).bind (two (fun (r22 : Int × Int × Int × Int × Rows × Rows × Rows) =>
                bif Decidable.decide (List.length (Prod.fst (Prod.snd (Prod.snd (Prod.snd (Prod.snd r22)))).2) = (32 : Nat)) then
                  k ((Go.Ev.colI (Prod.fst (Prod.snd (Prod.snd (Prod.snd (Prod.snd r22)))).2) (32 : Nat), Prod.fst r22))
                else none
              ) (fun (r23 : Int × Int × Int × Rows × Rows × Rows) =>
                sh ((↑(List.length (Prod.fst (Prod.snd (Prod.snd r23)).2)) : Int)) fun y24 =>
                bif Decidable.decide (Prod.fst r23 < y24) then
                  bif Decidable.decide (List.length (Prod.fst (Prod.snd (Prod.snd (Prod.snd r23))).2) = (32 : Nat)) then
                    sh (List.replicate (32 : Nat) [Go.Ev.DL.int Go.IntKind.u8 (0 : Int)] : Rows) fun y25 =>
                    bif Decidable.decide (List.length y25 = (32 : Nat)) then
                      k ((Go.Ev.colI y25 (32 : Nat), (1 : Int)))
                    else none
                  else none
                else
                  bif Decidable.decide (List.length (Prod.snd (Prod.snd (Prod.snd (Prod.snd r23))).2) = (32 : Nat)) then
                    (f43 (Go.Ev.colI (Prod.snd (Prod.snd (Prod.snd (Prod.snd r23))).2) (32 : Nat), Prod.fst (Prod.snd r23).2)).bind fun (r26 : List Int) =>
                    bif Decidable.decide (List.length (Prod.fst (Prod.snd (Prod.snd (Prod.snd r23))).2) = (32 : Nat)) then
                      sh (Go.Ev.colD (Go.Ev.mapD Go.IntKind.u8 (Go.Ev.pkL r26 (32 : Nat))) : Rows) fun y27 =>
                      bif Decidable.decide (List.length y27 = (32 : Nat)) then
                        k ((Go.Ev.colI y27 (32 : Nat), (0 : Int)))
                      else none
                    else none
                  else none
              ))
            else none
          else none
theorem t26_eq {R : Type} (sh : Sh) (hsh : ∀ {α R : Type} (x : α) (K : α → Option R), sh x K = K x) (f41 : i41 → Option o41) (f43 : i43 → Option o43) (l26_7 : iL26_7 → Option oL26_7) (x1 : List Int) (x2 : Int) (x3 : Int) (x4 : Rows) (K : CSt → Option R) : bodyK Try.prog (tabO sh hsh br26 ar26 [ent41 f41, ent43 f43]) (tabL [entL26_7 l26_7]) ann26 false Try.f26 (enc26 (x1, x2, x3, x4)) K = t26 sh f41 f43 l26_7 x1 x2 x3 x4 (retK26 K) := by kernel_rfl
theorem t26_law {R : Type} (f41 : i41 → Option o41) (f43 : i43 → Option o43) (l26_7 : iL26_7 → Option oL26_7) (x1 : List Int) (x2 : Int) (x3 : Int) (x4 : Rows) (K : o26 → Option R) : t26 sh0 f41 f43 l26_7 x1 x2 x3 x4 K = (t26 sh0 f41 f43 l26_7 x1 x2 x3 x4 some).bind K := by
  simp only [t26, sh0, cond_bind', two_bind, none_bind', Option.bind_assoc, Option.bind_some]
theorem ok26 (f41 : i41 → Option o41) (f43 : i43 → Option o43) (l26_7 : iL26_7 → Option oL26_7) (hf41 : Sd41 f41) (hf43 : Sd43 f43) (hl26_7 : SdL26_7 l26_7) : Sd26 (fun a => t26 sh0 f41 f43 l26_7 a.1 a.2.1 a.2.2.1 a.2.2.2 some) := by
  intro a b h
  refine call_ok (sh := sh0) (hsh := fun _ _ => rfl) (br := br26) (ar := ar26) (own := false) Try.mixed Try.func26 (by kernel_rfl) (.cons (mkEnt_ok hf41) (.cons (mkEnt_ok hf43) .nil)) (fun nt => (.cons (mkLEnt_ok (hl26_7 nt)) .nil)) ((t26_eq sh0 (fun _ _ => rfl) f41 f43 l26_7 a.1 a.2.1 a.2.2.1 a.2.2.2 _).trans ?_)
  rw [t26_law]
  simp only at h
  rw [h, Option.bind_some, retK26_eq]

/-! 54 erasure/erasureref38.Verify -/
abbrev i54 : Type := List Int × List Int × Int × Int × Rows
def enc54 : i54 → CSt := fun a => ([Go.Ev.SV.agg (Go.Ev.pkS Go.IntKind.u8 a.1 (32 : Nat)), Go.Ev.SV.agg (Go.Ev.pkS Go.IntKind.u8 a.2.1 (32 : Nat)), Go.Ev.SV.agg [Go.Ev.SL.d (Go.Ev.DL.int Go.IntKind.i64 a.2.2.1), Go.Ev.SL.d (Go.Ev.DL.int Go.IntKind.i64 a.2.2.2.1), Go.Ev.SL.d (Go.Ev.DL.lst (25 : Nat) a.2.2.2.2)]], [])
def dec54 : (c : CSt) → Option { a : i54 // c = enc54 a }
  | ([Go.Ev.SV.agg [Go.Ev.SL.d (Go.Ev.DL.int Go.IntKind.u8 x1_0), Go.Ev.SL.d (Go.Ev.DL.int Go.IntKind.u8 x1_1), Go.Ev.SL.d (Go.Ev.DL.int Go.IntKind.u8 x1_2), Go.Ev.SL.d (Go.Ev.DL.int Go.IntKind.u8 x1_3), Go.Ev.SL.d (Go.Ev.DL.int Go.IntKind.u8 x1_4), Go.Ev.SL.d (Go.Ev.DL.int Go.IntKind.u8 x1_5), Go.Ev.SL.d (Go.Ev.DL.int Go.IntKind.u8 x1_6), Go.Ev.SL.d (Go.Ev.DL.int Go.IntKind.u8 x1_7), Go.Ev.SL.d (Go.Ev.DL.int Go.IntKind.u8 x1_8), Go.Ev.SL.d (Go.Ev.DL.int Go.IntKind.u8 x1_9), Go.Ev.SL.d (Go.Ev.DL.int Go.IntKind.u8 x1_10), Go.Ev.SL.d (Go.Ev.DL.int Go.IntKind.u8 x1_11), Go.Ev.SL.d (Go.Ev.DL.int Go.IntKind.u8 x1_12), Go.Ev.SL.d (Go.Ev.DL.int Go.IntKind.u8 x1_13), Go.Ev.SL.d (Go.Ev.DL.int Go.IntKind.u8 x1_14), Go.Ev.SL.d (Go.Ev.DL.int Go.IntKind.u8 x1_15), Go.Ev.SL.d (Go.Ev.DL.int Go.IntKind.u8 x1_16), Go.Ev.SL.d (Go.Ev.DL.int Go.IntKind.u8 x1_17), Go.Ev.SL.d (Go.Ev.DL.int Go.IntKind.u8 x1_18), Go.Ev.SL.d (Go.Ev.DL.int Go.IntKind.u8 x1_19), Go.Ev.SL.d (Go.Ev.DL.int Go.IntKind.u8 x1_20), Go.Ev.SL.d (Go.Ev.DL.int Go.IntKind.u8 x1_21), Go.Ev.SL.d (Go.Ev.DL.int Go.IntKind.u8 x1_22), Go.Ev.SL.d (Go.Ev.DL.int Go.IntKind.u8 x1_23), Go.Ev.SL.d (Go.Ev.DL.int Go.IntKind.u8 x1_24), Go.Ev.SL.d (Go.Ev.DL.int Go.IntKind.u8 x1_25), Go.Ev.SL.d (Go.Ev.DL.int Go.IntKind.u8 x1_26), Go.Ev.SL.d (Go.Ev.DL.int Go.IntKind.u8 x1_27), Go.Ev.SL.d (Go.Ev.DL.int Go.IntKind.u8 x1_28), Go.Ev.SL.d (Go.Ev.DL.int Go.IntKind.u8 x1_29), Go.Ev.SL.d (Go.Ev.DL.int Go.IntKind.u8 x1_30), Go.Ev.SL.d (Go.Ev.DL.int Go.IntKind.u8 x1_31)], Go.Ev.SV.agg [Go.Ev.SL.d (Go.Ev.DL.int Go.IntKind.u8 x2_0), Go.Ev.SL.d (Go.Ev.DL.int Go.IntKind.u8 x2_1), Go.Ev.SL.d (Go.Ev.DL.int Go.IntKind.u8 x2_2), Go.Ev.SL.d (Go.Ev.DL.int Go.IntKind.u8 x2_3), Go.Ev.SL.d (Go.Ev.DL.int Go.IntKind.u8 x2_4), Go.Ev.SL.d (Go.Ev.DL.int Go.IntKind.u8 x2_5), Go.Ev.SL.d (Go.Ev.DL.int Go.IntKind.u8 x2_6), Go.Ev.SL.d (Go.Ev.DL.int Go.IntKind.u8 x2_7), Go.Ev.SL.d (Go.Ev.DL.int Go.IntKind.u8 x2_8), Go.Ev.SL.d (Go.Ev.DL.int Go.IntKind.u8 x2_9), Go.Ev.SL.d (Go.Ev.DL.int Go.IntKind.u8 x2_10), Go.Ev.SL.d (Go.Ev.DL.int Go.IntKind.u8 x2_11), Go.Ev.SL.d (Go.Ev.DL.int Go.IntKind.u8 x2_12), Go.Ev.SL.d (Go.Ev.DL.int Go.IntKind.u8 x2_13), Go.Ev.SL.d (Go.Ev.DL.int Go.IntKind.u8 x2_14), Go.Ev.SL.d (Go.Ev.DL.int Go.IntKind.u8 x2_15), Go.Ev.SL.d (Go.Ev.DL.int Go.IntKind.u8 x2_16), Go.Ev.SL.d (Go.Ev.DL.int Go.IntKind.u8 x2_17), Go.Ev.SL.d (Go.Ev.DL.int Go.IntKind.u8 x2_18), Go.Ev.SL.d (Go.Ev.DL.int Go.IntKind.u8 x2_19), Go.Ev.SL.d (Go.Ev.DL.int Go.IntKind.u8 x2_20), Go.Ev.SL.d (Go.Ev.DL.int Go.IntKind.u8 x2_21), Go.Ev.SL.d (Go.Ev.DL.int Go.IntKind.u8 x2_22), Go.Ev.SL.d (Go.Ev.DL.int Go.IntKind.u8 x2_23), Go.Ev.SL.d (Go.Ev.DL.int Go.IntKind.u8 x2_24), Go.Ev.SL.d (Go.Ev.DL.int Go.IntKind.u8 x2_25), Go.Ev.SL.d (Go.Ev.DL.int Go.IntKind.u8 x2_26), Go.Ev.SL.d (Go.Ev.DL.int Go.IntKind.u8 x2_27), Go.Ev.SL.d (Go.Ev.DL.int Go.IntKind.u8 x2_28), Go.Ev.SL.d (Go.Ev.DL.int Go.IntKind.u8 x2_29), Go.Ev.SL.d (Go.Ev.DL.int Go.IntKind.u8 x2_30), Go.Ev.SL.d (Go.Ev.DL.int Go.IntKind.u8 x2_31)], Go.Ev.SV.agg [Go.Ev.SL.d (Go.Ev.DL.int Go.IntKind.i64 x3), Go.Ev.SL.d (Go.Ev.DL.int Go.IntKind.i64 x4), Go.Ev.SL.d (Go.Ev.DL.lst (25 : Nat) x5)]], []) => some ⟨([x1_0, x1_1, x1_2, x1_3, x1_4, x1_5, x1_6, x1_7, x1_8, x1_9, x1_10, x1_11, x1_12, x1_13, x1_14, x1_15, x1_16, x1_17, x1_18, x1_19, x1_20, x1_21, x1_22, x1_23, x1_24, x1_25, x1_26, x1_27, x1_28, x1_29, x1_30, x1_31], [x2_0, x2_1, x2_2, x2_3, x2_4, x2_5, x2_6, x2_7, x2_8, x2_9, x2_10, x2_11, x2_12, x2_13, x2_14, x2_15, x2_16, x2_17, x2_18, x2_19, x2_20, x2_21, x2_22, x2_23, x2_24, x2_25, x2_26, x2_27, x2_28, x2_29, x2_30, x2_31], x3, x4, x5), rfl⟩
  | _ => none
abbrev o54 : Type := Bool
def ret54 : o54 → CSt := fun b => ([Go.Ev.SV.one (Go.Ev.SL.d (Go.Ev.DL.bool b))], [])
def retK54 {R : Type} (K : CSt → Option R) : o54 → Option R := fun b => K (([Go.Ev.SV.one (Go.Ev.SL.d (Go.Ev.DL.bool b))], []))
theorem retK54_eq {R : Type} (K : CSt → Option R) (b : o54) : retK54 K b = K (ret54 b) := rfl
abbrev Sd54 (f : i54 → Option o54) : Prop := ∀ a b, f a = some b → CallOk Try.prog 54 (enc54 a) (ret54 b)
def ent54 (f : i54 → Option o54) : Ent := mkEnt 54 dec54 ret54 retK54 retK54_eq f
def ann54 : Nat → List Nat × List Nat := fun id => ([], [])
def br54 : FuncId → Bool := fun (g : Nat) => ([67, 72] : List Nat).any (Nat.beq g)
def ar54 : TypeId → Bool := fun (t : Nat) => ([24, 25, 79, 82] : List Nat).any (Nat.beq t)
noncomputable def t54 {R : Type} (sh : Sh) (f26 : i26 → Option o26) (x1 : List Int) (x2 : List Int) (x3 : Int) (x4 : Int) (x5 : Rows) (k : o54 → Option R) : Option R :=
  sh (Go.Ev.colD (Go.Ev.mapD Go.IntKind.u8 (Go.Ev.pkL x1 (32 : Nat))) : Rows) fun y1 =>
  sh (Go.Ev.colD (Go.Ev.mapD Go.IntKind.u8 (Go.Ev.pkL x2 (32 : Nat))) : Rows) fun y2 =>
  bif Decidable.decide (List.length y2 = (32 : Nat)) then
    (f26 (Go.Ev.colI y2 (32 : Nat), x3, x4, x5)).bind fun (r3 : List Int × Int) =>
    sh (List.replicate (32 : Nat) [Go.Ev.DL.int Go.IntKind.u8 (0 : Int)] : Rows) fun y4 =>
    bif Decidable.decide (List.length y4 = (32 : Nat)) then
      sh (Go.Ev.colD (Go.Ev.mapD Go.IntKind.u8 (Go.Ev.pkL (Prod.fst r3) (32 : Nat))) : Rows) fun y5 =>
      bif Prod.snd r3 == (0 : Int) then
        bif Decidable.decide (List.length y5 = (32 : Nat)) then
          bif Decidable.decide (List.length y1 = (32 : Nat)) then
            k (Go.Ev.eqI (Go.Ev.colI y5 (32 : Nat)) (Go.Ev.colI y1 (32 : Nat)) (32 : Nat))
          else none
        else none
      else
        k (Bool.false)
    else none
  else none
theorem t54_eq {R : Type} (sh : Sh) (hsh : ∀ {α R : Type} (x : α) (K : α → Option R), sh x K = K x) (f26 : i26 → Option o26) (x1 : List Int) (x2 : List Int) (x3 : Int) (x4 : Int) (x5 : Rows) (K : CSt → Option R) : bodyK Try.prog (tabO sh hsh br54 ar54 [ent26 f26]) (tabL []) ann54 false Try.f54 (enc54 (x1, x2, x3, x4, x5)) K = t54 sh f26 x1 x2 x3 x4 x5 (retK54 K) := by kernel_rfl
theorem t54_law {R : Type} (f26 : i26 → Option o26) (x1 : List Int) (x2 : List Int) (x3 : Int) (x4 : Int) (x5 : Rows) (K : o54 → Option R) : t54 sh0 f26 x1 x2 x3 x4 x5 K = (t54 sh0 f26 x1 x2 x3 x4 x5 some).bind K := by
  simp only [t54, sh0, cond_bind', two_bind, none_bind', Option.bind_assoc, Option.bind_some]
theorem ok54 (f26 : i26 → Option o26) (hf26 : Sd26 f26) : Sd54 (fun a => t54 sh0 f26 a.1 a.2.1 a.2.2.1 a.2.2.2.1 a.2.2.2.2 some) := by
  intro a b h
  refine call_ok (sh := sh0) (hsh := fun _ _ => rfl) (br := br54) (ar := ar54) (own := false) Try.mixed Try.func54 (by kernel_rfl) (.cons (mkEnt_ok hf26) .nil) (fun nt => .nil) ((t54_eq sh0 (fun _ _ => rfl) f26 a.1 a.2.1 a.2.2.1 a.2.2.2.1 a.2.2.2.2 _).trans ?_)
  rw [t54_law]
  simp only at h
  rw [h, Option.bind_some, retK54_eq]

end Go.Proofs.SmG
