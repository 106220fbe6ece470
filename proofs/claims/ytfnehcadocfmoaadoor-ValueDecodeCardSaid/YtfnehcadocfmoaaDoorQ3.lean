/- Values: the order of values and rows; the law about Compare. -/
import Derived.Test.YtfnehcadocfmoaaDoorQ2
import Derived.Test.YtfnehcadocfmoaaDoorL6
set_option linter.unusedVariables false
set_option linter.unusedSimpArgs false

namespace Go.Proofs.Val
open Go Go.Ev Go.Proofs.VaG

/-! ### Orders -/
def ltl : List By → List By → Bool
  | _, [] => false
  | [], _ :: _ => true
  | a :: x, b :: y => decide (a.toNat < b.toNat) || (decide (a = b) && ltl x y)
theorem strLt_S8 (a b : List By) : strLt (S8 a) (S8 b) = ltl a b := by
  unfold strLt
  rw [S8_list, S8_list]
  induction a generalizing b with
  | nil => cases b <;> rfl
  | cons x a ih =>
    cases b with
    | nil => rfl
    | cons y b =>
      simp only [List.map_cons, Op.bytesLess, ltl, ih]
      congr 1
      congr 1
      by_cases h : x = y
      · subst h; simp
      · rw [decide_eq_false h]
        refine beq_eq_false_iff_ne.2 fun e => h ?_
        have := congrArg UInt8.toBitVec e
        exact this
def cmpI (a b : Int) : Int := if a < b then -1 else if a > b then 1 else 0
def cmpS (a b : List By) : Int := if ltl a b then -1 else if a = b then 0 else 1
def cmpV (a b : V) : Int := if a.k ≠ b.k then cmpI a.k b.k else if a.k = 1 then cmpI a.n b.n else cmpS a.t b.t
theorem s62 : Sd62 (tot fun _ => false) := by
  refine of_tot ok62 ?_
  intro x; unfold t62; simp
theorem s63 : Sd63 (tot fun _ => false) := by
  refine of_tot ok63 ?_
  intro x; unfold t63; simp
theorem s64 : Sd64 (tot fun _ => false) := by
  refine of_tot ok64 ?_
  intro x
  obtain ⟨t, rfl⟩ := ex_S8 x
  unfold t64
  simp [strEq_S8]
theorem s46 : Sd46 (tot fun a => cmpI a.1 a.2) := by
  refine of_tot (ok46 _ s62) ?_
  rintro ⟨a, b⟩
  unfold t46
  simp only [tot, Option.bind_some, cond_false, cond_dec, cmpI]
  by_cases h : a < b
  · rw [if_pos h, if_pos h]
  · rw [if_neg h, if_neg h]
    by_cases h2 : a > b
    · rw [if_pos h2, if_pos h2]
    · rw [if_neg h2, if_neg h2]
theorem s47 : Sd47 (tot fun a => cmpI a.1 a.2) := by
  refine of_tot (ok47 _ s63) ?_
  rintro ⟨a, b⟩
  unfold t47
  simp only [tot, Option.bind_some, cond_false, cond_dec, cmpI]
  by_cases h : a < b
  · rw [if_pos h, if_pos h]
  · rw [if_neg h, if_neg h]
    by_cases h2 : a > b
    · rw [if_pos h2, if_pos h2]
    · rw [if_neg h2, if_neg h2]
theorem s48 : Sd48 (tot fun a => cmpS (unS a.1) (unS a.2)) := by
  refine of_tot (ok48 _ s64) ?_
  rintro ⟨a, b⟩
  obtain ⟨a, rfl⟩ := ex_S8 a
  obtain ⟨b, rfl⟩ := ex_S8 b
  unfold t48
  simp only [tot, Option.bind_some, cond_false, unS_S8, cmpS, strLt_S8, strEq_S8]
  cases ltl a b with
  | true => rfl
  | false =>
    by_cases h : a = b
    · simp [h]
    · simp [h]
abbrev V6 := Int × Int × ByteArray × Int × Int × ByteArray
def f24 (x : V6) : Int := cmpV (cl (ofV3 (x.1, x.2.1, x.2.2.1))) (cl (ofV3 x.2.2.2))
def v6 (a b : V) : V6 := (a.k, a.n, S8 a.t, v3 b)
theorem ex_V6 (x : V6) : ∃ a b, x = v6 a b := by
  obtain ⟨k, n, s, y⟩ := x
  obtain ⟨t, rfl⟩ := ex_S8 s
  obtain ⟨b, rfl⟩ := ex_V y
  exact ⟨⟨k, n, t⟩, b, rfl⟩
theorem f24_v (a b : V) : f24 (v6 a b) = cmpV (cl a) (cl b) := by
  unfold f24
  have e : ofV3 ((v6 a b).1, (v6 a b).2.1, (v6 a b).2.2.1) = a := ofV3_v3 a
  have e2 : ofV3 (v6 a b).2.2.2 = b := ofV3_v3 b
  rw [e, e2]
theorem s24 : Sd24 (tot f24) := by
  refine of_tot (ok24 _ _ _ _ s20 s46 s47 s48) ?_
  intro x
  obtain ⟨a, b, rfl⟩ := ex_V6 x
  rw [f24_v]
  have ea : tot f20 (a.k, a.n, S8 a.t) = some (v3 (cl a)) := e20 a
  have eb : tot f20 (b.k, b.n, S8 b.t) = some (v3 (cl b)) := e20 b
  unfold t24
  simp only [v6, v3] at ea eb ⊢
  simp only [ea, eb, Option.bind_some]
  simp only [tot, Option.bind_some, unS_S8, cmpV, bne, int_beq]
  by_cases h : (cl a).k = (cl b).k
  · rw [decide_eq_true h]
    simp only [Bool.not_true, cond_false, cond_dec, h, ne_eq, not_true_eq_false, if_false]
    by_cases h1 : (cl b).k = 1
    · rw [if_pos h1, if_pos h1]
    · rw [if_neg h1, if_neg h1]
  · rw [decide_eq_false h]
    simp [h]
theorem ok_shape {v : V} (h : okv v = true) : (v.k = 0 ∧ v.n = 0 ∧ v.t = []) ∨ (v.k = 1 ∧ v.t = []) ∨ (v.k = 2 ∧ v.n = 0) := by
  have := cl_cases v
  rw [cl_ok h] at this
  rcases this with ⟨_, e⟩ | ⟨h1, _, h2⟩ | ⟨h1, h2, _⟩
  · subst e; exact .inl ⟨rfl, rfl, rfl⟩
  · exact .inr (.inl ⟨h1, h2⟩)
  · exact .inr (.inr ⟨h1, h2⟩)
theorem ltl_self : ∀ a : List By, ltl a a = false
  | [] => rfl
  | x :: a => by simp [ltl, ltl_self a]
theorem s25 : Sd25 (tot f24) := by
  refine of_tot (ok25 _ s21) ?_
  intro x
  obtain ⟨a, b, rfl⟩ := ex_V6 x
  rw [f24_v]
  have ea : tot f20 (a.k, a.n, S8 a.t) = some (v3 (cl a)) := e20 a
  have eb : tot f20 (b.k, b.n, S8 b.t) = some (v3 (cl b)) := e20 b
  have sa := ok_shape (okv_cl a)
  have sb := ok_shape (okv_cl b)
  unfold t25
  simp only [v6, v3] at ea eb ⊢
  simp only [ea, eb, Option.bind_some]
  have hbe := beq_v3 (cl a) (cl b)
  simp only [v3] at hbe
  rw [hbe]
  generalize cl a = p at *
  generalize cl b = q at *
  obtain ⟨k, n, t⟩ := p
  obtain ⟨k', n', t'⟩ := q
  simp only [V.mk.injEq, int_beq, cond_dec, strLt_S8, cmpV, cmpI, cmpS] at sa sb ⊢
  by_cases hk : k = k'
  · subst hk
    simp only [true_and, ne_eq, not_true_eq_false, if_false, Int.lt_irrefl, if_true]
    rcases sa with ⟨rfl, rfl, rfl⟩ | ⟨rfl, rfl⟩ | ⟨rfl, rfl⟩
    · rcases sb with ⟨_, rfl, rfl⟩ | ⟨h, _⟩ | ⟨h, _⟩
      · simp [ltl]
      · omega
      · omega
    · rcases sb with ⟨h, _⟩ | ⟨_, rfl⟩ | ⟨h, _⟩
      · omega
      · simp only [and_true, if_true, ltl]
        by_cases h1 : n = n'
        · simp [h1]
        · rw [if_neg h1]
          by_cases h2 : n < n'
          · rw [if_pos h2, if_pos h2]
          · rw [if_neg h2, if_neg h2, if_pos (by omega)]
            rfl
      · omega
    · rcases sb with ⟨h, _⟩ | ⟨h, _⟩ | ⟨_, rfl⟩
      · omega
      · omega
      · simp only [true_and, Int.lt_irrefl, if_false, show ¬ (2 : Int) = 1 by omega]
        by_cases h1 : t = t'
        · subst h1; simp [ltl_self]
        · rw [if_neg h1]
          cases ltl t t' with
          | true => rfl
          | false => simp [h1]
  · have hne : ¬ (k = k' ∧ n = n' ∧ t = t') := fun h => hk h.1
    rw [if_neg hne]
    simp only [ne_eq, hk, not_false_eq_true, if_true, if_false]
    by_cases h1 : k < k'
    · rw [if_pos h1, if_pos h1]
    · rw [if_neg h1, if_neg h1, if_pos (by omega)]

/-! Rows -/
def cmpR : List V → List V → Int
  | [], [] => 0
  | [], _ :: _ => -1
  | _ :: _, [] => 1
  | a :: x, b :: y => if cmpV (cl a) (cl b) ≠ 0 then cmpV (cl a) (cl b) else cmpR x y
theorem e24c (vs us : List V) (i : Nat) : tot f24 ((cellAt (VR vs) i 0).getI, (cellAt (VR vs) i 1).getI, (cellAt (VR vs) i 2).getS, (cellAt (VR us) i 0).getI, (cellAt (VR us) i 1).getI, (cellAt (VR us) i 2).getS) = some (cmpV (cl (gv vs i)) (cl (gv us i))) := by
  rw [cV0, cV1, cV2, cV0, cV1, cV2]
  exact congrArg some (f24_v (gv vs i) (gv us i))
/-- What a walk over two rows says: a difference, or none as far as both go. -/
def dif : List V → List V → Option Int
  | a :: x, b :: y => if cmpV (cl a) (cl b) ≠ 0 then some (cmpV (cl a) (cl b)) else dif x y
  | _, _ => none
def difL : List V → List V → Option Int
  | [], _ => none
  | _ :: _, [] => some 1
  | a :: x, b :: y => if cmpV (cl a) (cl b) ≠ 0 then some (cmpV (cl a) (cl b)) else difL x y
theorem cmpR_dif : ∀ x y : List V, cmpR x y = match dif x y with | some c => c | none => if x.length < y.length then -1 else if y.length < x.length then 1 else 0
  | [], [] => rfl
  | [], _ :: _ => by simp [cmpR, dif]
  | _ :: _, [] => by simp [cmpR, dif]
  | a :: x, b :: y => by
    simp only [cmpR, dif, List.length_cons]
    by_cases h : cmpV (cl a) (cl b) ≠ 0
    · rw [if_pos h, if_pos h]
    · rw [if_neg h, if_neg h, cmpR_dif x y]
      cases dif x y with
      | some c => rfl
      | none => simp
theorem cmpR_difL : ∀ x y : List V, cmpR x y = match difL x y with | some c => c | none => if x.length < y.length then -1 else 0
  | [], [] => rfl
  | [], _ :: _ => by simp [cmpR, difL]
  | _ :: _, [] => by simp [cmpR, difL]
  | a :: x, b :: y => by
    simp only [cmpR, difL, List.length_cons]
    by_cases h : cmpV (cl a) (cl b) ≠ 0
    · rw [if_pos h, if_pos h]
    · rw [if_neg h, if_neg h, cmpR_difL x y]
      cases difL x y with
      | some c => rfl
      | none => simp

def p49L (a : iL49_2) : Prop := ∃ (r : Rows) (xs ys : List V) (i : Nat), xs.length ≤ 1000000 ∧ i ≤ xs.length ∧ i ≤ ys.length ∧ a = (r, VR ys, VR xs, (xs.length : Int), (i : Int))
def f49L (a : iL49_2) : oL49_2 := match difL ((unV a.2.2.1).drop a.2.2.2.2.toNat) ((unV a.2.1).drop a.2.2.2.2.toNat) with | some c => .inl (a.1, a.2.1, c) | none => .inr (a.1, a.2.1)
theorem bne0 (c : Int) : (c != 0) = decide (c ≠ 0) := by
  by_cases h : c = 0
  · simp [h]
  · simp [h]
theorem s49L : SdL49_2 (prt p49L f49L) := by
  refine of_iterL (step := fun l a => u49_2 sh0 _ l a.1 a.2.1 a.2.2.1 a.2.2.2.1 a.2.2.2.2 some) (fun l => okL49_2 _ l s24) (fun a => a.2.2.1.length - a.2.2.2.2.toNat) ?_
  rintro F _ ⟨r, xs, ys, i, hb, hi, hj, rfl⟩ ih
  unfold u49_2
  simp only [sh0_eq, cond_dec, f49L, Int.toNat_natCast, unV_VR, VR_len, succ_w i (by omega), Option.bind_fun_some, e24c, bne0]
  by_cases h : i < xs.length
  · rw [if_pos (by omega), if_pos (by omega), drop_gv xs i h]
    by_cases h2 : i < ys.length
    · rw [if_neg (by omega), if_pos (by omega), drop_gv ys i h2, Option.bind_some]
      simp only [difL]
      by_cases h3 : cmpV (cl (gv xs i)) (cl (gv ys i)) ≠ 0
      · rw [if_pos h3, if_pos h3]
      · rw [if_neg h3, if_neg h3, ih (r, VR ys, VR xs, (xs.length : Int), ((i + 1 : Nat) : Int)) ⟨r, xs, ys, i + 1, hb, by omega, by omega, rfl⟩ (by simp only [VR_len, Int.toNat_natCast]; omega)]
        simp only [f49L, unV_VR, Int.toNat_natCast]
    · rw [if_pos (by omega), List.drop_of_length_le (l := ys) (by omega)]
      rfl
  · rw [if_neg (by omega), List.drop_of_length_le (l := xs) (by omega)]
    cases List.drop i ys <;> rfl
def p2R (a : Rows × Rows) : Prop := ∃ xs ys : List V, xs.length ≤ 1000000 ∧ ys.length ≤ 1000000 ∧ a = (VR xs, VR ys)
def f26 (a : Rows × Rows) : Int := cmpR (unV a.1) (unV a.2)
theorem s49 : Sd49 (prt p2R f26) := by
  refine of_prt (ok49 _ s49L) ?_
  rintro _ ⟨xs, ys, hx, hy, rfl⟩
  unfold t49
  have e : prt p49L f49L (VR xs, VR ys, VR xs, (xs.length : Int), (0 : Int)) = some (match difL xs ys with | some c => .inl (VR xs, VR ys, c) | none => .inr (VR xs, VR ys)) := by
    rw [prt_eq (by exact ⟨_, xs, ys, 0, hx, by omega, by omega, rfl⟩)]
    simp only [f49L, unV_VR, Int.toNat_zero, List.drop_zero]
  simp only [sh0_eq, VR_len, e, Option.bind_some, f26, unV_VR, cmpR_difL]
  cases difL xs ys with
  | some c => rfl
  | none =>
    simp only [two, VR_len, cond_dec]
    by_cases h : xs.length < ys.length
    · rw [if_pos (by omega), if_pos h]
    · rw [if_neg (by omega), if_neg h]
theorem e26 (xs ys : List V) (hx : xs.length ≤ 1000000) (hy : ys.length ≤ 1000000) : prt p2R f26 (VR xs, VR ys) = some (cmpR xs ys) := by
  rw [prt_eq (by exact ⟨xs, ys, hx, hy, rfl⟩)]; simp [f26, unV_VR]
theorem s26 : Sd26 (prt p2R f26) := by
  refine of_prt (ok26 _ s49) ?_
  rintro _ ⟨xs, ys, hx, hy, rfl⟩
  unfold t26
  have e : prt p2R f26 (VR xs, VR ys) = some (cmpR xs ys) := e26 xs ys hx hy
  simp only [e, Option.bind_some, f26, unV_VR]
def p27L (a : iL27_2) : Prop := ∃ (xs ys : List V) (i : Nat), xs.length ≤ 1000000 ∧ i ≤ xs.length ∧ i ≤ ys.length ∧ a = (VR xs, VR ys, (i : Int))
def f27L (a : iL27_2) : oL27_2 := match dif ((unV a.1).drop a.2.2.toNat) ((unV a.2.1).drop a.2.2.toNat) with | some c => .inl (a.1, a.2.1, c) | none => .inr (a.1, a.2.1)
theorem dif_nil (x : List V) : dif x [] = none := by cases x <;> rfl
theorem s27L : SdL27_2 (prt p27L f27L) := by
  refine of_iterL (step := fun l a => u27_2 sh0 _ l a.1 a.2.1 a.2.2 some) (fun l => okL27_2 _ l s25) (fun a => a.1.length - a.2.2.toNat) ?_
  rintro F _ ⟨xs, ys, i, hb, hi, hj, rfl⟩ ih
  unfold u27_2
  have e25c : tot f24 ((cellAt (VR xs) i 0).getI, (cellAt (VR xs) i 1).getI, (cellAt (VR xs) i 2).getS, (cellAt (VR ys) i 0).getI, (cellAt (VR ys) i 1).getI, (cellAt (VR ys) i 2).getS) = some (cmpV (cl (gv xs i)) (cl (gv ys i))) := e24c xs ys i
  simp only [sh0_eq, cond_dec, f27L, Int.toNat_natCast, unV_VR, VR_len, succ_w i (by omega), Option.bind_fun_some, e25c, bne0]
  by_cases h : i < xs.length
  · rw [if_pos (by omega), drop_gv xs i h]
    by_cases h2 : i < ys.length
    · rw [if_pos (by omega), if_pos (by omega), if_pos (by omega), drop_gv ys i h2, Option.bind_some]
      simp only [dif]
      by_cases h3 : cmpV (cl (gv xs i)) (cl (gv ys i)) ≠ 0
      · rw [if_pos h3, if_pos h3]
      · rw [if_neg h3, if_neg h3, ih (VR xs, VR ys, ((i + 1 : Nat) : Int)) ⟨xs, ys, i + 1, hb, by omega, by omega, rfl⟩ (by simp only [VR_len, Int.toNat_natCast]; omega)]
        simp only [f27L, unV_VR, Int.toNat_natCast]
    · rw [if_neg (by omega), List.drop_of_length_le (l := ys) (by omega), dif_nil]
  · rw [if_neg (by omega), List.drop_of_length_le (l := xs) (by omega)]
    cases List.drop i ys <;> rfl
theorem s27 : Sd27 (prt p2R f26) := by
  refine of_prt (ok27 _ s27L) ?_
  rintro _ ⟨xs, ys, hx, hy, rfl⟩
  unfold t27
  have e : prt p27L f27L (VR xs, VR ys, (0 : Int)) = some (match dif xs ys with | some c => .inl (VR xs, VR ys, c) | none => .inr (VR xs, VR ys)) := by
    rw [prt_eq (by exact ⟨xs, ys, 0, hx, by omega, by omega, rfl⟩)]
    simp only [f27L, unV_VR, Int.toNat_zero, List.drop_zero]
  simp only [sh0_eq, e, Option.bind_some, f26, unV_VR, cmpR_dif]
  cases dif xs ys with
  | some c => rfl
  | none =>
    simp only [two, VR_len, cond_dec]
    by_cases h : xs.length < ys.length
    · rw [if_pos (by omega), if_pos h]
    · rw [if_neg (by omega), if_neg h]
      by_cases h2 : ys.length < xs.length
      · rw [if_pos (by omega), if_pos h2]
      · rw [if_neg (by omega), if_neg h2]

/-! The law -/
def p6L (a : iL6_4) : Prop := ∃ (xs ys : List V) (i : Nat), xs.length ≤ 1000000 ∧ i ≤ xs.length ∧ a = (VR xs, VR ys, (i : Int))
theorem s6L : SdL6_4 (prt p6L fun a => .inr (a.1, a.2.1)) := by
  refine of_iterL (step := fun l a => u6_4 sh0 _ _ l a.1 a.2.1 a.2.2 some) (fun l => okL6_4 _ _ l s24 s25) (fun a => a.1.length - a.2.2.toNat) ?_
  rintro F _ ⟨xs, ys, i, hb, hi, rfl⟩ ih
  unfold u6_4
  have e25c : tot f24 ((cellAt (VR xs) i 0).getI, (cellAt (VR xs) i 1).getI, (cellAt (VR xs) i 2).getS, (cellAt (VR ys) i 0).getI, (cellAt (VR ys) i 1).getI, (cellAt (VR ys) i 2).getS) = some (cmpV (cl (gv xs i)) (cl (gv ys i))) := e24c xs ys i
  simp only [sh0_eq, cond_dec, Int.toNat_natCast, VR_len, succ_w i (by omega), Option.bind_fun_some, e25c, Option.bind_some, bne_self_eq_false, cond_false]
  by_cases h : i < xs.length
  · rw [if_pos (by omega)]
    by_cases h2 : i < ys.length
    · rw [if_pos (by omega), if_pos (by omega), if_pos (by omega), if_pos (by omega), if_pos (by omega), ih (VR xs, VR ys, ((i + 1 : Nat) : Int)) ⟨xs, ys, i + 1, hb, by omega, rfl⟩ (by simp only [VR_len, Int.toNat_natCast]; omega)]
    · rw [if_neg (by omega)]
  · rw [if_neg (by omega)]
theorem s6 : Sd6 (prt (fun a => ∃ xs ys : List V, a = (VR xs, VR ys)) fun _ => true) := by
  refine of_prt (ok6 _ _ _ _ _ s17 s14 s26 s27 s6L) ?_
  rintro _ ⟨xs, ys, rfl⟩
  unfold t6
  simp only [e17, e14, Option.bind_some]
  cases hl : lng xs with
  | true => rfl
  | false =>
    cases hl2 : lng ys with
    | true => rfl
    | false =>
      have h1 := lng_no hl
      have h2 := lng_no hl2
      have e : prt p6L (fun a => (.inr (a.1, a.2.1) : oL6_4)) (VR xs, VR ys, (0 : Int)) = some (.inr (VR xs, VR ys)) := by
        rw [prt_eq (by exact ⟨xs, ys, 0, by omega, by omega, rfl⟩)]
      have e27 : prt p2R f26 (VR xs, VR ys) = some (cmpR xs ys) := e26 xs ys (by omega) (by omega)
      simp only [cond_false, e, Option.bind_some, two, e26 xs ys (show xs.length ≤ 1000000 by omega) (show ys.length ≤ 1000000 by omega), beq_self_eq_true, cond_true]

end Go.Proofs.Val
