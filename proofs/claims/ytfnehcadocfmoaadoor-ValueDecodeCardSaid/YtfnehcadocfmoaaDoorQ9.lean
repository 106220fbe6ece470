/- Values: the reference's decoding, edits; the law about decoding. -/
import Derived.Test.YtfnehcadocfmoaaDoorQ8
import Derived.Test.YtfnehcadocfmoaaDoorL10
set_option linter.unusedVariables false
set_option linter.unusedSimpArgs false

namespace Go.Proofs.Val
open Go Go.Ev Go.Proofs.VaG

def dTr : List By → Option (Option (List By × Nat))
  | [] => none
  | [b] => if b ≠ 0 then none else some none
  | b :: c :: r => if b ≠ 0 then (dTr (c :: r)).map (Option.map fun p => (b :: p.1, p.2 + 1)) else if c = 0 then some (some ([], 2)) else if c = 255 then (dTr r).map (Option.map fun p => (0 :: p.1, p.2 + 2)) else some none
termination_by t => t.length
theorem dT_rel : ∀ (n : Nat) (t : List By), t.length ≤ n → (∃ u m, 1 ≤ m ∧ m ≤ t.length ∧ dTr t = some (some (u, m)) ∧ dT t = some (some (u, t.drop m))) ∨ ((dTr t).join = none ∧ (dT t).join = none) := by
  intro n
  induction n with
  | zero => intro t h; have : t = [] := List.length_eq_zero_iff.1 (by omega); subst this; exact .inr ⟨by simp [dTr], by simp [dT]⟩
  | succ n ih =>
    intro t h
    match t, h with
    | [], _ => exact .inr ⟨by simp [dTr], by simp [dT]⟩
    | [b], _ => exact .inr ⟨by rw [dTr]; split <;> rfl, by simp [dT]⟩
    | b :: c :: t, h =>
      simp only [List.length_cons] at h
      rw [dTr, dT]
      by_cases hb : b ≠ 0
      · rw [if_pos hb, if_pos hb]
        rcases ih (c :: t) (by simp only [List.length_cons]; omega) with ⟨u, m, h1, h2, h3, h4⟩ | ⟨h1, h2⟩
        · rw [h3, h4]
          exact .inl ⟨b :: u, m + 1, by omega, by simp only [List.length_cons] at h2 ⊢; omega, rfl, rfl⟩
        · right
          constructor
          · cases hd : dTr (c :: t) with
            | none => rfl
            | some o => cases o with
              | none => rfl
              | some p => rw [hd] at h1; simp at h1
          · cases hd : dT (c :: t) with
            | none => rfl
            | some o => cases o with
              | none => rfl
              | some p => rw [hd] at h2; simp at h2
      · rw [if_neg hb, if_neg hb]
        by_cases hc : c = 0
        · rw [if_pos hc, if_pos hc]
          exact .inl ⟨[], 2, by omega, by simp, rfl, rfl⟩
        · rw [if_neg hc, if_neg hc]
          by_cases h5 : c = 255
          · rw [if_pos h5, if_pos h5]
            rcases ih t (by omega) with ⟨u, m, h1, h2, h3, h4⟩ | ⟨h1, h2⟩
            · rw [h3, h4]
              exact .inl ⟨0 :: u, m + 2, by omega, by simp only [List.length_cons]; omega, rfl, rfl⟩
            · right
              constructor
              · cases hd : dTr t with
                | none => rfl
                | some o => cases o with
                  | none => rfl
                  | some p => rw [hd] at h1; simp at h1
              · cases hd : dT t with
                | none => rfl
                | some o => cases o with
                  | none => rfl
                  | some p => rw [hd] at h2; simp at h2
          · rw [if_neg h5, if_neg h5]
            exact .inr ⟨rfl, rfl⟩
theorem dec1_suf (t : List By) (v : V) (r : List By) (h : dec1 t = some (v, r)) : ∃ m, 1 ≤ m ∧ m ≤ t.length ∧ r = t.drop m := by
  cases t with
  | nil => simp [dec1] at h
  | cons b t =>
    rw [dec1] at h
    split at h
    · simp only [Option.some.injEq, Prod.mk.injEq] at h; exact ⟨1, by omega, by simp, h.2.symm⟩
    · split at h
      · split at h
        · simp at h
        · simp only [Option.some.injEq, Prod.mk.injEq] at h; exact ⟨6, by omega, by simp; omega, h.2.symm⟩
      · split at h
        · rcases dT_rel t.length t (Nat.le_refl _) with ⟨u, m, h1, h2, _, h4⟩ | ⟨_, h2⟩
          · rw [h4] at h
            simp only [Option.join_some, Option.map_some, Option.some.injEq, Prod.mk.injEq] at h
            exact ⟨m + 1, by omega, by simp; omega, h.2.symm⟩
          · rw [h2] at h; simp at h
        · simp at h

/-! ### decode of the reference -/
def p53a (a : iL53_6) : Prop := ∃ (t : List By) (m i : Nat) (x4 x5 : Int) (x6 : ByteArray), 5 ≤ t.length ∧ i ≤ 5 ∧ m < 256 ^ i ∧ a = (S8 ((2 : By) :: t), (m : Int), ((i + 1 : Nat) : Int), x4, x5, x6)
def f53a (a : iL53_6) : oL53_6 := ((natF a.2.1.toNat (((unS a.1).take 6).drop a.2.2.1.toNat) : Int), a.2.2.2.1, a.2.2.2.2.1, a.2.2.2.2.2)
theorem s53a : SdL53_6 (prt p53a f53a) := by
  refine of_iterL (step := fun l a => u53_6 sh0 l a.1 a.2.1 a.2.2.1 a.2.2.2.1 a.2.2.2.2.1 a.2.2.2.2.2 some) okL53_6 (fun a => 6 - a.2.2.1.toNat) ?_
  rintro F _ ⟨t, m, i, x4, x5, x6, ht, hi, hm, rfl⟩ ih
  unfold u53_6
  simp only [sh0_eq, cond_dec, f53a, Int.toNat_natCast, S8_get, S8_size, unS_S8, succ_w (i + 1) (by omega), Option.bind_fun_some, List.length_cons]
  by_cases h : i < 5
  · have hm2 : m < 2 ^ 40 := Nat.lt_of_lt_of_le hm (by
      have := Nat.pow_le_pow_right (show 0 < 256 by omega) hi
      exact this)
    have hb8 := (nb ((2 : By) :: t) (i + 1)).isLt
    have hw : IntKind.i64.wrap (IntKind.i64.wrap ((m : Int) * 256) + IntKind.i64.wrap ((nb ((2 : By) :: t) (i + 1)).toNat : Int)) = ((m * 256 + (nb ((2 : By) :: t) (i + 1)).toNat : Nat) : Int) := by
      rw [wrap_i64 (n := (m : Int) * 256) (by omega) (by omega), wrap_i64 (n := ((nb ((2 : By) :: t) (i + 1)).toNat : Int)) (by omega) (by omega), wrap_i64 (by omega) (by omega)]
      omega
    rw [if_pos (by omega), if_pos (by omega), hw]
    rw [ih (S8 ((2 : By) :: t), ((m * 256 + (nb ((2 : By) :: t) (i + 1)).toNat : Nat) : Int), ((i + 1 + 1 : Nat) : Int), x4, x5, x6) ⟨t, _, i + 1, x4, x5, x6, ht, by omega, by rw [Nat.pow_succ]; omega, rfl⟩ (by simp only [Int.toNat_natCast]; omega)]
    simp only [f53a, Int.toNat_natCast, unS_S8]
    have hd : (((2 : By) :: t).take 6).drop (i + 1) = nb ((2 : By) :: t) (i + 1) :: (((2 : By) :: t).take 6).drop (i + 1 + 1) := by
      rw [drop_nb (((2 : By) :: t).take 6) (i + 1) (by rw [List.length_take, List.length_cons]; omega)]
      congr 1
      unfold nb
      rw [List.getD_eq_getElem?_getD, List.getD_eq_getElem?_getD, List.getElem?_take_of_lt (by omega)]
    rw [hd]
    rfl
  · rw [if_neg (by omega), List.drop_of_length_le (by rw [List.length_take]; omega)]
    rfl

def p53b (a : iL53_13) : Prop := ∃ (t : List By) (i : Nat) (x3 x4 : Int) (x5 : ByteArray) (out : List By), t.length ≤ 30000 ∧ i ≤ t.length ∧ out.length ≤ i ∧ a = (S8 t, (i : Int), x3, x4, x5, R out)
def f53b (a : iL53_13) : oL53_13 := match dTr ((unS a.1).drop a.2.1.toNat) with
  | none => .inr (a.2.2.1, a.2.2.2.1, a.2.2.2.2.1)
  | some none => .inl (0, 0, 0, S8 [])
  | some (some p) => .inl (((a.2.1.toNat + p.2 : Nat) : Int), 2, 0, S8 (byOf a.2.2.2.2.2 ++ p.1))
theorem bne255 (b : By) : ((((b.toNat : Nat) : Int) != 255)) = decide (b ≠ 255) := by
  have := beq255 b
  unfold bne
  rw [this]
  by_cases h : b = 255 <;> simp [h]
theorem s53b : SdL53_13 (prt p53b f53b) := by
  refine of_iterL (step := fun l a => u53_13 sh0 l a.1 a.2.1 a.2.2.1 a.2.2.2.1 a.2.2.2.2.1 a.2.2.2.2.2 some) okL53_13 (fun a => a.1.size - a.2.1.toNat) ?_
  rintro F _ ⟨t, i, x3, x4, x5, out, hb, hi, ho, rfl⟩ ih
  unfold u53_13
  have h0r : ([[DL.int .u8 0]] : Rows) = R [0] := rfl
  have w2 : IntKind.i64.wrap ((i : Int) + 2) = ((i + 2 : Nat) : Int) := by rw [wrap_i64 (by omega) (by omega)]; omega
  have i2 : IntKind.i64.wrap (((i + 1 : Nat) : Int) + 1) = ((i + 2 : Nat) : Int) := by rw [succ_w (i + 1) (by omega)]
  simp only [sh0_eq, cond_dec, f53b, Int.toNat_natCast, S8_size, S8_get, succ_w i (by omega), w2, i2, Option.bind_fun_some, unS_S8, byOf_R, R_len, R_one, h0r, R_app, S8_R, beq0, bne0b, bne255, S8_nil]
  by_cases h : i < t.length
  · have e1' := drop_nb t i h
    rw [if_pos (by omega), if_pos (by omega), e1']
    by_cases hz : nb t i = 0
    · rw [if_neg (show ¬ (nb t i ≠ 0) from fun hh => hh hz)]
      by_cases hl : i + 1 < t.length
      · have e2' := drop_nb t (i + 1) hl
        rw [if_neg (by omega), if_pos (by omega), e2', dTr, if_neg (show ¬ (nb t i ≠ 0) from fun hh => hh hz)]
        by_cases hc : nb t (i + 1) = 0
        · rw [if_neg (show ¬ (nb t (i + 1) ≠ 0) from fun hh => hh hc), if_pos (by omega), if_pos hc, if_pos hc]
          simp
        · rw [if_pos (show (nb t (i + 1) ≠ 0) from hc), if_pos (by omega), if_neg hc]
          by_cases h5 : nb t (i + 1) = 255
          · rw [if_neg (show ¬ (nb t (i + 1) ≠ 255) from fun hh => hh h5), if_pos (by omega), if_neg hc, if_pos h5, room5 (by simp; omega), cond_true]
            rw [ih (S8 t, ((i + 2 : Nat) : Int), x3, x4, x5, R (out ++ [0])) ⟨t, i + 2, _, _, _, _, hb, by omega, by simp; omega, rfl⟩ (by simp only [S8_size, Int.toNat_natCast]; omega)]
            simp only [f53b, Int.toNat_natCast, unS_S8, byOf_R]
            cases dTr (t.drop (i + 1 + 1)) with
            | none => rfl
            | some o => cases o with
              | none => rfl
              | some p =>
                have : i + 2 + p.2 = i + (p.2 + 2) := by omega
                simp [this]
          · rw [if_pos (show nb t (i + 1) ≠ 255 from h5), if_neg hc, if_neg h5]
      · rw [if_pos (by omega), List.drop_of_length_le (show t.length ≤ i + 1 by omega), dTr, if_neg (show ¬ (nb t i ≠ 0) from fun hh => hh hz)]
    · rw [if_pos (show nb t i ≠ 0 from hz), if_pos (by omega), room5 (by simp; omega), cond_true]
      rw [ih (S8 t, ((i + 1 : Nat) : Int), x3, x4, x5, R (out ++ [nb t i])) ⟨t, i + 1, _, _, _, _, hb, by omega, by simp; omega, rfl⟩ (by simp only [S8_size, Int.toNat_natCast]; omega)]
      simp only [f53b, Int.toNat_natCast, unS_S8, byOf_R]
      have hd : dTr (nb t i :: t.drop (i + 1)) = (dTr (t.drop (i + 1))).map (Option.map fun p => (nb t i :: p.1, p.2 + 1)) := by
        cases hz' : t.drop (i + 1) with
        | nil => rw [dTr, dTr, if_pos (show nb t i ≠ 0 from hz)]; rfl
        | cons c z => rw [dTr, if_pos (show nb t i ≠ 0 from hz)]
      rw [hd]
      cases dTr (t.drop (i + 1)) with
      | none => rfl
      | some o => cases o with
        | none => rfl
        | some p =>
          have : i + 1 + p.2 = i + (p.2 + 1) := by omega
          simp [this]
  · rw [if_neg (by omega), List.drop_of_length_le (by omega), dTr]

def f53' (t : List By) : o53 := match dec1 t with
  | some (v, r) => (v.k, v.n, S8 v.t, ((t.length - r.length : Nat) : Int))
  | none => (0, 0, S8 [], 0)
def f53 (s : ByteArray) : o53 := f53' (unS s)
theorem s53 : Sd53 (prt p52 f53) := by
  refine of_prt (ok53 _ _ s53a s53b) ?_
  rintro _ ⟨b, r, hl, rfl⟩
  unfold t53
  have k1 : (((b.toNat : Nat) : Int) == 1) = decide (b = 1) := beqk b 1 (by omega)
  have k2 : (((b.toNat : Nat) : Int) == 2) = decide (b = 2) := beqk b 2 (by omega)
  have k3 : (((b.toNat : Nat) : Int) == 3) = decide (b = 3) := beqk b 3 (by omega)
  have e3 : prt p53b f53b (S8 (b :: r), (1 : Int), (0 : Int), (0 : Int), S8 [], ([] : Rows)) = some (f53b (S8 (b :: r), (1 : Int), (0 : Int), (0 : Int), S8 [], R [])) := prt_eq (by exact ⟨b :: r, 1, _, _, _, [], show (b :: r).length ≤ 30000 by rw [List.length_cons]; omega, by simp, by simp, rfl⟩)
  simp only [sh0_eq, cond_dec, S8_get, S8_size, nb_cons, k1, k2, k3, List.length_cons, S8_nil, f53, f53', unS_S8, dec1, e3, Option.bind_some]
  rw [if_pos (by omega)]
  by_cases h1 : b = 1
  · rw [if_pos h1, if_pos h1]
    have : (r.length + 1 - r.length : Nat) = 1 := by omega
    simp only [this]; rfl
  · rw [if_neg h1, if_neg h1, if_pos (by omega)]
    by_cases h2 : b = 2
    · rw [if_pos h2, if_pos h2]
      by_cases h5 : r.length < 5
      · rw [if_neg (by omega), if_pos h5, if_pos (by omega), if_neg (by rw [h2]; decide)]
      · rw [if_pos (by omega), if_neg h5]
        have e : prt p53a f53a (S8 (b :: r), (0 : Int), (1 : Int), (0 : Int), (0 : Int), S8 []) = some ((natB (r.take 5) : Int), 0, 0, S8 []) := by
          rw [h2, prt_eq (by exact ⟨r, 0, 0, _, _, _, by omega, by omega, by simp, rfl⟩)]
          simp only [f53a, unS_S8]
          rfl
        have ht : (r.take 5).length = 5 := by rw [List.length_take]; omega
        have hlt := natB_lt _ ht
        rw [e, Option.bind_some]
        have h6 : (r.length + 1 - (r.drop 5).length : Nat) = 6 := by rw [List.length_drop]; omega
        simp only [h6]
        rw [wrap_i64 (by omega) (by omega)]; rfl
    · rw [if_neg h2, if_neg h2, if_pos (by omega)]
      by_cases h3 : b = 3
      · rw [if_pos h3, if_pos h3]
        have hd : (unS (S8 (b :: r))).drop (1 : Int).toNat = r := by rw [unS_S8]; rfl
        unfold f53b
        simp only [hd]
        rcases dT_rel r.length r (Nat.le_refl _) with ⟨u, m, m1, m2, m3, m4⟩ | ⟨m3, m4⟩
        · rw [m3, m4]
          have : (r.length + 1 - (r.drop m).length : Nat) = 1 + m := by rw [List.length_drop]; omega
          simp only [Option.join_some, Option.map_some, two, this]
          rfl
        · rw [m4]
          cases hq : dTr r with
          | none => rfl
          | some o => cases o with
            | none => rfl
            | some p => rw [hq] at m3; simp at m3
      · rw [if_neg h3, if_neg h3]
theorem e53 (t : List By) (h : t.length ≤ 20000) (h0 : t ≠ []) : prt p52 f53 (S8 t) = some (f53' t) := by
  cases t with
  | nil => exact absurd rfl h0
  | cons b r =>
    rw [prt_eq (by exact ⟨b, r, by simp only [List.length_cons] at h; omega, rfl⟩)]
    unfold f53; rw [unS_S8]

def decQ : Nat → List By → Nat → List V × Bool
  | _, [], _ => ([], true)
  | 0, _ :: _, _ => ([], false)
  | n + 1, b :: t, c => match dec1 (b :: t) with
    | none => ([], false)
    | some (v, r) => if okv v = false then ([], false) else if c = 16 then ([], false) else (v :: (decQ n r (c + 1)).1, (decQ n r (c + 1)).2)
theorem decQ_more : ∀ (n k : Nat) (t : List By) (c : Nat), t.length ≤ n → decQ (n + k) t c = decQ n t c
  | 0, k, t, c, h => by
    have : t = [] := List.length_eq_zero_iff.1 (by omega)
    subst this; cases k <;> rfl
  | n + 1, k, [], _, _ => by rw [show n + 1 + k = (n + k) + 1 by omega]; rfl
  | n + 1, k, b :: t, c, h => by
    rw [show n + 1 + k = (n + k) + 1 by omega]
    simp only [decQ]
    cases hd : dec1 (b :: t) with
    | none => rfl
    | some p =>
      obtain ⟨v, r⟩ := p
      have := dec1_lt _ _ _ hd
      simp only [decQ_more n k r (c + 1) (by simp only [List.length_cons] at this h; omega)]
theorem decQ_dec : ∀ (n : Nat) (t : List By) (c : Nat), c ≤ 16 → (decQ n t c).2 = ((decP n t).2 && ((decP n t).1.all okv && decide (c + (decP n t).1.length ≤ 16))) ∧ ((decQ n t c).2 = true → (decQ n t c).1 = (decP n t).1)
  | n, [], c, hc => by simp [decQ, decP, hc]
  | 0, _ :: _, c, _ => by simp [decQ, decP]
  | n + 1, b :: t, c, hc => by
    have hQ : decQ (n + 1) (b :: t) c = match dec1 (b :: t) with
      | none => ([], false)
      | some (v, r) => if okv v = false then ([], false) else if c = 16 then ([], false) else (v :: (decQ n r (c + 1)).1, (decQ n r (c + 1)).2) := rfl
    have hP : decP (n + 1) (b :: t) = match dec1 (b :: t) with
      | none => ([], false)
      | some (v, r) => (v :: (decP n r).1, (decP n r).2) := rfl
    cases hd : dec1 (b :: t) with
    | none => rw [hd] at hQ hP; rw [hQ, hP]; simp
    | some p =>
      obtain ⟨v, r⟩ := p
      rw [hd] at hQ hP
      rw [hQ, hP]
      simp only
      cases hv : okv v with
      | false => simp [hv]
      | true =>
        simp only [Bool.true_eq_false, if_false]
        by_cases h16 : c = 16
        · subst h16; simp
        · obtain ⟨i1, i2⟩ := decQ_dec n r (c + 1) (by omega)
          rw [if_neg h16]
          simp only [List.all_cons, hv, Bool.true_and, List.length_cons]
          refine ⟨?_, fun h => by rw [i2 h]⟩
          rw [i1, show c + 1 + (decP n r).1.length = c + ((decP n r).1.length + 1) by omega]
def p38L (a : iL38_3) : Prop := ∃ (t : List By) (i : Nat) (out : List V), t.length ≤ 20000 ∧ i ≤ t.length ∧ out.length ≤ 16 ∧ a = (S8 t, (i : Int), VR out)
def f38L (a : iL38_3) : oL38_3 := if (decQ ((unS a.1).drop a.2.1.toNat).length ((unS a.1).drop a.2.1.toNat) (unV a.2.2).length).2 then .inr (VR (unV a.2.2 ++ (decQ ((unS a.1).drop a.2.1.toNat).length ((unS a.1).drop a.2.1.toNat) (unV a.2.2).length).1)) else .inl (1, [], VR (unV a.2.2 ++ (decQ ((unS a.1).drop a.2.1.toNat).length ((unS a.1).drop a.2.1.toNat) (unV a.2.2).length).1))
theorem f38L_eq (t : List By) (i : Nat) (out : List V) : f38L (S8 t, (i : Int), VR out) = if (decQ (t.drop i).length (t.drop i) out.length).2 then .inr (VR (out ++ (decQ (t.drop i).length (t.drop i) out.length).1)) else .inl (1, [], VR (out ++ (decQ (t.drop i).length (t.drop i) out.length).1)) := by
  simp only [f38L, unS_S8, unV_VR, Int.toNat_natCast]
theorem s38L : SdL38_3 (prt p38L f38L) := by
  refine of_iterL (step := fun l a => u38_3 sh0 _ _ l a.1 a.2.1 a.2.2 some) (fun l hl => okL38_3 _ _ l s53 s19 hl) (fun a => a.1.size - a.2.1.toNat) ?_
  rintro F _ ⟨t, i, out, hb, hi, ho, rfl⟩ ih
  rw [f38L_eq]
  unfold u38_3
  have hdr := S8_drop t i
  rw [S8_size] at hdr
  simp only [sh0_eq, cond_dec, S8_size, Int.toNat_natCast, hdr, VR_len, int_beq, Option.bind_fun_some]
  by_cases h : i < t.length
  · have hne : t.drop i ≠ [] := fun e => by have := congrArg List.length e; rw [List.length_drop] at this; simp at this; omega
    rw [if_pos (by omega), if_pos (by omega), e53 _ (by rw [List.length_drop]; omega) hne, Option.bind_some]
    unfold f53'
    generalize hs : t.drop i = s at *
    have hsl : s.length = t.length - i := by rw [← hs, List.length_drop]
    cases hz : s with
    | nil => exact absurd hz hne
    | cons b r =>
      have hd : decQ (b :: r).length (b :: r) out.length = match dec1 (b :: r) with | none => ([], false) | some (v, r') => if okv v = false then ([], false) else if out.length = 16 then ([], false) else (v :: (decQ r.length r' (out.length + 1)).1, (decQ r.length r' (out.length + 1)).2) := rfl
      cases h1 : dec1 (b :: r) with
      | none =>
        rw [h1] at hd
        rw [hd]
        simp
      | some p =>
        obtain ⟨v, r'⟩ := p
        obtain ⟨m, m1, m2, m3⟩ := dec1_suf _ _ _ h1
        rw [h1] at hd
        have hu : ((b :: r).length - r'.length : Nat) = m := by rw [m3, List.length_drop]; omega
        have e18v : tot f18 (v.k, v.n, S8 v.t) = some (okv v) := e18 v
        simp only at hd ⊢
        rw [hd, hu, if_neg (by omega), e18v, Option.bind_some]
        cases hv : okv v with
        | false => simp
        | true =>
          simp only [Bool.not_true, cond_false, Bool.true_eq_false, if_false]
          by_cases h16 : out.length = 16
          · rw [if_pos (by omega), if_pos h16]; simp
          · have hrow : ([[DL.int .i64 v.k, DL.int .i64 v.n, DL.str (S8 v.t)]] : Rows) = VR [v] := rfl
            have hw : IntKind.i64.wrap ((i : Int) + (m : Int)) = ((i + m : Nat) : Int) := by
              rw [← hz, hsl] at m2
              rw [wrap_i64 (by omega) (by omega)]; omega
            rw [← hz, hsl] at m2
            rw [if_neg (by omega), if_neg h16, hrow, VR_len, VR_app, hw, room23 (by simp; omega), cond_true]
            rw [ih (S8 t, ((i + m : Nat) : Int), VR (out ++ [v])) ⟨t, i + m, _, hb, by omega, by simp; omega, rfl⟩ (by simp only [S8_size, Int.toNat_natCast]; omega), f38L_eq]
            have hr : t.drop (i + m) = r' := by rw [m3, ← hz, ← hs, List.drop_drop]
            have hlt := dec1_lt _ _ _ h1
            simp only [List.length_cons] at hlt
            have hm : decQ r.length r' (out.length + 1) = decQ r'.length r' (out.length + 1) := by
              have := decQ_more r'.length (r.length - r'.length) r' (out.length + 1) (Nat.le_refl _)
              rwa [show r'.length + (r.length - r'.length) = r.length by omega] at this
            rw [hr, hm, List.length_append, List.length_singleton]
            simp only [List.append_assoc, List.singleton_append]
  · rw [if_neg (by omega), List.drop_of_length_le (by omega)]
    simp [decQ]
theorem s38 : Sd38 (prt pB f35) := by
  refine of_prt (ok38 _ s38L) ?_
  intro s hs
  obtain ⟨t, rfl⟩ := ex_S8 s
  have hl : t.length ≤ 20000 := by have : (S8 t).size ≤ 20000 := hs; rwa [S8_size] at this
  unfold t38
  have e : prt p38L f38L (S8 t, (0 : Int), ([] : Rows)) = some (f38L (S8 t, ((0 : Nat) : Int), VR [])) := prt_eq (by exact ⟨t, 0, [], hl, by omega, by simp, rfl⟩)
  obtain ⟨d1, d2⟩ := decQ_dec t.length t 0 (by omega)
  have d3 : (decQ t.length t 0).2 = ((decP t.length t).2 && okr (decP t.length t).1) := by rw [d1]; unfold okr; rw [Nat.zero_add]
  rw [f38L_eq] at e
  simp only [sh0_eq, e, Option.bind_some, f35, unS_S8, List.drop_zero, List.length_nil, List.nil_append, ← d3]
  cases h2 : (decQ t.length t 0).2 with
  | false => simp only [Bool.false_eq_true, if_false, two]
  | true => simp only [if_true, two, d2 h2]

/-! ### edits -/
def tblE : Rows := colD (mapD .u8 [48, 34, 92, 32, 0, 255, 1, 2, 3, 97, 59, 40, 45, 49, 35, 110])
theorem tblE_by : ∀ j, j < 16 → (cellAt tblE j 0).getI = ((BitVec.ofInt 8 (cellAt tblE j 0).getI).toNat : Int) := by decide +kernel
noncomputable def F37 (a : i37) : Option o37 := t37 sh0 F31 a.1 a.2.1 a.2.2 some
theorem S37 : Sd37 F37 := ok37 _ S31
theorem run37 (t : List By) (at_ : Int) (r : Rows) (hl : t.length ≤ 10000) (ht : tp at_ r) : ∃ u a, F37 (S8 t, at_, r) = some (S8 u, a, r) ∧ u.length ≤ t.length + 1 ∧ tp a r := by
  obtain ⟨x, a1, n1, h1, x0, x1, x2⟩ := next_run ((t.length : Int) + 1) at_ r (by omega) ht
  have xl : x ≤ t.length := by
    by_cases h : (2 : Int) ≤ (t.length : Int) + 1
    · have := x1 h; omega
    · have := x2 (by omega); omega
  obtain ⟨k, rfl⟩ := Int.eq_ofNat_of_zero_le x0
  obtain ⟨y, a2, n2, h2, y0, y1⟩ := next' 16 a1 r (by omega) (by omega) h1
  obtain ⟨j, rfl⟩ := Int.eq_ofNat_of_zero_le y0
  obtain ⟨z, a3, n3, h3, z0, z1⟩ := next' 5 a2 r (by omega) (by omega) h2
  have n1' : F31 ((t.length : Int) + 1, at_, r) = some ((k : Int), a1, r) := n1
  have hw : IntKind.i64.wrap ((t.length : Int) + 1) = (t.length : Int) + 1 := wrap_i64 (by omega) (by omega)
  have hk : IntKind.i64.wrap ((k : Int) + 1) = ((k + 1 : Nat) : Int) := succ_w k (by omega)
  have hb := tblE_by j (by omega)
  generalize BitVec.ofInt 8 (cellAt tblE j 0).getI = b at hb
  have d1 := S8_drop t k
  have d2 := S8_drop t (k + 1)
  have d3 := S8_ext t 0 k
  rw [S8_size] at d1 d2
  simp only [List.drop_zero, Nat.sub_zero] at d3
  have hlen : tblE.length = 16 := rfl
  unfold F37 t37
  have htb : (colD (mapD .u8 [(48 : Int), 34, 92, 32, 0, 255, 1, 2, 3, 97, 59, 40, 45, 49, 35, 110]) : Rows) = tblE := rfl
  have hkt : (t.take k).length = k := by rw [List.length_take]; omega
  have hkd : (t.drop k).length = t.length - k := List.length_drop
  have hkd2 : (t.drop (k + 1)).length = t.length - (k + 1) := List.length_drop
  simp only [sh0_eq, S8_size, hw, n1', Option.bind_some, htb, n2, hlen, cond_dec, Int.toNat_natCast, hb, R_one, S8_R, n3, int_beq, hk, d1, d2, d3, S8_app, List.length_append, List.length_singleton, hkt, hkd, hkd2]
  rw [if_pos (by omega), if_pos (by omega)]
  by_cases c0 : z = 0
  · rw [if_pos c0]; exact ⟨t, a3, rfl, by omega, h3⟩
  · rw [if_neg c0]
    by_cases c1 : z = 1
    · rw [if_pos c1, if_pos (by omega), if_pos (by omega), if_pos (by omega), if_pos (by omega)]
      exact ⟨_, a3, rfl, by simp; omega, h3⟩
    · rw [if_neg c1]
      by_cases c2 : z = 2
      · rw [if_pos c2]
        by_cases ck : k < t.length
        · rw [if_pos (by omega), if_pos (by omega), if_pos (by omega), if_pos (by omega)]
          exact ⟨_, a3, rfl, by simp; omega, h3⟩
        · rw [if_neg (by omega), if_pos (by omega)]
          exact ⟨_, a3, rfl, by simp, h3⟩
      · rw [if_neg c2]
        by_cases ck : k < t.length
        · rw [if_pos (by omega), if_pos (by omega), if_pos (by omega), if_pos (by omega), if_pos (by omega)]
          exact ⟨_, a3, rfl, by simp; omega, h3⟩
        · rw [if_neg (by omega), if_pos (by omega)]
          exact ⟨_, a3, rfl, by simp, h3⟩

/-! ### the law -/
def TR (ts : List (List By)) : Rows := ts.map fun t => [DL.str (S8 t)]
theorem TR_len (ts : List (List By)) : (TR ts).length = ts.length := by simp [TR]
theorem cTR (ts : List (List By)) (i : Nat) (h : i < ts.length) : (cellAt (TR ts) i 0).getS = S8 (ts[i]) := by
  unfold cellAt TR
  rw [getD_map, List.getElem?_eq_getElem h]; rfl
def p10L (a : iL10_6) : Prop := ∃ (ts : List (List By)) (i : Nat), (∀ t ∈ ts, t.length ≤ 20000) ∧ ts.length ≤ 10 ∧ i ≤ ts.length ∧ a = ((i : Int), TR ts)
theorem s10L : SdL10_6 (prt p10L fun _ => .inr ()) := by
  refine of_iterL (step := fun l a => u10_6 sh0 _ _ _ l a.1 a.2 some) (fun l hl => okL10_6 _ _ _ l s35 s38 s30 hl) (fun a => a.2.length - a.1.toNat) ?_
  rintro F _ ⟨ts, i, hb, hl, hi, rfl⟩ ih
  unfold u10_6
  simp only [sh0_eq, cond_dec, Int.toNat_natCast, TR_len, succ_w i (by omega), Option.bind_fun_some]
  by_cases h : i < ts.length
  · have hm := hb _ (List.getElem_mem h)
    have hd := decP_len ts[i].length ts[i]
    have hp : (0 : Int) ≤ (i : Int) ∧ (i : Int) < (ts.length : Int) := by omega
    rw [if_pos (by omega)]
    simp only [if_pos hp, if_pos h, cTR ts i h, e35 _ hm, Option.bind_some]
    have hF := ih (((i + 1 : Nat) : Int), TR ts) ⟨ts, i + 1, hb, hl, by omega, rfl⟩ (by simp only [TR_len, Int.toNat_natCast]; omega)
    have hn : ([] : Rows) = VR [] := rfl
    cases (decP ts[i].length ts[i]).2 && okr (decP ts[i].length ts[i]).1 with
    | true =>
      simp only [if_true, Option.bind_some, bne_self_eq_false, cond_false]
      rw [e30 _ _ (by omega) (by omega)]
      simp only [Option.bind_some, decide_true, Bool.not_true, cond_false]
      exact hF
    | false =>
      simp only [Bool.false_eq_true, if_false, Option.bind_some, bne_self_eq_false, cond_false]
      rw [hn, e30 _ _ (by simp) (by simp)]
      simp only [Option.bind_some, decide_true, Bool.not_true, cond_false]
      exact hF
  · rw [if_neg (by omega)]
theorem s10 : Sd10 (prt (fun a => isTape a.1) fun _ => true) := by
  refine of_prt (ok10 _ _ _ _ _ _ S28 S29 s34 S37 s14 s10L) ?_
  rintro ⟨r, s⟩ hr
  obtain ⟨h0, ht⟩ := run28 r hr
  obtain ⟨a, t1, r1, l1, k1, ht⟩ := run29 3 0 r (by omega) (by omega) ht
  have la := enc_len a
  have ea : prt pE f33 (VR a) = some (S8 (enc a)) := e33 a (by omega)
  obtain ⟨u, t2, r2, l2, ht⟩ := run37 (enc a) t1 r (by omega) ht
  obtain ⟨b, t3, r3, l3, k3, ht⟩ := run29 4 t2 r (by omega) (by omega) ht
  have lb := enc_len b
  have eb : prt pE f33 (VR b) = some (S8 (enc b)) := e33 b (by omega)
  have r1' : F29 ((3 : Int), (0 : Int), r) = _ := r1
  have r3' : F29 ((4 : Int), t2, r) = _ := r3
  obtain ⟨t, rfl⟩ := ex_S8 s
  unfold t10
  have hL : ∀ x : List By, x.length ≤ 300 → prt p10L (fun _ => (.inr () : oL10_6)) ((0 : Int), ([[DL.str (S8 x)], [DL.str (S8 u)], [DL.str (S8 (enc b))]] : Rows)) = some (.inr ()) := fun x hx => prt_eq (by
    refine ⟨[x, u, enc b], 0, ?_, by simp, by simp, rfl⟩
    intro y hy
    simp only [List.mem_cons, List.not_mem_nil, or_false] at hy
    rcases hy with rfl | rfl | rfl <;> omega)
  simp only [sh0_eq, S8_size, S8_nil, h0, Option.bind_some, r1', ea, r2, r3', eb, e14, cond_dec]
  by_cases h3 : 300 < t.length
  · rw [if_pos (by omega), hL [] (by simp)]; rfl
  · rw [if_neg (by omega), hL t (by omega)]; rfl

end Go.Proofs.Val
