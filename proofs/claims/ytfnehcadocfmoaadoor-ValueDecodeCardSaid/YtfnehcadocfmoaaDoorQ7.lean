/- Values: byte forms read back; the law about encoding. -/
import Derived.Test.YtfnehcadocfmoaaDoorQ4
import Derived.Test.YtfnehcadocfmoaaDoorL9
set_option linter.unusedVariables false
set_option linter.unusedSimpArgs false

namespace Go.Proofs.Val
open Go Go.Ev Go.Proofs.VaG

theorem S8_ext (t : List By) (a b : Nat) : (S8 t).extract a b = S8 ((t.drop a).take (b - a)) := by
  apply ByteArray.ext
  simp [S8, ByteArray.data_extract, List.extract_eq_take_drop, List.map_take, List.map_drop]
theorem S8_drop (t : List By) (a : Nat) : (S8 t).extract a (S8 t).size = S8 (t.drop a) := by
  rw [S8_ext, S8_size, List.take_of_length_le (by simp)]

/-! ### Texts read back -/
def dT : List By → Option (Option (List By × List By))
  | [] => none
  | [_] => none
  | b :: c :: r => if b ≠ 0 then (dT (c :: r)).map (Option.map fun p => (b :: p.1, p.2)) else if c = 0 then some (some ([], r)) else if c = 255 then (dT r).map (Option.map fun p => (0 :: p.1, p.2)) else some none
termination_by t => t.length

theorem dT_es (u r : List By) : dT (es u ++ [0, 0] ++ r) = some (some (u, r)) := by
  induction u with
  | nil => simp [es, dT]
  | cons b u ih =>
    have he : es (b :: u) = e1 b ++ es u := by simp [es]
    rw [he]
    by_cases h : b = 0
    · subst h
      show dT (0 :: 255 :: (es u ++ [0, 0] ++ r)) = _
      rw [dT, if_neg (by simp), if_neg (by decide), if_pos rfl, ih]; rfl
    · have e : e1 b = [b] := by unfold e1; rw [if_neg h]
      rw [e]
      show dT (b :: (es u ++ [0, 0] ++ r)) = _
      cases hz : es u ++ [0, 0] ++ r with
      | nil => simp at hz
      | cons c z =>
        rw [dT, if_pos h, ← hz, ih]; rfl

def natB (t : List By) : Nat := t.foldl (fun a b => a * 256 + b.toNat) 0
theorem natB_five (m : Nat) (hm : m < 2 ^ 40) : natB (five m) = m := by
  simp only [natB, five, List.foldl_cons, List.foldl_nil, BitVec.toNat_ofNat]
  omega
def dec1 : List By → Option (V × List By)
  | [] => none
  | b :: r =>
    if b = 1 then some (nv, r)
    else if b = 2 then (if r.length < 5 then none else some (⟨1, (natB (r.take 5) : Int) - 4294967296, []⟩, r.drop 5))
    else if b = 3 then (dT r).join.map fun p => (⟨2, 0, p.1⟩, p.2)
    else none
theorem dec1_eV (v : V) (r : List By) : dec1 (eV v ++ r) = some (cl v, r) := by
  unfold eV
  rcases cl_cases v with ⟨hk, hv⟩ | ⟨hk, hn, ht⟩ | ⟨hk, hn, _⟩
  · rw [hk, if_neg (by omega), if_neg (by omega), hv]; rfl
  · rw [hk, if_pos rfl]
    have hn' : -4294967296 ≤ (cl v).n ∧ (cl v).n ≤ 4294967296 := by simpa [inr] using hn
    obtain ⟨m, hm⟩ := Int.eq_ofNat_of_zero_le (show 0 ≤ (cl v).n + 4294967296 by omega)
    have h5 : (five m).length = 5 := rfl
    rw [hm, Int.toNat_natCast]
    show dec1 (2 :: (five m ++ r)) = _
    rw [dec1]
    rw [if_neg (by decide), if_pos rfl, if_neg (by simp [h5]), List.take_left' h5, List.drop_left' h5, natB_five m (by omega)]
    have : cl v = ⟨1, (m : Int) - 4294967296, []⟩ := by
      generalize cl v = u at *
      obtain ⟨k, n, t⟩ := u
      simp only at hk ht hm
      rw [hk, ht]; congr; omega
    rw [this]
  · rw [hk, if_neg (by omega), if_pos rfl]
    show dec1 (3 :: (es (cl v).t ++ [0, 0] ++ r)) = _
    rw [dec1]
    rw [if_neg (by decide), if_neg (by decide), if_pos rfl, dT_es]
    have : cl v = ⟨2, 0, (cl v).t⟩ := by
      generalize cl v = u at *
      obtain ⟨k, n, t⟩ := u
      simp only at hk hn ⊢
      rw [hk, hn]
    conv => rhs; rw [this]
    rfl
theorem dT_lt : ∀ (n : Nat) (t : List By), t.length ≤ n → ∀ u r, (dT t).join = some (u, r) → r.length < t.length := by
  intro n
  induction n with
  | zero => intro t h u r e; have : t = [] := List.length_eq_zero_iff.1 (by omega); subst this; simp [dT] at e
  | succ n ih =>
    intro t h u r e
    match t, h, e with
    | [], _, e => simp [dT] at e
    | [_], _, e => simp [dT] at e
    | b :: c :: t, h, e =>
      rw [dT] at e
      simp only [List.length_cons] at h
      split at e
      · have hi := ih (c :: t) (by simp only [List.length_cons]; omega)
        cases hd : dT (c :: t) with
        | none => rw [hd] at e; simp at e
        | some o =>
          cases o with
          | none => rw [hd] at e; simp at e
          | some p =>
            rw [hd] at e
            simp only [Option.map_some, Option.join_some, Option.some.injEq, Prod.mk.injEq] at e
            have := hi p.1 p.2 (by rw [hd]; rfl)
            rw [← e.2]
            simp only [List.length_cons] at this ⊢; omega
      · split at e
        · simp only [Option.join_some, Option.some.injEq, Prod.mk.injEq] at e
          rw [← e.2]; simp only [List.length_cons]; omega
        · split at e
          · have hi := ih t (by omega)
            cases hd : dT t with
            | none => rw [hd] at e; simp at e
            | some o =>
              cases o with
              | none => rw [hd] at e; simp at e
              | some p =>
                rw [hd] at e
                simp only [Option.map_some, Option.join_some, Option.some.injEq, Prod.mk.injEq] at e
                have := hi p.1 p.2 (by rw [hd]; rfl)
                rw [← e.2]
                simp only [List.length_cons]; omega
          · simp at e
theorem dec1_lt (t : List By) (v : V) (r : List By) (h : dec1 t = some (v, r)) : r.length < t.length := by
  cases t with
  | nil => simp [dec1] at h
  | cons b t =>
    rw [dec1] at h
    split at h
    · simp only [Option.some.injEq, Prod.mk.injEq] at h; rw [← h.2]; simp
    · split at h
      · split at h
        · simp at h
        · simp only [Option.some.injEq, Prod.mk.injEq] at h; rw [← h.2]; simp only [List.length_drop, List.length_cons]; omega
      · split at h
        · cases hd : (dT t).join with
          | none => rw [hd] at h; simp at h
          | some p =>
            rw [hd] at h
            simp only [Option.map_some, Option.some.injEq, Prod.mk.injEq] at h
            have := dT_lt t.length t (Nat.le_refl _) p.1 p.2 hd
            rw [← h.2]; simp only [List.length_cons]; omega
        · simp at h
/-- what is read, and whether all was read -/
def decP : Nat → List By → List V × Bool
  | _, [] => ([], true)
  | 0, _ :: _ => ([], false)
  | n + 1, b :: t => match dec1 (b :: t) with
    | none => ([], false)
    | some (v, r) => (v :: (decP n r).1, (decP n r).2)
theorem decP_enc : ∀ (vs : List V) (n : Nat), vs.length ≤ n → decP n (enc vs) = (vs.map cl, true)
  | [], n, _ => by cases n <;> rfl
  | v :: vs, 0, h => by simp at h
  | v :: vs, n + 1, h => by
    have e : enc (v :: vs) = eV v ++ enc vs := by simp [enc]
    have h1 := dec1_eV v (enc vs)
    have ih := decP_enc vs n (by simp only [List.length_cons] at h; omega)
    rw [e]
    cases hz : eV v ++ enc vs with
    | nil => rw [hz] at h1; simp [dec1] at h1
    | cons b t =>
      rw [hz] at h1
      simp only [decP, h1, ih, List.map_cons]
theorem decP_more : ∀ (n k : Nat) (t : List By), t.length ≤ n → decP (n + k) t = decP n t
  | 0, k, t, h => by
    have : t = [] := List.length_eq_zero_iff.1 (by omega)
    subst this; cases k <;> rfl
  | n + 1, k, [], _ => by rw [show n + 1 + k = (n + k) + 1 by omega]; rfl
  | n + 1, k, b :: t, h => by
    rw [show n + 1 + k = (n + k) + 1 by omega]
    simp only [decP]
    cases hd : dec1 (b :: t) with
    | none => rfl
    | some p =>
      obtain ⟨v, r⟩ := p
      have := dec1_lt _ _ _ hd
      simp only [decP_more n k r (by simp only [List.length_cons] at this h; omega)]
theorem enc_ge (vs : List V) : vs.length ≤ (enc vs).length := by
  induction vs with
  | nil => simp
  | cons v r ih =>
    have e : enc (v :: r) = eV v ++ enc r := by simp [enc]
    have : 1 ≤ (eV v).length := by unfold eV; split <;> (try split) <;> simp
    rw [e]; simp; omega

/-! ### decodeText -/
def p65L (a : iL65_3) : Prop := ∃ (t : List By) (i : Nat) (out : List By), t.length ≤ 20000 ∧ i ≤ t.length ∧ out.length ≤ i ∧ a = (S8 t, (i : Int), R out)
def f65L (a : iL65_3) : oL65_3 := match dT ((unS a.1).drop a.2.1.toNat) with
  | none => .inr ()
  | some none => .inl (S8 [], S8 [], false)
  | some (some p) => .inl (S8 (byOf a.2.2 ++ p.1), S8 p.2, true)
theorem bne0b (b : By) : ((((b.toNat : Nat) : Int) != 0)) = decide (b ≠ 0) := by
  have := beq0 b
  unfold bne
  rw [this]
  by_cases h : b = 0 <;> simp [h]
theorem beq255 (b : By) : ((((b.toNat : Nat) : Int) == 255)) = decide (b = 255) := by
  rw [int_beq]
  refine decide_eq_decide.2 ⟨fun h => ?_, fun h => by subst h; rfl⟩
  apply BitVec.eq_of_toNat_eq
  show b.toNat = 255
  omega
theorem s65L : SdL65_3 (prt p65L f65L) := by
  refine of_iterL (step := fun l a => u65_3 sh0 l a.1 a.2.1 a.2.2 some) okL65_3 (fun a => a.1.size - a.2.1.toNat) ?_
  rintro F _ ⟨t, i, out, hb, hi, ho, rfl⟩ ih
  unfold u65_3
  have h0r : ([[DL.int .u8 0]] : Rows) = R [0] := rfl
  have w2 : IntKind.i64.wrap ((i : Int) + 2) = ((i + 2 : Nat) : Int) := by rw [wrap_i64 (by omega) (by omega)]; omega
  have i2 : IntKind.i64.wrap (((i + 1 : Nat) : Int) + 1) = ((i + 2 : Nat) : Int) := by rw [succ_w (i + 1) (by omega)]
  simp only [sh0_eq, cond_dec, f65L, Int.toNat_natCast, S8_size, S8_get, succ_w i (by omega), w2, i2, Option.bind_fun_some, unS_S8, byOf_R, R_len, R_one, h0r, R_app, S8_R, beq0, bne0b, beq255, S8_nil]
  by_cases h : i + 1 < t.length
  · have e1' := drop_nb t i (by omega)
    have e2' := drop_nb t (i + 1) (by omega)
    rw [if_pos (by omega), if_pos (by omega)]
    by_cases hz : nb t i = 0
    · rw [if_neg (by simp [hz]), if_pos (by omega), e1', e2', dT, if_neg (show ¬ (nb t i ≠ 0) from fun hh => hh hz)]
      by_cases hc : nb t (i + 1) = 0
      · rw [if_pos hc, if_pos hc, if_pos (by omega)]
        have := S8_drop t (i + 2)
        rw [S8_size] at this
        simp only [this, List.append_nil]
      · rw [if_neg hc, if_neg hc]
        by_cases h5 : nb t (i + 1) = 255
        · rw [if_pos h5, if_pos h5, room5 (by simp; omega), cond_true]
          rw [ih (S8 t, ((i + 2 : Nat) : Int), R (out ++ [0])) ⟨t, i + 2, _, hb, by omega, by simp; omega, rfl⟩ (by simp only [S8_size, Int.toNat_natCast]; omega)]
          simp only [f65L, Int.toNat_natCast, unS_S8, byOf_R]
          cases dT (t.drop (i + 1 + 1)) with
          | none => rfl
          | some o => cases o with
            | none => rfl
            | some p => simp
        · rw [if_neg h5, if_neg h5]
    · rw [if_pos (by simpa using hz), if_pos (by omega), room5 (by simp; omega), cond_true, e1', e2', dT, if_pos hz, ← e2']
      rw [ih (S8 t, ((i + 1 : Nat) : Int), R (out ++ [nb t i])) ⟨t, i + 1, _, hb, by omega, by simp; omega, rfl⟩ (by simp only [S8_size, Int.toNat_natCast]; omega)]
      simp only [f65L, Int.toNat_natCast, unS_S8, byOf_R]
      cases dT (t.drop (i + 1)) with
      | none => rfl
      | some o => cases o with
        | none => rfl
        | some p => simp
  · rw [if_neg (by omega)]
    by_cases h' : i < t.length
    · rw [drop_nb t i h', List.drop_of_length_le (by omega)]
      simp [dT]
    · rw [List.drop_of_length_le (by omega)]
      simp [dT]
def pB (s : ByteArray) : Prop := s.size ≤ 20000
def f65 (s : ByteArray) : o65 := match (dT (unS s)).join with
  | none => (S8 [], S8 [], false)
  | some p => (S8 p.1, S8 p.2, true)
theorem s65 : Sd65 (prt pB f65) := by
  refine of_prt (ok65 _ s65L) ?_
  intro s hs
  obtain ⟨t, rfl⟩ := ex_S8 s
  have hl : t.length ≤ 20000 := by have : (S8 t).size ≤ 20000 := hs; rwa [S8_size] at this
  unfold t65
  have e : prt p65L f65L (S8 t, (0 : Int), ([] : Rows)) = some (f65L (S8 t, (0 : Int), R [])) := prt_eq (by exact ⟨t, 0, [], hl, by omega, by simp, rfl⟩)
  simp only [sh0_eq, e, Option.bind_some, f65L, f65, unS_S8, byOf_R, Int.toNat_zero, List.drop_zero, List.nil_append]
  cases dT t with
  | none => rfl
  | some o => cases o <;> rfl
theorem e65 (t : List By) (h : t.length ≤ 20000) : prt pB f65 (S8 t) = some (match (dT t).join with | none => (S8 [], S8 [], false) | some p => (S8 p.1, S8 p.2, true)) := by
  rw [prt_eq (by show (S8 t).size ≤ 20000; rw [S8_size]; exact h)]
  simp only [f65, unS_S8]

end Go.Proofs.Val
