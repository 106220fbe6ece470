/- Values: the reference's byte form, decoding; the law about encoding. -/
import Derived.Test.YtfnehcadocfmoaaDoorQ7
set_option linter.unusedVariables false
set_option linter.unusedSimpArgs false

namespace Go.Proofs.Val
open Go Go.Ev Go.Proofs.VaG

/-! ### the reference's EncodeRow -/
theorem wrapf (m k : Nat) (hk : 0 < k) : IntKind.u8.wrap (Int.fdiv (m : Int) (k : Int)) = ((BitVec.ofNat 8 (m / k)).toNat : Int) := by
  rw [Int.fdiv_eq_ediv_of_nonneg _ (Int.natCast_nonneg _), ← Int.natCast_ediv, wrap_u8, BitVec.toNat_ofNat]
  omega
def p34c (a : iL34_14) : Prop := ∃ (x1 : Rows) (x2 x5 x6 : Int) (i : Nat) (out t : List By), t.length ≤ 10000 ∧ i ≤ t.length ∧ out.length ≤ 900000 + 2 * i ∧ a = (x1, x2, (i : Int), R out, x5, x6, S8 t)
def f34c (a : iL34_14) : oL34_14 := (a.1, a.2.1, R (byOf a.2.2.2.1 ++ es ((unS a.2.2.2.2.2.2).drop a.2.2.1.toNat)))
theorem s34c : SdL34_14 (prt p34c f34c) := by
  refine of_iterL (step := fun l a => u34_14 sh0 l a.1 a.2.1 a.2.2.1 a.2.2.2.1 a.2.2.2.2.1 a.2.2.2.2.2.1 a.2.2.2.2.2.2 some) okL34_14 (fun a => a.2.2.2.2.2.2.size - a.2.2.1.toNat) ?_
  rintro F _ ⟨x1, x2, x5, x6, i, out, t, hb, hi, ho, rfl⟩ ih
  unfold u34_14
  have h255 : ([[DL.int .u8 255]] : Rows) = R [255] := rfl
  simp only [sh0_eq, cond_dec, f34c, Int.toNat_natCast, byOf_R, R_len, S8_get, S8_size, unS_S8, succ_w i (by omega), Option.bind_fun_some, R_one, h255, R_app, beq0]
  by_cases h : i < t.length
  · have hF : ∀ o, o.length ≤ 2 → F (x1, x2, ((i + 1 : Nat) : Int), R (out ++ o), x5, x6, S8 t) = some (x1, x2, R (out ++ o ++ es (t.drop (i + 1)))) := fun o hl => by
      rw [ih (x1, x2, ((i + 1 : Nat) : Int), R (out ++ o), x5, x6, S8 t) ⟨x1, x2, x5, x6, i + 1, out ++ o, t, hb, by omega, by simp; omega, rfl⟩ (by simp only [S8_size, Int.toNat_natCast]; omega)]
      simp only [f34c, byOf_R, Int.toNat_natCast, unS_S8]
    have hq : es (nb t i :: t.drop (i + 1)) = e1 (nb t i) ++ es (t.drop (i + 1)) := by simp [es]
    rw [if_pos (by omega), if_pos (by omega), if_pos (by omega), drop_nb t i h, room5 (by simp; omega), cond_true, hq]
    by_cases h0 : nb t i = 0
    · have e : e1 (nb t i) = [nb t i, 255] := by unfold e1; rw [if_pos h0, h0]
      rw [if_pos h0, room5 (by simp; omega), cond_true, e, List.append_assoc, show ([nb t i] ++ [255] : List By) = [nb t i, 255] from rfl, hF _ (by simp), List.append_assoc]
    · have e : e1 (nb t i) = [nb t i] := by unfold e1; rw [if_neg h0]
      rw [if_neg h0, e, hF _ (by simp), List.append_assoc]
  · rw [if_neg (by omega), List.drop_of_length_le (by omega)]
    simp [es]

def p34L (a : iL34_3) : Prop := ∃ (vs : List V) (i : Nat) (out : List By), vs.length ≤ 1000 ∧ i ≤ vs.length ∧ out.length ≤ 70 * i ∧ a = (VR vs, (i : Int), R out)
def f34L (a : iL34_3) : oL34_3 := R (byOf a.2.2 ++ enc ((unV a.1).drop a.2.1.toNat))
theorem s34L : SdL34_3 (prt p34L f34L) := by
  refine of_iterL (step := fun l a => u34_3 sh0 _ l _ a.1 a.2.1 a.2.2 some) (fun l hl => okL34_3 _ l _ s21 hl s34c) (fun a => a.1.length - a.2.1.toNat) ?_
  rintro F _ ⟨vs, i, out, hb, hi, ho, rfl⟩ ih
  unfold u34_3
  have h3 : ([[DL.int .u8 3]] : Rows) = R [3] := rfl
  have h1 : ([[DL.int .u8 1]] : Rows) = R [1] := rfl
  have h00 : ([[DL.int .u8 0], [DL.int .u8 0]] : Rows) = R [0, 0] := rfl
  simp only [sh0_eq, cond_dec, f34L, Int.toNat_natCast, byOf_R, R_len, VR_len, e20c, succ_w i (by omega), Option.bind_fun_some, Option.bind_some, h1, h3, h00, R_app, int_beq, v3, unV_VR]
  by_cases h : i < vs.length
  · have hev := eV_len (gv vs i)
    have hF : ∀ o, o = eV (gv vs i) → F (VR vs, ((i + 1 : Nat) : Int), R (out ++ o)) = some (R (out ++ enc (vs.drop i))) := fun o he => by
      subst he
      rw [ih (VR vs, ((i + 1 : Nat) : Int), R (out ++ eV (gv vs i))) ⟨vs, i + 1, _, hb, by omega, by simp; omega, rfl⟩ (by simp only [VR_len, Int.toNat_natCast]; omega)]
      simp only [f34L, byOf_R, Int.toNat_natCast, unV_VR]
      rw [drop_gv vs i h]
      simp [enc]
    rw [if_pos (by omega), if_pos (by omega)]
    rcases cl_cases (gv vs i) with ⟨hk, _⟩ | ⟨hk, hn, ht⟩ | ⟨hk, hn, hl⟩
    · rw [hk, if_neg (by omega), if_neg (by omega), room5 (by simp; omega), cond_true]
      exact hF [1] (by unfold eV; rw [hk]; rfl)
    · have hn' : -4294967296 ≤ (cl (gv vs i)).n ∧ (cl (gv vs i)).n ≤ 4294967296 := by simpa [inr] using hn
      obtain ⟨m, hm⟩ := Int.eq_ofNat_of_zero_le (show 0 ≤ (cl (gv vs i)).n + 4294967296 by omega)
      have hw : IntKind.i64.wrap ((cl (gv vs i)).n + 4294967296) = (m : Int) := by rw [wrap_i64 (by omega) (by omega)]; omega
      have w4 : IntKind.u8.wrap (Int.fdiv (m : Int) 4294967296) = ((BitVec.ofNat 8 (m / 2 ^ 32)).toNat : Int) := wrapf m (2 ^ 32) (by decide)
      have w3 : IntKind.u8.wrap (Int.fdiv (m : Int) 16777216) = ((BitVec.ofNat 8 (m / 2 ^ 24)).toNat : Int) := wrapf m (2 ^ 24) (by decide)
      have w2 : IntKind.u8.wrap (Int.fdiv (m : Int) 65536) = ((BitVec.ofNat 8 (m / 2 ^ 16)).toNat : Int) := wrapf m (2 ^ 16) (by decide)
      have w1 : IntKind.u8.wrap (Int.fdiv (m : Int) 256) = ((BitVec.ofNat 8 (m / 2 ^ 8)).toNat : Int) := wrapf m (2 ^ 8) (by decide)
      have w0 : IntKind.u8.wrap (m : Int) = ((BitVec.ofNat 8 m).toNat : Int) := by rw [wrap_u8, BitVec.toNat_ofNat]; omega
      rw [hk, if_pos rfl, hw, w4, w3, w2, w1, w0]
      have hr : ([[DL.int .u8 2], [DL.int .u8 ((BitVec.ofNat 8 (m / 2 ^ 32)).toNat : Int)], [DL.int .u8 ((BitVec.ofNat 8 (m / 2 ^ 24)).toNat : Int)], [DL.int .u8 ((BitVec.ofNat 8 (m / 2 ^ 16)).toNat : Int)], [DL.int .u8 ((BitVec.ofNat 8 (m / 2 ^ 8)).toNat : Int)], [DL.int .u8 ((BitVec.ofNat 8 m).toNat : Int)]] : Rows) = R (2 :: five m) := rfl
      rw [hr, R_len, R_app, room5 (by simp [five]; omega), cond_true]
      exact hF _ (by unfold eV; rw [hk, if_pos rfl, hm, Int.toNat_natCast])
    · have hes := es_len (cl (gv vs i)).t
      have e : prt p34c f34c (VR vs, (i : Int), (0 : Int), R (out ++ [3]), (2 : Int), (cl (gv vs i)).n, S8 (cl (gv vs i)).t) = some (VR vs, (i : Int), R (out ++ [3] ++ es (cl (gv vs i)).t)) := by
        rw [prt_eq (by exact ⟨VR vs, _, _, _, 0, out ++ [3], _, by omega, by omega, by simp; omega, rfl⟩)]
        simp only [f34c, byOf_R, Int.toNat_zero, List.drop_zero, unS_S8]
      rw [hk, if_neg (by omega), if_pos rfl, room5 (by simp; omega), cond_true, e]
      simp only [Option.bind_some, succ_w i (by omega), R_len, R_app]
      rw [room5 (by simp; omega), cond_true, List.append_assoc, List.append_assoc]
      exact hF _ (by unfold eV; rw [hk, if_neg (by omega), if_pos rfl]; simp)
  · rw [if_neg (by omega), List.drop_of_length_le (by omega)]
    simp [enc]
theorem s34 : Sd34 (prt pE f33) := by
  refine of_prt (ok34 _ s34L) ?_
  rintro _ ⟨vs, rfl, hb⟩
  unfold t34
  have e : prt p34L f34L (VR vs, (0 : Int), ([] : Rows)) = some (R (enc vs)) := by
    rw [prt_eq (by exact ⟨vs, 0, [], hb, by omega, by simp, rfl⟩)]
    simp [f34L, unV_VR, byOf]
  simp only [sh0_eq, e, Option.bind_some, S8_R, f33, unV_VR]

/-! ### the reference's CleanRow -/
def p36L (a : iL36_3) : Prop := ∃ (vs out : List V) (i : Nat), vs.length ≤ 1000 ∧ i ≤ vs.length ∧ out.length ≤ i ∧ a = (VR vs, (i : Int), VR out)
def f36L (a : iL36_3) : oL36_3 := VR (unV a.2.2 ++ ((unV a.1).drop a.2.1.toNat).map cl)
theorem s36L : SdL36_3 (prt p36L f36L) := by
  refine of_iterL (step := fun l a => u36_3 sh0 _ l a.1 a.2.1 a.2.2 some) (fun l hl => okL36_3 _ l s21 hl) (fun a => a.1.length - a.2.1.toNat) ?_
  rintro F _ ⟨vs, out, i, hb, hi, ho, rfl⟩ ih
  unfold u36_3
  simp only [sh0_eq, cond_dec, f36L, Int.toNat_natCast, VR_len, e20c, succ_w i (by omega), Option.bind_fun_some, Option.bind_some, unV_VR]
  by_cases h : i < vs.length
  · have hrow : ([[DL.int .i64 (v3 (cl (gv vs i))).1, DL.int .i64 (v3 (cl (gv vs i))).2.1, DL.str (v3 (cl (gv vs i))).2.2]] : Rows) = VR [cl (gv vs i)] := rfl
    rw [if_pos (by omega), if_pos (by omega), hrow, VR_len, VR_app, room23 (by simp; omega), cond_true]
    rw [ih (VR vs, ((i + 1 : Nat) : Int), VR (out ++ [cl (gv vs i)])) ⟨vs, _, i + 1, hb, by omega, by simp; omega, rfl⟩ (by simp only [VR_len, Int.toNat_natCast]; omega)]
    simp only [f36L, Int.toNat_natCast, unV_VR]
    rw [drop_gv vs i h]
    simp
  · rw [if_neg (by omega), List.drop_of_length_le (by omega)]
    simp
theorem s36 : Sd36 (prt pE fun a => VR ((unV a).map cl)) := by
  refine of_prt (ok36 _ s36L) ?_
  rintro _ ⟨vs, rfl, hb⟩
  unfold t36
  have e : prt p36L f36L (VR vs, (0 : Int), ([] : Rows)) = some (VR (vs.map cl)) := by
    rw [prt_eq (by exact ⟨vs, [], 0, hb, by omega, by simp, rfl⟩)]
    show some (VR (([] : List V) ++ ((unV (VR vs)).drop 0).map cl)) = _
    rw [unV_VR]; simp
  simp only [sh0_eq, e, Option.bind_some, unV_VR]
theorem e36 (vs : List V) (h : vs.length ≤ 1000) : prt pE (fun a => VR ((unV a).map cl)) (VR vs) = some (VR (vs.map cl)) := by
  rw [prt_eq (by exact ⟨vs, rfl, h⟩)]; simp [unV_VR]

/-! ### decode -/
theorem or256 (m : Nat) (b : By) (hm : m < 2 ^ 48) : IntKind.i64.wrap ((BitVec.toNat (BitVec.ofInt 64 (IntKind.i64.wrap ((m : Int) * 256)) ||| BitVec.ofInt 64 (IntKind.i64.wrap (b.toNat : Int))) : Nat) : Int) = ((m * 256 + b.toNat : Nat) : Int) := by
  have hb := b.isLt
  rw [wrap_i64 (n := (m : Int) * 256) (by omega) (by omega), wrap_i64 (n := (b.toNat : Int)) (by omega) (by omega)]
  have e1 : ((m : Int) * 256) = ((m * 256 : Nat) : Int) := by omega
  rw [e1, BitVec.ofInt_natCast, BitVec.ofInt_natCast, BitVec.toNat_or, BitVec.toNat_ofNat, BitVec.toNat_ofNat, Nat.mod_eq_of_lt (by omega), Nat.mod_eq_of_lt (by omega)]
  have : m * 256 ||| b.toNat = m * 256 + b.toNat := by
    rw [show m * 256 = m <<< 8 by rw [Nat.shiftLeft_eq], Nat.shiftLeft_add_eq_or_of_lt hb]
  rw [this, wrap_i64 (by omega) (by omega)]
def natF (m : Nat) (t : List By) : Nat := t.foldl (fun a b => a * 256 + b.toNat) m
theorem natF_lt (t : List By) : ∀ m, natF m t < (m + 1) * 256 ^ t.length := by
  induction t with
  | nil => intro m; simp [natF]
  | cons b t ih =>
    intro m
    have hb := b.isLt
    have := ih (m * 256 + b.toNat)
    show natF (m * 256 + b.toNat) t < _
    refine Nat.lt_of_lt_of_le this ?_
    rw [List.length_cons, Nat.pow_succ, Nat.mul_comm (256 ^ t.length) 256, ← Nat.mul_assoc]
    exact Nat.mul_le_mul_right _ (by omega)
theorem natB_lt (t : List By) (h : t.length = 5) : natB t < 2 ^ 40 := by
  have := natF_lt t 0
  rw [h] at this
  exact this
def p52L (a : iL52_9) : Prop := ∃ (s s' : ByteArray) (m i : Nat) (x5 x6 : Int) (t : List By), t.length = 5 ∧ i ≤ 5 ∧ m < 256 ^ i ∧ a = (s, (m : Int), (5 : Int), (i : Int), x5, x6, s', R t)
def f52L (a : iL52_9) : oL52_9 := (a.1, (natF a.2.1.toNat ((byOf a.2.2.2.2.2.2.2).drop a.2.2.2.1.toNat) : Int), a.2.2.2.2.1, a.2.2.2.2.2.1, a.2.2.2.2.2.2.1)
theorem s52L : SdL52_9 (prt p52L f52L) := by
  refine of_iterL (step := fun l a => u52_9 sh0 l a.1 a.2.1 a.2.2.1 a.2.2.2.1 a.2.2.2.2.1 a.2.2.2.2.2.1 a.2.2.2.2.2.2.1 a.2.2.2.2.2.2.2 some) okL52_9 (fun a => 5 - a.2.2.2.1.toNat) ?_
  rintro F _ ⟨s, s', m, i, x5, x6, t, hb, hi, hm, rfl⟩ ih
  unfold u52_9
  simp only [sh0_eq, cond_dec, f52L, Int.toNat_natCast, byOf_R, R_len, cR, succ_w i (by omega), Option.bind_fun_some]
  by_cases h : i < 5
  · have hm2 : m < 2 ^ 40 := Nat.lt_of_lt_of_le hm (by
      have := Nat.pow_le_pow_right (show 0 < 256 by omega) hi
      exact this)
    have hb8 := (nb t i).isLt
    rw [if_pos (by omega), if_pos (by omega), if_pos (by omega), or256 m (nb t i) (by omega)]
    rw [ih (s, ((m * 256 + (nb t i).toNat : Nat) : Int), (5 : Int), ((i + 1 : Nat) : Int), x5, x6, s', R t) ⟨s, s', _, i + 1, x5, x6, t, hb, by omega, by rw [Nat.pow_succ]; omega, rfl⟩ (by simp only [Int.toNat_natCast]; omega)]
    simp only [f52L, Int.toNat_natCast, byOf_R]
    rw [drop_nb t i (by omega)]
    rfl
  · rw [if_neg (by omega), List.drop_of_length_le (by omega)]
    rfl
def f52' (t : List By) : o52 := match dec1 t with
  | some (v, r) => (v.k, v.n, S8 v.t, S8 r, true)
  | none => (if t.headD 0 = 3 then 2 else 0, 0, S8 [], S8 [], false)
def f52 (s : ByteArray) : o52 := f52' (unS s)
def p52 (s : ByteArray) : Prop := ∃ (b : By) (r : List By), r.length ≤ 20000 ∧ s = S8 (b :: r)
theorem nb_cons (b : By) (r : List By) : nb (b :: r) 0 = b := rfl
theorem beqk (b : By) (k : Nat) (hk : k < 256) : (((b.toNat : Nat) : Int) == (k : Int)) = decide (b = BitVec.ofNat 8 k) := by
  rw [int_beq]
  refine decide_eq_decide.2 ⟨fun h => ?_, fun h => ?_⟩
  · apply BitVec.eq_of_toNat_eq
    rw [BitVec.toNat_ofNat]; omega
  · rw [h, BitVec.toNat_ofNat]; omega
theorem s52 : Sd52 (prt p52 f52) := by
  refine of_prt (ok52 _ _ s65 s52L) ?_
  rintro _ ⟨b, r, hl, rfl⟩
  unfold t52
  have k1 : (((b.toNat : Nat) : Int) == 1) = decide (b = 1) := beqk b 1 (by omega)
  have k2 : (((b.toNat : Nat) : Int) == 2) = decide (b = 2) := beqk b 2 (by omega)
  have k3 : (((b.toNat : Nat) : Int) == 3) = decide (b = 3) := beqk b 3 (by omega)
  have d1 := S8_drop (b :: r) 1
  rw [S8_size] at d1
  have d6 := S8_drop (b :: r) 6
  rw [S8_size] at d6
  have d5 := S8_ext (b :: r) 1 6
  simp only [List.drop_succ_cons, List.drop_zero, List.length_cons] at d1 d6 d5
  simp only [sh0_eq, cond_dec, S8_get, S8_size, nb_cons, k1, k2, k3, List.length_cons, S8_nil, f52, f52', unS_S8, List.headD_cons, dec1]
  rw [if_pos (by omega)]
  by_cases h1 : b = 1
  · rw [if_pos h1, if_pos h1, if_pos (by omega), d1]; rfl
  · rw [if_neg h1, if_neg h1]
    by_cases h2 : b = 2
    · rw [if_pos h2, if_pos h2]
      by_cases h5 : r.length < 5
      · rw [if_pos (by omega), if_pos h5]
        simp only [h2]; rfl
      · have ht : (r.take 5).length = 5 := by rw [List.length_take]; omega
        rw [if_neg (by omega), if_neg h5, if_pos (by omega), d5]
        simp only [S8_size, R_S8, R_len]
        rw [show (6 - 1 : Nat) = 5 from rfl, ht, room5 (by omega), cond_true]
        have e : prt p52L f52L (S8 (b :: r), (0 : Int), ((5 : Nat) : Int), (0 : Int), (0 : Int), (0 : Int), S8 [], R (r.take 5)) = some (S8 (b :: r), (natB (r.take 5) : Int), 0, 0, S8 []) := by
          rw [prt_eq (by exact ⟨_, _, 0, 0, _, _, _, ht, by omega, by simp, rfl⟩)]
          simp only [f52L, Int.toNat_zero, List.drop_zero, byOf_R]
          rfl
        rw [e, Option.bind_some]
        have hlt := natB_lt _ ht
        simp only [S8_size, List.length_cons]
        rw [if_pos (by omega), d6, wrap_i64 (by omega) (by omega)]
    · rw [if_neg h2, if_neg h2]
      by_cases h3 : b = 3
      · rw [if_pos h3, if_pos h3, if_pos h3, if_pos (by omega), d1, e65 r hl, Option.bind_some]
        cases (dT r).join <;> rfl
      · rw [if_neg h3, if_neg h3, if_neg h3]
theorem e52 (b : By) (r : List By) (h : r.length ≤ 20000) : prt p52 f52 (S8 (b :: r)) = some (f52' (b :: r)) := by
  rw [prt_eq (by exact ⟨b, r, h, rfl⟩)]
  unfold f52; rw [unS_S8]

def p35L (a : iL35_2) : Prop := ∃ (t : List By) (out : List V), out.length + t.length ≤ 20000 ∧ a = (S8 t, VR out)
def f35L (a : iL35_2) : oL35_2 := if (decP (unS a.1).length (unS a.1)).2 then .inr (VR (unV a.2 ++ (decP (unS a.1).length (unS a.1)).1)) else .inl (1, [], VR (unV a.2 ++ (decP (unS a.1).length (unS a.1)).1))
theorem s35L : SdL35_2 (prt p35L f35L) := by
  refine of_iterL (step := fun l a => u35_2 sh0 _ l a.1 a.2 some) (fun l hl => okL35_2 _ l s52 hl) (fun a => a.1.size) ?_
  rintro F _ ⟨t, out, hb, rfl⟩ ih
  unfold u35_2
  simp only [sh0_eq, S8_nil, strEq_S8, f35L, unS_S8, unV_VR, Option.bind_fun_some, VR_len]
  cases t with
  | nil => simp [decP]
  | cons b r =>
    rw [decide_eq_false (by simp), Bool.not_false, cond_true, e52 b r (by simp only [List.length_cons] at hb; omega), Option.bind_some]
    have hd : decP (b :: r).length (b :: r) = match dec1 (b :: r) with | none => ([], false) | some (v, r') => (v :: (decP r.length r').1, (decP r.length r').2) := rfl
    cases h1 : dec1 (b :: r) with
    | none =>
      rw [h1] at hd
      rw [hd]
      simp only [f52', h1, Bool.not_false, cond_true, List.append_nil, if_neg Bool.false_ne_true]
    | some p =>
      obtain ⟨v, r'⟩ := p
      have hlt := dec1_lt _ _ _ h1
      simp only [List.length_cons] at hlt hb
      rw [h1] at hd
      have hm : decP r.length r' = decP r'.length r' := by
        have := decP_more r'.length (r.length - r'.length) r' (Nat.le_refl _)
        rwa [show r'.length + (r.length - r'.length) = r.length by omega] at this
      simp only [hm] at hd
      rw [hd]
      have hrow : ([[DL.int .i64 v.k, DL.int .i64 v.n, DL.str (S8 v.t)]] : Rows) = VR [v] := rfl
      simp only [f52', h1, Bool.not_true, cond_false, hrow, VR_len, VR_app]
      rw [room23 (by simp; omega), cond_true, ih (S8 r', VR (out ++ [v])) ⟨r', _, by simp; omega, rfl⟩ (by simp only [S8_size, List.length_cons]; omega)]
      simp only [f35L, unS_S8, unV_VR, List.append_assoc, List.singleton_append]
def f35 (s : ByteArray) : o35 := if (decP (unS s).length (unS s)).2 && okr (decP (unS s).length (unS s)).1 then (VR (decP (unS s).length (unS s)).1, 0) else ([], 1)
theorem decP_len : ∀ (n : Nat) (t : List By), (decP n t).1.length ≤ n
  | _, [] => by simp [decP]
  | 0, _ :: _ => by simp [decP]
  | n + 1, b :: t => by
    simp only [decP]
    cases dec1 (b :: t) with
    | none => simp
    | some p => have := decP_len n p.2; simp; omega
theorem s35 : Sd35 (prt pB f35) := by
  refine of_prt (ok35 _ _ s22 s35L) ?_
  intro s hs
  obtain ⟨t, rfl⟩ := ex_S8 s
  have hl : t.length ≤ 20000 := by have : (S8 t).size ≤ 20000 := hs; rwa [S8_size] at this
  unfold t35
  have e : prt p35L f35L (S8 t, ([] : Rows)) = some (f35L (S8 t, VR [])) := prt_eq (by exact ⟨t, [], by simp; omega, rfl⟩)
  have hd := decP_len t.length t
  simp only [sh0_eq, e, Option.bind_some, f35L, f35, unS_S8, unV_VR, List.nil_append]
  cases h2 : (decP t.length t).2 with
  | false => simp only [Bool.false_eq_true, if_false, two, Bool.false_and]
  | true =>
    simp only [if_true, two, Bool.true_and, e22 (decP t.length t).1 (by omega), Option.bind_some]
    cases okr (decP t.length t).1 <;> rfl
theorem e35 (t : List By) (h : t.length ≤ 20000) : prt pB f35 (S8 t) = some (if (decP t.length t).2 && okr (decP t.length t).1 then (VR (decP t.length t).1, 0) else ([], 1)) := by
  rw [prt_eq (by show (S8 t).size ≤ 20000; rw [S8_size]; exact h)]
  simp only [f35, unS_S8]

/-! ### the law -/
theorem s9 : Sd9 (prt (fun a => ∃ vs : List V, a = VR vs) fun _ => true) := by
  refine of_prt (ok9 _ _ _ _ _ _ _ s17 s14 s33 s34 s35 s36 s30) ?_
  rintro _ ⟨vs, rfl⟩
  unfold t9
  simp only [sh0_eq, e17, e14, Option.bind_some]
  cases hl : lng vs with
  | true => rfl
  | false =>
    have h40 := lng_no hl
    have hel := enc_len vs
    have hge := enc_ge vs
    have e34 : prt pE f33 (VR vs) = some (S8 (enc vs)) := e33 vs (by omega)
    have hall : (vs.map cl).all okv = true := by
      rw [List.all_eq_true]
      intro v hv
      obtain ⟨u, _, rfl⟩ := List.mem_map.1 hv
      exact okv_cl u
    have h35 : prt pB f35 (S8 (enc vs)) = some (if vs.length ≤ 16 then (VR (vs.map cl), 0) else ([], 1)) := by
      rw [e35 _ (by omega), decP_enc vs _ hge]
      unfold okr
      rw [hall, List.length_map]
      by_cases h : vs.length ≤ 16 <;> simp [h]
    simp only [cond_false, e34, Option.bind_some, strEq_S8, decide_true, Bool.not_true, h35, VR_len, cond_dec, int_beq]
    by_cases h : vs.length ≤ 16
    · rw [if_pos h, if_neg (by omega)]
      simp only [if_pos]
      rw [e36 vs (by omega)]
      simp only [Option.bind_some]
      rw [e30 _ _ (by rw [List.length_map]; omega) (by rw [List.length_map]; omega)]
      simp
    · rw [if_neg h, if_pos (by omega)]
      simp

end Go.Proofs.Val
