/- Values: bytes, texts, rows of values: plain laws. -/
import Derived.Test.YtfnehcadocfmoaaDoorE3
import Derived.Test.YtfnehcadocfmoaaDoorG2
set_option linter.unusedVariables false
set_option linter.unusedSimpArgs false

namespace Go.Proofs.Val
open Go Go.Ev

abbrev Rows := List (List DL)
abbrev By := BitVec 8
theorem sh0_eq {α R : Type} (x : α) (K : α → Option R) : (sh0 : Sh) x K = K x := rfl
theorem wrap_u8 (n : Int) : IntKind.u8.wrap n = n % 256 := by
  simp [IntKind.wrap, IntKind.bits, IntKind.signed]
theorem wrap_u64 (n : Int) : IntKind.u64.wrap n = n % 18446744073709551616 := by
  simp [IntKind.wrap, IntKind.bits, IntKind.signed]
theorem succ_w (n : Nat) (h : n < 2 ^ 62) : IntKind.i64.wrap ((n : Int) + 1) = ((n + 1 : Nat) : Int) := by
  rw [wrap_i64 (by omega) (by omega)]; omega

/-! ### Bytes -/
def bD (b : By) : List DL := [.int .u8 (b.toNat : Int)]
def R (bs : List By) : Rows := bs.map bD
def nb (bs : List By) (i : Nat) : By := bs.getD i 0
theorem R_len (bs : List By) : (R bs).length = bs.length := by simp [R]
theorem R_app (a b : List By) : R a ++ R b = R (a ++ b) := by simp [R]
theorem R_one (b : By) : ([[DL.int .u8 ((b.toNat : Nat) : Int)]] : Rows) = R [b] := rfl
theorem nb_lt {bs : List By} {i : Nat} (h : i < bs.length) : nb bs i = bs[i] := by
  unfold nb; rw [List.getD_eq_getElem?_getD, List.getElem?_eq_getElem h]; rfl
theorem drop_nb (bs : List By) (i : Nat) (h : i < bs.length) : bs.drop i = nb bs i :: bs.drop (i + 1) := by
  rw [List.drop_eq_getElem_cons h, nb_lt h]
theorem getD_map {α β : Type} (f : α → β) (l : List α) (i : Nat) (d : β) : (l.map f).getD i d = ((l[i]?).map f).getD d := by
  rw [List.getD_eq_getElem?_getD, List.getElem?_map]
theorem cR (bs : List By) (i : Nat) : (cellAt (R bs) i 0).getI = ((nb bs i).toNat : Int) := by
  unfold cellAt nb R
  rw [getD_map, List.getD_eq_getElem?_getD (l := bs)]
  cases bs[i]? <;> rfl
def byOf (rows : Rows) : List By := rows.map fun x => BitVec.ofInt 8 (x.headD default).getI
theorem byOf_R (bs : List By) : byOf (R bs) = bs := by
  unfold byOf R
  rw [List.map_map]
  conv => rhs; rw [← List.map_id bs]
  refine List.map_congr_left fun b _ => ?_
  simp [bD, DL.getI, BitVec.ofInt_natCast]
theorem room_of {P : Program} {e : TypeId} {b n : Nat} (h1 : rowOk P e = true) (h2 : P.bytesOf e = b) (h : n * b ≤ 100000000) : roomE P e n = true := by
  unfold roomE
  rw [h1, h2]
  simp; omega

/-! ### Texts -/
def S8 (bs : List By) : ByteArray := ⟨(bs.map UInt8.ofBitVec).toArray⟩
def unS (s : ByteArray) : List By := s.data.toList.map UInt8.toBitVec
theorem unS_S8 (bs : List By) : unS (S8 bs) = bs := by
  unfold unS S8
  rw [List.toList_toArray, List.map_map, show (UInt8.toBitVec ∘ UInt8.ofBitVec) = id from funext fun b => rfl, List.map_id]
theorem S8_unS (s : ByteArray) : S8 (unS s) = s := by
  unfold S8 unS
  rw [List.map_map, show (UInt8.ofBitVec ∘ UInt8.toBitVec) = id from funext fun b => rfl, List.map_id]
theorem S8_inj {a b : List By} (h : S8 a = S8 b) : a = b := by rw [← unS_S8 a, h, unS_S8]
theorem ex_S8 (s : ByteArray) : ∃ t, s = S8 t := ⟨unS s, (S8_unS s).symm⟩
theorem S8_size (a : List By) : (S8 a).size = a.length := by simp [S8, ByteArray.size]
theorem S8_app (a b : List By) : S8 a ++ S8 b = S8 (a ++ b) := by
  apply ByteArray.ext
  simp [S8, ByteArray.data_append]
theorem S8_R (bs : List By) : strOfBytes (R bs) = S8 bs := by
  unfold strOfBytes S8 R
  rw [List.map_map]
  congr 2
  refine List.map_congr_left fun b _ => ?_
  show UInt8.ofNat ((b.toNat : Int)).toNat = UInt8.ofBitVec b
  rw [Int.toNat_natCast]
  exact UInt8.toBitVec_inj.1 (by simp)
theorem R_S8 (bs : List By) : bytesOfStr (S8 bs) = R bs := by
  unfold bytesOfStr S8 R
  rw [List.toList_toArray, List.map_map]
  rfl
theorem S8_get (cs : List By) (i : Nat) : ((UInt8.toNat (List.getD (Array.toList (ByteArray.data (S8 cs))) i 0) : Nat) : Int) = ((nb cs i).toNat : Int) := by
  unfold nb
  simp only [S8, List.toList_toArray, List.getD_eq_getElem?_getD, List.getElem?_map]
  cases cs[i]? <;> rfl
theorem S8_list (a : List By) : (S8 a).toList = a.map UInt8.ofBitVec := by
  have : ∀ s : ByteArray, s.toList = s.data.toList := fun s => by
    have loop : ∀ (n i : Nat) (r : List UInt8), s.size - i = n → ByteArray.toList.loop s i r = r.reverse ++ s.data.toList.drop i := by
      intro n
      induction n with
      | zero =>
        intro i r h
        rw [ByteArray.toList.loop.eq_def, if_neg (by omega), List.drop_of_length_le (by rw [Array.length_toList]; have : s.data.size = s.size := rfl; omega), List.append_nil]
      | succ n ih =>
        intro i r h
        have hi : i < s.size := by omega
        have hd : i < s.data.toList.length := by rw [Array.length_toList]; exact hi
        rw [ByteArray.toList.loop.eq_def, if_pos hi, ih (i + 1) _ (by omega), List.drop_eq_getElem_cons hd]
        have hg : s.get! i = s.data.toList[i] := by
          show s.data[i]! = _
          rw [getElem!_pos s.data i hi]
          simp
        rw [hg]
        simp
    unfold ByteArray.toList
    rw [loop s.size 0 [] (by omega)]
    simp
  rw [this]
  simp [S8]
theorem strEq_S8 (a b : List By) : strEq (S8 a) (S8 b) = decide (a = b) := by
  unfold strEq
  rw [S8_list, S8_list]
  by_cases h : a = b
  · subst h; simp
  · rw [decide_eq_false h]
    refine beq_eq_false_iff_ne.2 fun e => h ?_
    have h2 := congrArg (fun l : List UInt8 => l.map UInt8.toBitVec) e
    simp only [List.map_map] at h2
    rw [show (UInt8.toBitVec ∘ UInt8.ofBitVec) = id from funext fun b => rfl, List.map_id, List.map_id] at h2
    exact h2
theorem S8_nil : ({ data := #[] } : ByteArray) = S8 [] := rfl
theorem strEq_nil (a : List By) : strEq (S8 a) { data := #[] } = decide (a = []) := by rw [S8_nil, strEq_S8]

/-! ### Values -/
structure V where
  k : Int
  n : Int
  t : List By
  deriving DecidableEq
def nv : V := ⟨0, 0, []⟩
abbrev V3 := Int × Int × ByteArray
def v3 (v : V) : V3 := (v.k, v.n, S8 v.t)
def ofV3 (x : V3) : V := ⟨x.1, x.2.1, unS x.2.2⟩
theorem ofV3_v3 (v : V) : ofV3 (v3 v) = v := by simp [ofV3, v3, unS_S8]
theorem v3_ofV3 (x : V3) : v3 (ofV3 x) = x := by simp [ofV3, v3, S8_unS]
theorem ex_V (x : V3) : ∃ v, x = v3 v := ⟨ofV3 x, (v3_ofV3 x).symm⟩
def vR (v : V) : List DL := [.int .i64 v.k, .int .i64 v.n, .str (S8 v.t)]
def VR (vs : List V) : Rows := vs.map vR
def gv (vs : List V) (i : Nat) : V := vs.getD i nv
theorem VR_len (vs : List V) : (VR vs).length = vs.length := by simp [VR]
theorem VR_app (a b : List V) : VR a ++ VR b = VR (a ++ b) := by simp [VR]
theorem gv_lt {vs : List V} {i : Nat} (h : i < vs.length) : gv vs i = vs[i] := by
  unfold gv; rw [List.getD_eq_getElem?_getD, List.getElem?_eq_getElem h]; rfl
theorem drop_gv (vs : List V) (i : Nat) (h : i < vs.length) : vs.drop i = gv vs i :: vs.drop (i + 1) := by
  rw [List.drop_eq_getElem_cons h, gv_lt h]
theorem cV0 (vs : List V) (i : Nat) : (cellAt (VR vs) i 0).getI = (gv vs i).k := by
  unfold cellAt gv VR
  rw [getD_map, List.getD_eq_getElem?_getD (l := vs)]
  cases vs[i]? <;> rfl
theorem cV1 (vs : List V) (i : Nat) : (cellAt (VR vs) i 1).getI = (gv vs i).n := by
  unfold cellAt gv VR
  rw [getD_map, List.getD_eq_getElem?_getD (l := vs)]
  cases vs[i]? <;> rfl
theorem cV2 (vs : List V) (i : Nat) : (cellAt (VR vs) i 2).getS = S8 (gv vs i).t := by
  unfold cellAt gv VR
  rw [getD_map, List.getD_eq_getElem?_getD (l := vs)]
  cases vs[i]? <;> rfl
def unV (r : Rows) : List V := r.map fun x => ⟨(x.getD 0 (.bool false)).getI, (x.getD 1 (.bool false)).getI, unS (x.getD 2 (.bool false)).getS⟩
theorem unV_VR (vs : List V) : unV (VR vs) = vs := by
  unfold unV VR
  rw [List.map_map]
  conv => rhs; rw [← List.map_id vs]
  refine List.map_congr_left fun v _ => ?_
  obtain ⟨k, n, t⟩ := v
  show V.mk k n (unS (S8 t)) = _
  rw [unS_S8]; rfl

/-- Valid values. -/
def inr (n : Int) : Bool := decide (-4294967296 ≤ n) && decide (n ≤ 4294967296)
def okv (v : V) : Bool :=
  if v.k = 0 then decide (v.n = 0) && decide (v.t = []) else if v.k = 1 then inr v.n && decide (v.t = []) else if v.k = 2 then decide (v.n = 0) && decide (v.t.length ≤ 32) else false
def cl (v : V) : V := if okv v then v else nv
theorem okv_nv : okv nv = true := by decide
theorem okv_cl (v : V) : okv (cl v) = true := by
  unfold cl; split
  · assumption
  · exact okv_nv
theorem cl_ok {v : V} (h : okv v = true) : cl v = v := by unfold cl; rw [if_pos h]
theorem cl_cl (v : V) : cl (cl v) = cl v := cl_ok (okv_cl v)

/-! ### Text forms -/
def plain (b : By) : Bool := decide (32 ≤ b.toNat) && (decide (b.toNat ≤ 126) && (decide (b.toNat ≠ 34) && decide (b.toNat ≠ 92)))
def tbl : List UInt8 := [48, 49, 50, 51, 52, 53, 54, 55, 56, 57, 97, 98, 99, 100, 101, 102]
def hB (n : Nat) : By := (tbl.getD n 0).toBitVec
theorem hB_toNat (n : Nat) : (((tbl.getD n 0).toNat : Nat) : Int) = ((hB n).toNat : Int) := rfl
def q1 (b : By) : List By := if plain b then [b] else [92, hB (b.toNat / 16), hB (b.toNat % 16)]
def qs (t : List By) : List By := t.flatMap q1
def quote (t : List By) : List By := 34 :: qs t ++ [34]
theorem q1_len (b : By) : (q1 b).length ≤ 3 := by unfold q1; split <;> simp
theorem qs_len (t : List By) : (qs t).length ≤ 3 * t.length := by
  induction t with
  | nil => simp [qs]
  | cons b r ih =>
    have := q1_len b
    simp only [qs, List.flatMap_cons, List.length_append, List.length_cons] at ih ⊢; omega
theorem low4 (b : By) : IntKind.u8.wrap (((BitVec.ofInt 8 ((b.toNat : Nat) : Int) &&& BitVec.ofInt 8 (15 : Int)).toNat : Nat) : Int) = ((b.toNat % 16 : Nat) : Int) := by
  rw [BitVec.ofInt_natCast, wrap_u8, BitVec.toNat_and, show (BitVec.ofInt 8 (15 : Int)).toNat = 2 ^ 4 - 1 from by decide, Nat.and_two_pow_sub_one_eq_mod, BitVec.toNat_ofNat]
  have := b.isLt
  omega
theorem hi4 (b : By) : Int.fdiv ((b.toNat : Nat) : Int) 16 = ((b.toNat / 16 : Nat) : Int) := by
  rw [Int.fdiv_eq_ediv_of_nonneg _ (by omega)]; omega

/-! ### Byte forms -/
def e1 (b : By) : List By := if b = 0 then [0, 255] else [b]
def es (t : List By) : List By := t.flatMap e1
def five (m : Nat) : List By := [BitVec.ofNat 8 (m / 2 ^ 32), BitVec.ofNat 8 (m / 2 ^ 24), BitVec.ofNat 8 (m / 2 ^ 16), BitVec.ofNat 8 (m / 2 ^ 8), BitVec.ofNat 8 m]
def eV (v : V) : List By := if (cl v).k = 1 then 2 :: five ((cl v).n + 4294967296).toNat else if (cl v).k = 2 then 3 :: es (cl v).t ++ [0, 0] else [1]
def enc (vs : List V) : List By := vs.flatMap eV
theorem e1_len (b : By) : (e1 b).length ≤ 2 := by unfold e1; split <;> simp
theorem es_len (t : List By) : (es t).length ≤ 2 * t.length := by
  induction t with
  | nil => simp [es]
  | cons b r ih =>
    have := e1_len b
    simp only [es, List.flatMap_cons, List.length_append, List.length_cons] at ih ⊢; omega
theorem cl_cases (v : V) : (cl v).k = 0 ∧ cl v = nv ∨ (cl v).k = 1 ∧ inr (cl v).n = true ∧ (cl v).t = [] ∨ (cl v).k = 2 ∧ (cl v).n = 0 ∧ (cl v).t.length ≤ 32 := by
  have h := okv_cl v
  generalize cl v = u at h
  obtain ⟨k, n, t⟩ := u
  unfold okv at h
  simp only at h ⊢
  split at h
  · rename_i hk
    simp only [Bool.and_eq_true, decide_eq_true_eq] at h
    exact .inl ⟨hk, by rw [hk, h.1, h.2]; rfl⟩
  · split at h
    · rename_i hk
      simp only [Bool.and_eq_true, decide_eq_true_eq] at h
      exact .inr (.inl ⟨hk, h.1, h.2⟩)
    · split at h
      · rename_i hk
        simp only [Bool.and_eq_true, decide_eq_true_eq] at h
        exact .inr (.inr ⟨hk, h.1, h.2⟩)
      · exact absurd h (by simp)
theorem eV_len (v : V) : (eV v).length ≤ 70 := by
  unfold eV
  split
  · simp [five]
  · split
    · rcases cl_cases v with ⟨h, _⟩ | ⟨h, _⟩ | ⟨_, _, h⟩
      · omega
      · omega
      · have := es_len (cl v).t
        simp; omega
    · simp
theorem enc_len (vs : List V) : (enc vs).length ≤ 70 * vs.length := by
  induction vs with
  | nil => simp [enc]
  | cons v r ih =>
    have := eV_len v
    simp only [enc, List.flatMap_cons, List.length_append, List.length_cons] at ih ⊢; omega

end Go.Proofs.Val

namespace Go.Proofs.Val
open Go Go.Ev Go.Proofs.VaG

theorem room5 {n : Nat} (h : n ≤ 1000000) : roomE Tryd.prog 5 n = true := room_of (b := 1) (by kernel_rfl) (by kernel_rfl) (by omega)
theorem room23 {n : Nat} (h : n ≤ 100000) : roomE Tryd.prog 23 n = true := room_of (b := 32) (by kernel_rfl) (by kernel_rfl) (by omega)

/-! Valid, Clean -/
theorem s45 : Sd45 (tot inr) := by
  refine of_tot ok45 ?_
  intro n
  unfold t45 inr
  rw [cond_dec]
  by_cases h : -4294967296 ≤ n
  · rw [if_pos h, decide_eq_true h]; rfl
  · rw [if_neg h, decide_eq_false h]; rfl
def f18 (x : V3) : Bool := okv (ofV3 x)
theorem f18_v (v : V) : f18 (v3 v) = okv v := by unfold f18; rw [ofV3_v3]
theorem int_beq (a b : Int) : (a == b) = decide (a = b) := by
  by_cases h : a = b
  · subst h; simp
  · rw [decide_eq_false h]; simpa using h
theorem s18 : Sd18 (tot f18) := by
  refine of_tot (ok18 _ s45) ?_
  intro x
  obtain ⟨v, rfl⟩ := ex_V x
  rw [f18_v]
  unfold t18
  simp only [v3, strEq_nil, sh0_eq, S8_size, int_beq, cond_dec, tot, Option.bind_some, okv]
  by_cases h0 : v.k = 0
  · simp only [if_pos h0]
    by_cases h1 : v.n = 0
    · simp [h1]
    · simp [h1]
  · simp only [if_neg h0]
    by_cases h1 : v.k = 1
    · simp only [if_pos h1]
      cases inr v.n <;> simp
    · simp only [if_neg h1]
      by_cases h2 : v.k = 2
      · simp only [if_pos h2]
        by_cases h3 : v.n = 0
        · rw [if_pos h3, decide_eq_true h3, Bool.true_and]
          exact congrArg some (decide_eq_decide.2 (by omega))
        · simp [h3]
      · simp only [if_neg h2]
theorem s19 : Sd19 (tot f18) := by
  refine of_tot ok19 ?_
  intro x
  obtain ⟨v, rfl⟩ := ex_V x
  rw [f18_v]
  unfold t19
  simp only [v3, strEq_nil, sh0_eq, S8_size, int_beq, cond_dec, okv]
  by_cases h0 : v.k = 0
  · simp only [if_pos h0]
    by_cases h1 : v.n = 0
    · simp [h1]
    · simp [h1]
  · simp only [if_neg h0]
    by_cases h1 : v.k = 1
    · simp only [if_pos h1, inr]
      by_cases h2 : -4294967296 ≤ v.n <;> by_cases h3 : v.n ≤ 4294967296 <;> simp [h2, h3]
    · simp only [if_neg h1]
      by_cases h2 : v.k = 2
      · simp only [if_pos h2]
        by_cases h3 : v.n = 0
        · rw [if_pos h3, decide_eq_true h3, Bool.true_and]
          exact congrArg some (decide_eq_decide.2 (by omega))
        · simp [h3]
      · simp only [if_neg h2]
def f20 (x : V3) : V3 := v3 (cl (ofV3 x))
theorem s20 : Sd20 (tot f20) := by
  refine of_tot (ok20 _ s18) ?_
  intro x
  obtain ⟨v, rfl⟩ := ex_V x
  have e : tot f18 (v.k, v.n, S8 v.t) = some (okv v) := congrArg some (f18_v v)
  have e2 : f20 (v3 v) = v3 (cl v) := by unfold f20; rw [ofV3_v3]
  rw [e2]
  unfold t20
  simp only [v3, e, Option.bind_some, cl]
  cases okv v <;> rfl
theorem s21 : Sd21 (tot f20) := by
  refine of_tot (ok21 _ s19) ?_
  intro x
  obtain ⟨v, rfl⟩ := ex_V x
  have e : tot f18 (v.k, v.n, S8 v.t) = some (okv v) := congrArg some (f18_v v)
  have e2 : f20 (v3 v) = v3 (cl v) := by unfold f20; rw [ofV3_v3]
  rw [e2]
  unfold t21
  simp only [v3, e, Option.bind_some, cl]
  cases okv v <;> rfl
theorem e18 (v : V) : tot f18 (v3 v) = some (okv v) := by simp [tot, f18, ofV3_v3]
theorem e20 (v : V) : tot f20 (v3 v) = some (v3 (cl v)) := by simp [tot, f20, ofV3_v3]
theorem e18c (vs : List V) (i : Nat) : tot f18 ((cellAt (VR vs) i 0).getI, (cellAt (VR vs) i 1).getI, (cellAt (VR vs) i 2).getS) = some (okv (gv vs i)) := by
  rw [cV0, cV1, cV2]; exact e18 _
theorem e20c (vs : List V) (i : Nat) : tot f20 ((cellAt (VR vs) i 0).getI, (cellAt (VR vs) i 1).getI, (cellAt (VR vs) i 2).getS) = some (v3 (cl (gv vs i))) := by
  rw [cV0, cV1, cV2]; exact e20 _

/-! ValidRow -/
def okr (vs : List V) : Bool := vs.all okv && decide (vs.length ≤ 16)
def p22L (a : iL22_2) : Prop := ∃ (x : Rows) (vs : List V) (i : Nat), vs.length ≤ 1000000 ∧ i ≤ vs.length ∧ a = (x, VR vs, (vs.length : Int), (i : Int))
def f22L (a : iL22_2) : oL22_2 := if ((unV a.2.1).drop a.2.2.2.toNat).all okv then .inr a.1 else .inl (a.1, false)
theorem s22L : SdL22_2 (prt p22L f22L) := by
  refine of_iterL (step := fun l a => u22_2 sh0 _ l a.1 a.2.1 a.2.2.1 a.2.2.2 some) (fun l => okL22_2 _ l s18) (fun a => a.2.1.length - a.2.2.2.toNat) ?_
  rintro F _ ⟨x, vs, i, hb, hi, rfl⟩ ih
  unfold u22_2
  simp only [cond_dec, f22L, Int.toNat_natCast, unV_VR, VR_len, succ_w i (by omega), Option.bind_fun_some, e18c]
  by_cases h : i < vs.length
  · rw [if_pos (by omega), if_pos (by omega), drop_gv vs i h, Option.bind_some, List.all_cons]
    cases okv (gv vs i) with
    | true =>
      simp only [Bool.not_true, cond_false, Bool.true_and]
      rw [ih (x, VR vs, (vs.length : Int), ((i + 1 : Nat) : Int)) ⟨x, vs, i + 1, hb, by omega, rfl⟩ (by simp only [VR_len, Int.toNat_natCast]; omega)]
      simp only [f22L, unV_VR, Int.toNat_natCast]
    | false => simp
  · rw [if_neg (by omega), List.drop_of_length_le (by omega)]
    simp
def pR (a : Rows) : Prop := ∃ vs : List V, a = VR vs ∧ vs.length ≤ 1000000
def f22 (a : Rows) : Bool := okr (unV a)
theorem s22 : Sd22 (prt pR f22) := by
  refine of_prt (ok22 _ s22L) ?_
  rintro _ ⟨vs, rfl, hb⟩
  unfold t22
  have e : prt p22L f22L (VR vs, VR vs, (vs.length : Int), (0 : Int)) = some (if vs.all okv then .inr (VR vs) else .inl (VR vs, false)) := by
    rw [prt_eq (by exact ⟨_, vs, 0, hb, by omega, rfl⟩)]
    simp [f22L, unV_VR]
  simp only [sh0_eq, VR_len, e, Option.bind_some, f22, unV_VR, okr]
  cases vs.all okv with
  | true =>
    simp only [if_true, two, VR_len, Bool.true_and, Option.some.injEq]
    exact decide_eq_decide.2 (by omega)
  | false => rfl
def p23L (a : iL23_4) : Prop := ∃ (vs : List V) (i : Nat), vs.length ≤ 1000000 ∧ i ≤ vs.length ∧ a = (VR vs, (i : Int))
def f23L (a : iL23_4) : oL23_4 := if ((unV a.1).drop a.2.toNat).all okv then .inr () else .inl false
theorem s23L : SdL23_4 (prt p23L f23L) := by
  refine of_iterL (step := fun l a => u23_4 sh0 _ l a.1 a.2 some) (fun l => okL23_4 _ l s19) (fun a => a.1.length - a.2.toNat) ?_
  rintro F _ ⟨vs, i, hb, hi, rfl⟩ ih
  unfold u23_4
  simp only [sh0_eq, cond_dec, f23L, Int.toNat_natCast, unV_VR, VR_len, succ_w i (by omega), Option.bind_fun_some, e18c]
  by_cases h : i < vs.length
  · rw [if_pos (by omega), if_pos (by omega), drop_gv vs i h, Option.bind_some, List.all_cons]
    cases okv (gv vs i) with
    | true =>
      simp only [Bool.not_true, cond_false, Bool.true_and]
      rw [ih (VR vs, ((i + 1 : Nat) : Int)) ⟨vs, i + 1, hb, by omega, rfl⟩ (by simp only [VR_len, Int.toNat_natCast]; omega)]
      simp only [f23L, unV_VR, Int.toNat_natCast]
    | false => simp
  · rw [if_neg (by omega), List.drop_of_length_le (by omega)]
    simp
theorem s23 : Sd23 (prt pR f22) := by
  refine of_prt (ok23 _ s23L) ?_
  rintro _ ⟨vs, rfl, hb⟩
  unfold t23
  have e : prt p23L f23L (VR vs, (0 : Int)) = some (if vs.all okv then .inr () else .inl false) := by
    rw [prt_eq (by exact ⟨vs, 0, hb, by omega, rfl⟩)]
    simp [f23L, unV_VR]
  simp only [sh0_eq, VR_len, e, Option.bind_some, f22, unV_VR, okr, cond_dec]
  by_cases h : (vs.length : Int) > 16
  · rw [if_pos h, decide_eq_false (by omega), Bool.and_false]
  · rw [if_neg h, decide_eq_true (by omega), Bool.and_true]
    cases vs.all okv <;> rfl
theorem e22 (vs : List V) (h : vs.length ≤ 1000000) : prt pR f22 (VR vs) = some (okr vs) := by
  rw [prt_eq (by exact ⟨vs, rfl, h⟩)]; simp [f22, unV_VR]

/-! Texts in quotes -/
def pC (a : Int) : Prop := ∃ b : By, a = (b.toNat : Int)
def f61 (a : Int) : Bool := plain (BitVec.ofInt 8 a)
theorem s61 : Sd61 (prt pC f61) := by
  refine of_prt ok61 ?_
  rintro _ ⟨b, rfl⟩
  unfold t61
  have hb : BitVec.ofInt 8 ((b.toNat : Nat) : Int) = b := by rw [BitVec.ofInt_natCast]; simp
  simp only [cond_dec, f61, hb, plain]
  by_cases h1 : 32 ≤ b.toNat
  · rw [if_pos (by omega), decide_eq_true h1]
    by_cases h2 : b.toNat ≤ 126
    · rw [if_pos (by omega), decide_eq_true h2]
      by_cases h3 : b.toNat = 34
      · simp [h3]
      · rw [show ((((b.toNat : Nat) : Int) != 34)) = true by simp; omega, cond_true]
        simp only [h3, ne_eq, not_false_eq_true, decide_true, Bool.true_and, Option.some.injEq]
        by_cases h4 : b.toNat = 92
        · simp [h4]
        · rw [decide_eq_true h4]; simp; omega
    · rw [if_neg (by omega), decide_eq_false h2]; simp
  · rw [if_neg (by omega), decide_eq_false h1]; simp
theorem e61 (b : By) : prt pC f61 ((b.toNat : Nat) : Int) = some (plain b) := by
  rw [prt_eq (by exact ⟨b, rfl⟩)]
  unfold f61
  rw [BitVec.ofInt_natCast]; simp

theorem esc_row (b : By) : ([[DL.int .u8 92], [DL.int .u8 (((tbl.getD (b.toNat / 16) 0).toNat : Nat) : Int)], [DL.int .u8 (((tbl.getD (b.toNat % 16) 0).toNat : Nat) : Int)]] : Rows) = R [92, hB (b.toNat / 16), hB (b.toNat % 16)] := rfl
def p42L (a : iL42_3) : Prop := ∃ (i : Nat) (out t : List By), t.length ≤ 10000 ∧ i ≤ t.length ∧ out.length ≤ 10 + 3 * i ∧ a = ((t.length : Int), (i : Int), R out, R t)
def f42L (a : iL42_3) : oL42_3 := R (byOf a.2.2.1 ++ qs ((byOf a.2.2.2).drop a.2.1.toNat))
theorem s42L : SdL42_3 (prt p42L f42L) := by
  refine of_iterL (step := fun l a => u42_3 sh0 _ l a.1 a.2.1 a.2.2.1 a.2.2.2 some) (fun l => okL42_3 _ l s61) (fun a => a.2.2.2.length - a.2.1.toNat) ?_
  rintro F _ ⟨i, out, t, hb, hi, ho, rfl⟩ ih
  unfold u42_3
  have htbl : ([48, 49, 50, 51, 52, 53, 54, 55, 56, 57, 97, 98, 99, 100, 101, 102] : List UInt8) = tbl := rfl
  simp only [sh0_eq, cond_dec, f42L, Int.toNat_natCast, byOf_R, R_len, cR, e61, succ_w i (by omega), Option.bind_fun_some, Option.bind_some, low4, hi4, htbl, esc_row, R_one, R_app]
  have hF : ∀ o, o.length ≤ 3 → F ((t.length : Int), ((i + 1 : Nat) : Int), R (out ++ o), R t) = some (R (out ++ o ++ qs (t.drop (i + 1)))) ∨ ¬ i < t.length := fun o hl => by
    by_cases h : i < t.length
    · left
      rw [ih ((t.length : Int), ((i + 1 : Nat) : Int), R (out ++ o), R t) ⟨i + 1, out ++ o, t, hb, by omega, by simp; omega, rfl⟩ (by simp only [R_len, Int.toNat_natCast]; omega)]
      simp only [f42L, byOf_R, Int.toNat_natCast]
    · exact .inr h
  by_cases h : i < t.length
  · have hlt := (nb t i).isLt
    rw [if_pos (by omega), if_pos (by omega), if_pos h, drop_nb t i h]
    have hq : qs (nb t i :: t.drop (i + 1)) = q1 (nb t i) ++ qs (t.drop (i + 1)) := by simp [qs]
    rw [hq]
    cases hp : plain (nb t i) with
    | true =>
      have e : q1 (nb t i) = [nb t i] := by unfold q1; rw [if_pos hp]
      rw [cond_true, room5 (by simp; omega), cond_true, e, (hF [nb t i] (by simp)).resolve_right (fun hn => hn h), List.append_assoc]
    | false =>
      have e : q1 (nb t i) = [92, hB ((nb t i).toNat / 16), hB ((nb t i).toNat % 16)] := by unfold q1; rw [hp]; rfl
      rw [cond_false, if_pos (by omega), if_pos (by omega), room5 (by simp; omega), cond_true, e, (hF _ (by simp)).resolve_right (fun hn => hn h), List.append_assoc]
  · rw [if_neg (by omega), List.drop_of_length_le (by omega)]
    simp [qs]
def pT (s : ByteArray) : Prop := s.size ≤ 10000
def f42 (s : ByteArray) : ByteArray := S8 (quote (unS s))
theorem s42 : Sd42 (prt pT f42) := by
  refine of_prt (ok42 _ s42L) ?_
  intro s hs
  obtain ⟨t, rfl⟩ := ex_S8 s
  have hs : t.length ≤ 10000 := by rw [← S8_size]; exact hs
  have hq := qs_len t
  unfold t42
  have e : prt p42L f42L ((t.length : Int), (0 : Int), R [34], R t) = some (R (34 :: qs t)) := by
    rw [prt_eq (by exact ⟨0, [34], t, hs, by omega, by simp, rfl⟩)]
    simp [f42L, byOf_R]
  have h34 : ([[DL.int .u8 34]] : Rows) = R [34] := rfl
  simp only [sh0_eq, S8_size, room5 (n := t.length) (by omega), cond_true, R_S8, R_len, h34, e, Option.bind_some, f42, unS_S8, quote]
  rw [room5 (by simp; omega), cond_true, R_app, S8_R]
theorem e42 (t : List By) (h : t.length ≤ 10000) : prt pT f42 (S8 t) = some (S8 (quote t)) := by
  rw [prt_eq (by show (S8 t).size ≤ 10000; rw [S8_size]; exact h)]
  simp [f42, unS_S8]

/-! Format, but for integers -/
def null : List By := [110, 117, 108, 108]
def p15 (x : V3) : Prop := (cl (ofV3 x)).k ≠ 1
def f15 (x : V3) : ByteArray := S8 (if (cl (ofV3 x)).k = 2 then quote (cl (ofV3 x)).t else null)
theorem s15 : Sd15 (prt p15 f15) := by
  refine of_prt (ok15 _ (fun _ => none) _ s20 (fun a b h => by simp at h) s42) ?_
  intro x hx
  obtain ⟨v, rfl⟩ := ex_V x
  unfold p15 at hx
  rw [ofV3_v3] at hx
  have e2 : f15 (v3 v) = S8 (if (cl v).k = 2 then quote (cl v).t else null) := by unfold f15; rw [ofV3_v3]
  have e0 : tot f20 (v.k, v.n, S8 v.t) = some (v3 (cl v)) := e20 v
  rw [e2]
  unfold t15
  simp only [v3, int_beq] at e0 ⊢
  simp only [e0, Option.bind_some, decide_eq_false hx, cond_false]
  rcases cl_cases v with ⟨h, _⟩ | ⟨h, _⟩ | ⟨h, _, hl⟩
  · rw [h]; rfl
  · exact absurd h hx
  · rw [h, if_pos rfl, decide_eq_true rfl, cond_true, e42 _ (by omega), Option.bind_some]

/-! EncodeRow -/
theorem wrap5 (m j : Nat) (hm : m < 2 ^ 40) (hj : j ≤ 4) : IntKind.u8.wrap (Int.fdiv (m : Int) ((2 : Int) ^ Min.min (8 * j) 64)) = ((BitVec.ofNat 8 (m / 2 ^ (8 * j))).toNat : Int) := by
  rw [Nat.min_eq_left (by omega), show ((2 : Int) ^ (8 * j)) = ((2 ^ (8 * j) : Nat) : Int) by simp, Int.fdiv_eq_ediv_of_nonneg _ (Int.natCast_nonneg _), ← Int.natCast_ediv, wrap_u8, BitVec.toNat_ofNat]
  omega
def fv (m : Nat) : Nat → List By
  | 0 => []
  | j + 1 => BitVec.ofNat 8 (m / 2 ^ (8 * j)) :: fv m j
theorem fv_len (m j : Nat) : (fv m j).length = j := by
  induction j with
  | zero => rfl
  | succ j ih => simp [fv, ih]
theorem five_fv (m : Nat) : five m = fv m 5 := by simp [five, fv]
def p33b (a : iL33_12) : Prop := ∃ (m j : Nat) (x3 : Rows) (x4 x5 : Int) (out : List By), m < 2 ^ 40 ∧ j ≤ 5 ∧ out.length + j ≤ 900000 ∧ a = ((m : Int), (j : Int) - 1, x3, x4, x5, R out)
def f33b (a : iL33_12) : oL33_12 := (a.2.2.1, a.2.2.2.1, a.2.2.2.2.1, R (byOf a.2.2.2.2.2 ++ fv a.1.toNat (a.2.1 + 1).toNat))
theorem s33b : SdL33_12 (prt p33b f33b) := by
  refine of_iterL (step := fun l a => u33_12 sh0 l a.1 a.2.1 a.2.2.1 a.2.2.2.1 a.2.2.2.2.1 a.2.2.2.2.2 some) okL33_12 (fun a => (a.2.1 + 1).toNat) ?_
  rintro F _ ⟨m, j, x3, x4, x5, out, hm, hj, ho, rfl⟩ ih
  unfold u33_12
  have hjt : ((j : Int) - 1 + 1).toNat = j := by omega
  simp only [sh0_eq, cond_dec, f33b, Int.toNat_natCast, byOf_R, R_len, hjt, Option.bind_fun_some]
  cases j with
  | zero => rw [if_neg (by omega)]; simp [fv]
  | succ j =>
    have hw : IntKind.i64.wrap (8 * (((j + 1 : Nat) : Int) - 1)) = ((8 * j : Nat) : Int) := by rw [wrap_i64 (by omega) (by omega)]; omega
    have hw2 : IntKind.i64.wrap (((j + 1 : Nat) : Int) - 1 - 1) = (j : Int) - 1 := by rw [wrap_i64 (by omega) (by omega)]; omega
    rw [if_pos (by omega), hw, if_pos (by omega), hw2, Int.toNat_natCast, wrap5 m j hm (by omega), R_one, R_app, R_len]
    rw [room5 (by simp; omega), cond_true, ih ((m : Int), (j : Int) - 1, x3, x4, x5, R (out ++ [BitVec.ofNat 8 (m / 2 ^ (8 * j))])) ⟨m, j, x3, x4, x5, _, hm, by omega, by simp; omega, rfl⟩ (by simp only; omega)]
    have hjt2 : ((j : Int) - 1 + 1).toNat = j := by omega
    simp only [f33b, byOf_R, Int.toNat_natCast, hjt2, fv, List.append_assoc, List.singleton_append]
theorem beq0 (b : By) : ((((b.toNat : Nat) : Int) == 0)) = decide (b = 0) := by
  rw [int_beq]
  refine decide_eq_decide.2 ⟨fun h => ?_, fun h => by subst h; rfl⟩
  apply BitVec.eq_of_toNat_eq
  show b.toNat = 0
  omega
def p33c (a : iL33_18) : Prop := ∃ (x1 : Rows) (x2 x3 : Int) (i : Nat) (out t : List By), t.length ≤ 10000 ∧ i ≤ t.length ∧ out.length ≤ 900000 + 2 * i ∧ a = (x1, x2, x3, (t.length : Int), (i : Int), R out, R t)
def f33c (a : iL33_18) : oL33_18 := (a.1, a.2.1, a.2.2.1, R (byOf a.2.2.2.2.2.1 ++ es ((byOf a.2.2.2.2.2.2).drop a.2.2.2.2.1.toNat)))
theorem s33c : SdL33_18 (prt p33c f33c) := by
  refine of_iterL (step := fun l a => u33_18 sh0 l a.1 a.2.1 a.2.2.1 a.2.2.2.1 a.2.2.2.2.1 a.2.2.2.2.2.1 a.2.2.2.2.2.2 some) okL33_18 (fun a => a.2.2.2.2.2.2.length - a.2.2.2.2.1.toNat) ?_
  rintro F _ ⟨x1, x2, x3, i, out, t, hb, hi, ho, rfl⟩ ih
  unfold u33_18
  have h255 : ([[DL.int .u8 255]] : Rows) = R [255] := rfl
  simp only [sh0_eq, cond_dec, f33c, Int.toNat_natCast, byOf_R, R_len, cR, succ_w i (by omega), Option.bind_fun_some, R_one, h255, R_app, beq0]
  by_cases h : i < t.length
  · have hF : ∀ o, o.length ≤ 2 → F (x1, x2, x3, (t.length : Int), ((i + 1 : Nat) : Int), R (out ++ o), R t) = some (x1, x2, x3, R (out ++ o ++ es (t.drop (i + 1)))) := fun o hl => by
      rw [ih (x1, x2, x3, (t.length : Int), ((i + 1 : Nat) : Int), R (out ++ o), R t) ⟨x1, x2, x3, i + 1, out ++ o, t, hb, by omega, by simp; omega, rfl⟩ (by simp only [R_len, Int.toNat_natCast]; omega)]
      simp only [f33c, byOf_R, Int.toNat_natCast]
    have hq : es (nb t i :: t.drop (i + 1)) = e1 (nb t i) ++ es (t.drop (i + 1)) := by simp [es]
    rw [if_pos (by omega), if_pos (by omega), if_pos h, drop_nb t i h, room5 (by simp; omega), cond_true, hq]
    by_cases h0 : nb t i = 0
    · have e : e1 (nb t i) = [nb t i, 255] := by unfold e1; rw [if_pos h0, h0]
      rw [if_pos h0, room5 (by simp; omega), cond_true, e, List.append_assoc, show ([nb t i] ++ [255] : List By) = [nb t i, 255] from rfl, hF _ (by simp), List.append_assoc]
    · have e : e1 (nb t i) = [nb t i] := by unfold e1; rw [if_neg h0]
      rw [if_neg h0, e, hF _ (by simp), List.append_assoc]
  · rw [if_neg (by omega), List.drop_of_length_le (by omega)]
    simp [es]

def p33L (a : iL33_3) : Prop := ∃ (vs : List V) (i : Nat) (out : List By), vs.length ≤ 1000 ∧ i ≤ vs.length ∧ out.length ≤ 70 * i ∧ a = (VR vs, (vs.length : Int), (i : Int), R out)
def f33L (a : iL33_3) : oL33_3 := R (byOf a.2.2.2 ++ enc ((unV a.1).drop a.2.2.1.toNat))
theorem s33L : SdL33_3 (prt p33L f33L) := by
  refine of_iterL (step := fun l a => u33_3 sh0 _ _ l _ a.1 a.2.1 a.2.2.1 a.2.2.2 some) (fun l hl => okL33_3 _ _ l _ s20 s33b hl s33c) (fun a => a.1.length - a.2.2.1.toNat) ?_
  rintro F _ ⟨vs, i, out, hb, hi, ho, rfl⟩ ih
  unfold u33_3
  have h2 : ([[DL.int .u8 2]] : Rows) = R [2] := rfl
  have h3 : ([[DL.int .u8 3]] : Rows) = R [3] := rfl
  have h1 : ([[DL.int .u8 1]] : Rows) = R [1] := rfl
  have h00 : ([[DL.int .u8 0], [DL.int .u8 0]] : Rows) = R [0, 0] := rfl
  simp only [sh0_eq, cond_dec, f33L, Int.toNat_natCast, byOf_R, R_len, VR_len, e20c, succ_w i (by omega), Option.bind_fun_some, Option.bind_some, h1, h2, h3, h00, R_app, int_beq, v3, unV_VR]
  by_cases h : i < vs.length
  · have hev := eV_len (gv vs i)
    have hF : ∀ o, o = eV (gv vs i) → F (VR vs, (vs.length : Int), ((i + 1 : Nat) : Int), R (out ++ o)) = some (R (out ++ enc (vs.drop i))) := fun o he => by
      subst he
      rw [ih (VR vs, (vs.length : Int), ((i + 1 : Nat) : Int), R (out ++ eV (gv vs i))) ⟨vs, i + 1, _, hb, by omega, by simp; omega, rfl⟩ (by simp only [VR_len, Int.toNat_natCast]; omega)]
      simp only [f33L, byOf_R, Int.toNat_natCast, unV_VR]
      rw [drop_gv vs i h]
      simp [enc]
    rw [if_pos (by omega), if_pos (by omega)]
    rcases cl_cases (gv vs i) with ⟨hk, _⟩ | ⟨hk, hn, ht⟩ | ⟨hk, hn, hl⟩
    · rw [hk, if_neg (by omega), if_neg (by omega), room5 (by simp; omega), cond_true]
      exact hF [1] (by unfold eV; rw [hk]; rfl)
    · have hn' : -4294967296 ≤ (cl (gv vs i)).n ∧ (cl (gv vs i)).n ≤ 4294967296 := by simpa [inr] using hn
      obtain ⟨m, hm⟩ := Int.eq_ofNat_of_zero_le (show 0 ≤ (cl (gv vs i)).n + 4294967296 by omega)
      have hm40 : m < 2 ^ 40 := by omega
      have hw : IntKind.u64.wrap (IntKind.i64.wrap ((cl (gv vs i)).n + 4294967296)) = (m : Int) := by rw [hm, wrap_i64 (by omega) (by omega), wrap_u64]; omega
      have e : prt p33b f33b ((m : Int), (4 : Int), VR vs, (vs.length : Int), (i : Int), R (out ++ [2])) = some (VR vs, (vs.length : Int), (i : Int), R (out ++ [2] ++ five m)) := by
        rw [prt_eq (by exact ⟨m, 5, VR vs, _, _, out ++ [2], hm40, by omega, by simp; omega, rfl⟩)]
        simp only [f33b, byOf_R, Int.toNat_natCast, five_fv]
        rfl
      rw [hk, if_pos rfl, room5 (by simp; omega), cond_true, hw, e]
      simp only [Option.bind_some, succ_w i (by omega)]
      rw [List.append_assoc]
      exact hF _ (by unfold eV; rw [hk, if_pos rfl, hm, Int.toNat_natCast]; rfl)
    · have hes := es_len (cl (gv vs i)).t
      have e : prt p33c f33c (VR vs, (vs.length : Int), (i : Int), ((cl (gv vs i)).t.length : Int), (0 : Int), R (out ++ [3]), R (cl (gv vs i)).t) = some (VR vs, (vs.length : Int), (i : Int), R (out ++ [3] ++ es (cl (gv vs i)).t)) := by
        rw [prt_eq (by exact ⟨VR vs, _, _, 0, out ++ [3], _, by omega, by omega, by simp; omega, rfl⟩)]
        simp only [f33c, byOf_R, Int.toNat_zero, List.drop_zero]
      rw [hk, if_neg (by omega), if_pos rfl, room5 (by simp; omega), cond_true, S8_size, room5 (by omega), cond_true, R_S8, R_len, e]
      simp only [Option.bind_some, succ_w i (by omega), R_len, R_app]
      rw [room5 (by simp; omega), cond_true, List.append_assoc, List.append_assoc]
      exact hF _ (by unfold eV; rw [hk, if_neg (by omega), if_pos rfl]; simp)
  · rw [if_neg (by omega), List.drop_of_length_le (by omega)]
    simp [enc]
def pE (a : Rows) : Prop := ∃ vs : List V, a = VR vs ∧ vs.length ≤ 1000
def f33 (a : Rows) : ByteArray := S8 (enc (unV a))
theorem s33 : Sd33 (prt pE f33) := by
  refine of_prt (ok33 _ s33L) ?_
  rintro _ ⟨vs, rfl, hb⟩
  unfold t33
  have e : prt p33L f33L (VR vs, (vs.length : Int), (0 : Int), ([] : Rows)) = some (R (enc vs)) := by
    rw [prt_eq (by exact ⟨vs, 0, [], hb, by omega, by simp, rfl⟩)]
    simp [f33L, unV_VR, byOf]
  simp only [sh0_eq, VR_len, e, Option.bind_some, S8_R, f33, unV_VR]
theorem e33 (vs : List V) (h : vs.length ≤ 1000) : prt pE f33 (VR vs) = some (S8 (enc vs)) := by
  rw [prt_eq (by exact ⟨vs, rfl, h⟩)]; simp [f33, unV_VR]

/-! awake -/
theorem s14 : Sd14 (tot fun _ => true) := by
  refine of_tot (ok14 _ _ _ s18 s15 s33) ?_
  intro _
  unfold t14
  have hs : (({ data := #[97, 34, 10] } : ByteArray)) = S8 [97, 34, 10] := rfl
  have hq : (({ data := #[34, 97, 92, 50, 50, 92, 48, 97, 34] } : ByteArray)) = S8 [34, 97, 92, 50, 50, 92, 48, 97, 34] := rfl
  have h1 : tot f18 ((2 : Int), (0 : Int), S8 [97, 34, 10]) = some true := (e18 ⟨2, 0, [97, 34, 10]⟩).trans (by decide +kernel)
  have ho : (cl (ofV3 ((2 : Int), (0 : Int), S8 [97, 34, 10]))) = ⟨2, 0, [97, 34, 10]⟩ := by
    rw [show ofV3 ((2 : Int), (0 : Int), S8 [97, 34, 10]) = ⟨2, 0, [97, 34, 10]⟩ from ofV3_v3 ⟨2, 0, [97, 34, 10]⟩]
    exact cl_ok (by decide +kernel)
  have h2 : prt p15 f15 ((2 : Int), (0 : Int), S8 [97, 34, 10]) = some (S8 [34, 97, 92, 50, 50, 92, 48, 97, 34]) := by
    rw [prt_eq (by show (cl (ofV3 ((2 : Int), (0 : Int), S8 [97, 34, 10]))).k ≠ 1; rw [ho]; decide)]
    unfold f15
    rw [ho]
    decide +kernel
  have h3 : ([[DL.int .i64 0, DL.int .i64 0, DL.str { data := #[] }], [DL.int .i64 2, DL.int .i64 0, DL.str { data := #[97] }]] : Rows) = VR [nv, ⟨2, 0, [97]⟩] := rfl
  have h4 : enc [nv, ⟨2, 0, [97]⟩] = [1, 3, 97, 0, 0] := by decide +kernel
  have h5 : (({ data := #[1, 3, 97, 0, 0] } : ByteArray)) = S8 [1, 3, 97, 0, 0] := rfl
  rw [hs, hq, h1, Option.bind_some, cond_true, h2, Option.bind_some, strEq_S8, decide_eq_true rfl, cond_true, h3, sh0_eq, e33 _ (by simp), Option.bind_some, h4, h5, strEq_S8, decide_eq_true rfl]

/-! long -/
def lng (vs : List V) : Bool := decide (40 < vs.length) || vs.any fun v => decide (200 < v.t.length)
def p17L (a : iL17_4) : Prop := ∃ (vs : List V) (i : Nat), vs.length ≤ 1000000 ∧ i ≤ vs.length ∧ a = (VR vs, (i : Int))
def f17L (a : iL17_4) : oL17_4 := if ((unV a.1).drop a.2.toNat).any (fun v => decide (200 < v.t.length)) then .inl true else .inr ()
theorem s17L : SdL17_4 (prt p17L f17L) := by
  refine of_iterL (step := fun l a => u17_4 sh0 l a.1 a.2 some) okL17_4 (fun a => a.1.length - a.2.toNat) ?_
  rintro F _ ⟨vs, i, hb, hi, rfl⟩ ih
  unfold u17_4
  simp only [sh0_eq, cond_dec, f17L, Int.toNat_natCast, unV_VR, VR_len, succ_w i (by omega), Option.bind_fun_some, cV2, S8_size]
  by_cases h : i < vs.length
  · rw [if_pos (by omega), if_pos (by omega), drop_gv vs i h, List.any_cons]
    by_cases hl : 200 < (gv vs i).t.length
    · rw [if_pos (by omega), decide_eq_true hl]; rfl
    · rw [if_neg (by omega), decide_eq_false hl, Bool.false_or, ih (VR vs, ((i + 1 : Nat) : Int)) ⟨vs, i + 1, hb, by omega, rfl⟩ (by simp only [VR_len, Int.toNat_natCast]; omega)]
      simp only [f17L, unV_VR, Int.toNat_natCast]
  · rw [if_neg (by omega), List.drop_of_length_le (by omega)]
    simp
theorem s17 : Sd17 (prt (fun a => ∃ vs : List V, a = VR vs) fun a => lng (unV a)) := by
  refine of_prt (ok17 _ s17L) ?_
  rintro _ ⟨vs, rfl⟩
  unfold t17
  simp only [sh0_eq, VR_len, cond_dec, unV_VR, lng]
  by_cases h : (vs.length : Int) > 40
  · rw [if_pos h, decide_eq_true (by omega)]; rfl
  · rw [if_neg h, decide_eq_false (by omega)]
    have e : prt p17L f17L (VR vs, (0 : Int)) = some (if vs.any (fun v => decide (200 < v.t.length)) then .inl true else .inr ()) := by
      rw [prt_eq (by exact ⟨vs, 0, by omega, by omega, rfl⟩)]
      simp [f17L, unV_VR]
    rw [e, Option.bind_some, Bool.false_or]
    cases vs.any (fun v => decide (200 < v.t.length)) <;> rfl
theorem e17 (vs : List V) : prt (fun a => ∃ vs : List V, a = VR vs) (fun a => lng (unV a)) (VR vs) = some (lng vs) := by
  rw [prt_eq (by exact ⟨vs, rfl⟩)]; simp [unV_VR]
theorem lng_no {vs : List V} (h : lng vs = false) : vs.length ≤ 40 := by
  unfold lng at h
  simp only [Bool.or_eq_false_iff, decide_eq_false_iff_not] at h
  omega

end Go.Proofs.Val
