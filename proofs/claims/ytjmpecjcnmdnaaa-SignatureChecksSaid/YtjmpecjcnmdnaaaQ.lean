/- Signatures: digests as one thing; digits of messages. -/
import Derived.Test.YtjmpecjcnmdnaaaP
import Derived.Test.YtjmpecjcnmdnaaaG3
import Derived.Test.YtjmpecjcnmdnaaaL11
set_option linter.unusedVariables false
set_option linter.unusedSimpArgs false

namespace Go.Proofs.Dig
open Go Go.Ev Go.Proofs.SmG

/-! ### Digests -/
abbrev D := { bs : List By // bs.length = 32 }
def N (d : D) : List Int := nI d.1
def Q (d : D) : Rows := R d.1
def sumD (n : W) (bs : List By) : D := ⟨sum n bs, sum_len n bs⟩
def zD : D := ⟨zs, zs_len⟩
instance : Inhabited D := ⟨zD⟩
theorem N_inj {a b : D} (h : N a = N b) : a = b := Subtype.ext (nI_inj h)
theorem pkN (d : D) : pkL (N d) 32 = N d := pkL_nI d.2
theorem cdN (d : D) : colD (mapD .u8 (N d)) = Q d := colD_nI d.1
theorem cQ (d : D) : colI (Q d) 32 = N d := colI_R d.2
theorem Q_len (d : D) : (Q d).length = 32 := by rw [Q, R_len]; exact d.2
theorem eqN (a b : D) : eqI (N a) (N b) 32 = decide (a = b) := by
  unfold N
  rw [eqI_nI a.2 b.2]
  exact decide_eq_decide.2 ⟨fun h => Subtype.ext h, fun h => congrArg _ h⟩
theorem repQ : (List.replicate 32 [DL.int .u8 (0 : Int)] : Rows) = Q zD := rep32
theorem repN : (List.replicate 32 (0 : Int) : List Int) = N zD := zeroI 32
theorem is32N (d : D) : is32 (N d) := ⟨d.1, rfl, d.2⟩
theorem ex_D {l : List Int} (h : is32 l) : ∃ d : D, l = N d := by
  obtain ⟨bs, rfl, hb⟩ := h; exact ⟨⟨bs, hb⟩, rfl⟩
def dR (d : D) : List DL := mapD .u8 (N d)
def DR (ds : List D) : Rows := ds.map dR
theorem DR_len (ds : List D) : (DR ds).length = ds.length := by simp [DR]
theorem DR_app (a b : List D) : DR a ++ DR b = DR (a ++ b) := by simp [DR]
theorem DR_one (d : D) : ([mapD .u8 (N d)] : Rows) = DR [d] := rfl
def gd (ds : List D) (i : Nat) : D := ds.getD i zD
theorem rowDR (ds : List D) (i : Nat) (h : i < ds.length) : rowI (DR ds) i 32 = N (gd ds i) := by
  have e : gd ds i = ds[i] := by unfold gd; rw [List.getD_eq_getElem?_getD, List.getElem?_eq_getElem h]; rfl
  rw [e]
  have e2 : (DR ds).getD i [] = dR ds[i] := by
    rw [List.getD_eq_getElem?_getD, DR, List.getElem?_map, List.getElem?_eq_getElem h]; rfl
  unfold rowI cellAt
  rw [e2]
  obtain ⟨bs, hb⟩ := ds[i]
  show (List.range 32).map (fun j => ((dR ⟨bs, hb⟩).getD j (.bool false)).getI) = nI bs
  rw [← range_nb bs, hb]
  refine List.map_congr_left fun j hj => ?_
  have hj : j < 32 := by simpa using hj
  unfold dR N mapD nI
  rw [List.map_map, List.getD_eq_getElem?_getD, List.getElem?_map, nb_get, List.getElem?_eq_getElem (show j < bs.length by omega)]
  rfl
theorem drop_gd (ds : List D) (i : Nat) (h : i < ds.length) : ds.drop i = gd ds i :: ds.drop (i + 1) := by
  rw [List.drop_eq_getElem_cons h]
  unfold gd; rw [List.getD_eq_getElem?_getD, List.getElem?_eq_getElem h]; rfl

theorem room25 {n : Nat} (h : n ≤ 100000) : roomE Try.prog 25 n = true := by
  have h1 : rowOk Try.prog 25 = true := by kernel_rfl
  have h2 : Try.prog.bytesOf 25 = 32 := by kernel_rfl
  unfold roomE
  rw [h1, h2]
  simp; omega
theorem room3 {n : Nat} (h : n ≤ 100000) : roomE Try.prog 3 n = true := by
  have h1 : rowOk Try.prog 3 = true := by kernel_rfl
  have h2 : Try.prog.bytesOf 3 = 8 := by kernel_rfl
  unfold roomE
  rw [h1, h2]
  simp; omega

theorem k47 (d : W) (bs : List By) (h : bs.length ≤ 5000) : prt isB f47 (w d, R bs) = some (N (sumD d bs)) := e47 d bs h
theorem k61 (d : W) (a : D) (b : List By) (h : b.length ≤ 900) : prt p61 f61 (w d, N a, R b) = some (N (sumD d (a.1 ++ b))) := by
  rw [prt_eq (by exact ⟨isW_w d, ⟨a.1, rfl, a.2⟩, ⟨b, rfl, h⟩⟩)]
  simp only [f61, of_w, N, bI_nI, byOf_R, sumD]
theorem k65 (d : W) (a b : D) : prt p65 f65 (w d, N a, N b) = some (N (sumD d (a.1 ++ b.1))) := by
  rw [prt_eq (by exact ⟨isW_w d, ⟨a.1, rfl, a.2⟩, ⟨b.1, rfl, b.2⟩⟩)]
  simp only [f65, of_w, N, bI_nI, sumD]
theorem k71 (a : D) : prt is32 f71 (N a) = some (Q a) := by
  rw [prt_eq (by exact ⟨a.1, rfl, a.2⟩)]
  simp only [f71, N, bI_nI, Q]

/-! ### Numbers -/
def IR (xs : List Int) : Rows := xs.map fun n => [DL.int .i64 n]
def ni (xs : List Int) (i : Nat) : Int := xs.getD i 0
theorem IR_len (xs : List Int) : (IR xs).length = xs.length := by simp [IR]
theorem IR_app (a b : List Int) : IR a ++ IR b = IR (a ++ b) := by simp [IR]
theorem cIR (xs : List Int) (i : Nat) : (cellAt (IR xs) i 0).getI = ni xs i := by
  have e : (IR xs).getD i [] = ((xs[i]?).map fun n => [DL.int .i64 n]).getD [] := by
    rw [List.getD_eq_getElem?_getD, IR, List.getElem?_map]
  unfold cellAt ni
  rw [e, List.getD_eq_getElem?_getD (l := xs)]
  cases xs[i]? <;> rfl
theorem drop_ni (xs : List Int) (i : Nat) (h : i < xs.length) : xs.drop i = ni xs i :: xs.drop (i + 1) := by
  rw [List.drop_eq_getElem_cons h]
  unfold ni; rw [List.getD_eq_getElem?_getD, List.getElem?_eq_getElem h]; rfl
def unI (r : Rows) : List Int := r.map fun x => (x.headD default).getI
theorem unI_IR (xs : List Int) : unI (IR xs) = xs := by
  unfold unI IR
  rw [List.map_map]
  have e : ((fun (x : List DL) => (x.headD default).getI) ∘ fun (n : Int) => [DL.int .i64 n]) = id := funext fun n => rfl
  rw [e, List.map_id]
theorem IR_inj {a b : List Int} (h : IR a = IR b) : a = b := by rw [← unI_IR a, h, unI_IR]

/-! ### Digits -/
def hv (bs : List By) : List Int := bs.flatMap fun b => [((b.toNat / 16 : Nat) : Int), ((b.toNat % 16 : Nat) : Int)]
theorem hv_len (bs : List By) : (hv bs).length = 2 * bs.length := by
  induction bs with
  | nil => rfl
  | cons b r ih => simp only [hv, List.flatMap_cons, List.length_append, List.length_cons, List.length_nil] at ih ⊢; omega
theorem hv_bd (bs : List By) : ∀ x ∈ hv bs, 0 ≤ x ∧ x ≤ 15 := by
  intro x hx
  simp only [hv, List.mem_flatMap, List.mem_cons, List.not_mem_nil, or_false] at hx
  obtain ⟨b, _, h | h⟩ := hx <;> have := b.isLt <;> omega
def gap : List Int → Int
  | [] => 0
  | x :: r => (15 - x) + gap r
theorem gap_bd : ∀ (l : List Int), (∀ x ∈ l, 0 ≤ x ∧ x ≤ 15) → 0 ≤ gap l ∧ gap l ≤ 15 * l.length := by
  intro l
  induction l with
  | nil => intro _; simp [gap]
  | cons x r ih =>
    intro h
    have h1 := ih fun y hy => h y (List.mem_cons_of_mem _ hy)
    have h2 := h x (List.mem_cons_self ..)
    simp only [gap, List.length_cons]
    omega
def cks (s : Int) : List Int := [s / 256, s / 16 % 16, s % 16]
def dg (m : List By) : List Int := hv ((sum 390 m).take 16) ++ cks (gap (hv ((sum 390 m).take 16)))
theorem hd_len (m : List By) : (hv ((sum 390 m).take 16)).length = 32 := by
  rw [hv_len, List.length_take, sum_len]; rfl
theorem dg_len (m : List By) : (dg m).length = 35 := by
  unfold dg; rw [List.length_append, hd_len]; rfl

/-! 48: halves -/
theorem and15 (n : Nat) (k : Nat) (hk : 4 ≤ k) (hn : n < 2 ^ k) : (BitVec.ofInt k ((n : Nat) : Int) &&& BitVec.ofInt k (15 : Int)).toNat = n % 16 := by
  rw [BitVec.ofInt_natCast, show (15 : Int) = ((15 : Nat) : Int) from rfl, BitVec.ofInt_natCast, BitVec.toNat_and, BitVec.toNat_ofNat, BitVec.toNat_ofNat, Nat.mod_eq_of_lt hn]
  have h16 : (15 : Nat) < 2 ^ k := Nat.lt_of_lt_of_le (by decide : 15 < 2 ^ 4) (Nat.pow_le_pow_right (by decide) hk)
  rw [Nat.mod_eq_of_lt h16, show (15 : Nat) = 2 ^ 4 - 1 from rfl, Nat.and_two_pow_sub_one_eq_mod]

def p48L (a : iL48_3) : Prop := ∃ (bs : List By) (i : Nat) (out : List Int), bs.length ≤ 1000 ∧ i ≤ bs.length ∧ out.length ≤ 2 * i ∧ a = (R bs, (i : Int), IR out)
def f48L (a : iL48_3) : oL48_3 := IR (unI a.2.2 ++ hv ((byOf a.1).drop a.2.1.toNat))
theorem s48L : SdL48_3 (prt p48L f48L) := by
  refine of_iterL (step := fun l a => u48_3 sh0 l a.1 a.2.1 a.2.2 some) okL48_3 (fun a => (byOf a.1).length - a.2.1.toNat) ?_
  rintro F _ ⟨bs, i, out, hb, hi, ho, rfl⟩ ih
  unfold u48_3
  simp only [sh0_eq, R_len, cond_dec, f48L, byOf_R, unI_IR, Int.toNat_natCast, cR]
  by_cases hlt : i < bs.length
  · have hw : IntKind.i64.wrap ((i : Int) + 1) = ((i + 1 : Nat) : Int) := by rw [wrap_i64 (by omega) (by omega)]; omega
    have hb8 := (nb bs i).isLt
    have h1 : IntKind.i64.wrap (Int.fdiv (((nb bs i).toNat : Nat) : Int) 16) = (((nb bs i).toNat / 16 : Nat) : Int) := by
      rw [Int.fdiv_eq_ediv_of_nonneg _ (by omega), wrap_i64 (by omega) (by omega)]; omega
    have h2 : IntKind.i64.wrap (IntKind.u8.wrap (((BitVec.ofInt 8 (((nb bs i).toNat : Nat) : Int) &&& BitVec.ofInt 8 (15 : Int)).toNat : Nat) : Int)) = (((nb bs i).toNat % 16 : Nat) : Int) := by
      rw [and15 _ 8 (by omega) (by omega), wrap_u8, wrap_i64 (by omega) (by omega)]; omega
    have hF := ih (R bs, ((i + 1 : Nat) : Int), IR (out ++ hv [nb bs i])) ⟨bs, i + 1, _, hb, by omega, by rw [List.length_append, hv_len]; simp; omega, rfl⟩ (by simp only [byOf_R, Int.toNat_natCast]; omega)
    have hh : ([[DL.int .i64 (((nb bs i).toNat / 16 : Nat) : Int)], [DL.int .i64 (((nb bs i).toNat % 16 : Nat) : Int)]] : Rows) = IR (hv [nb bs i]) := rfl
    rw [if_pos (by omega), if_pos (by omega), if_pos (by omega), h1, h2, hh, hw, IR_app]
    simp only [IR_len]
    rw [room3 (by rw [hv_len]; simp; omega), cond_true, Option.bind_fun_some, hF]
    simp only [f48L, unI_IR, byOf_R, Int.toNat_natCast]
    rw [drop_nb bs i hlt]
    simp [hv]
  · have : i = bs.length := by omega
    subst this
    rw [if_neg (by omega), List.drop_length]
    simp [hv]
def p48 (a : i48) : Prop := ∃ bs : List By, a = R bs ∧ bs.length ≤ 1000
def f48 (a : i48) : o48 := IR (hv (byOf a))
theorem s48 : Sd48 (prt p48 f48) := by
  refine of_prt (ok48 _ s48L) ?_
  rintro _ ⟨bs, rfl, hb⟩
  unfold t48
  have hw : IntKind.i64.wrap ((2 : Int) * (bs.length : Int)) = ((2 * bs.length : Nat) : Int) := by rw [wrap_i64 (by omega) (by omega)]; omega
  have e : prt p48L f48L (R bs, (0 : Int), ([] : Rows)) = some (IR (hv bs)) := by
    rw [prt_eq (by exact ⟨bs, 0, [], hb, by omega, by simp, rfl⟩)]
    simp only [f48L, byOf_R]
    simp [unI]
  simp only [sh0_eq, R_len, hw, Int.toNat_natCast, room3 (n := 2 * bs.length) (by omega), Bool.and_true]
  rw [decide_eq_true (by omega), cond_true, e]
  simp only [Option.bind_some, f48, byOf_R]
theorem e48 (bs : List By) (h : bs.length ≤ 1000) : prt p48 f48 (R bs) = some (IR (hv bs)) := by
  rw [prt_eq (by exact ⟨bs, rfl, h⟩)]
  simp only [f48, byOf_R]

/-! 29: Digits -/
theorem ni_mem (xs : List Int) (i : Nat) (h : i < xs.length) : ni xs i ∈ xs := by
  unfold ni; rw [List.getD_eq_getElem?_getD, List.getElem?_eq_getElem h]; exact List.getElem_mem h
def p29L (a : iL29_5) : Prop := ∃ (xs : List Int) (i : Nat) (s : Int), xs.length = 32 ∧ (∀ x ∈ xs, 0 ≤ x ∧ x ≤ 15) ∧ i ≤ 32 ∧ 0 ≤ s ∧ s ≤ 15 * i ∧ a = (s, (i : Int), IR xs)
def f29L (a : iL29_5) : oL29_5 := (a.1 + gap ((unI a.2.2).drop a.2.1.toNat), a.2.2)
theorem s29L : SdL29_5 (prt p29L f29L) := by
  refine of_iterL (step := fun l a => u29_5 sh0 l a.1 a.2.1 a.2.2 some) okL29_5 (fun a => 32 - a.2.1.toNat) ?_
  rintro F _ ⟨xs, i, s, hl, hx, hi, h0, hs, rfl⟩ ih
  unfold u29_5
  simp only [sh0_eq, IR_len, cond_dec, f29L, unI_IR, Int.toNat_natCast, cIR, hl]
  by_cases hlt : i < 32
  · have hw : IntKind.i64.wrap ((i : Int) + 1) = ((i + 1 : Nat) : Int) := by rw [wrap_i64 (by omega) (by omega)]; omega
    have hb := hx _ (ni_mem xs i (by omega))
    have h1 : IntKind.i64.wrap (s + IntKind.i64.wrap (15 - ni xs i)) = s + (15 - ni xs i) := by
      rw [wrap_i64 (n := 15 - ni xs i) (by omega) (by omega), wrap_i64 (by omega) (by omega)]
    have hF := ih (s + (15 - ni xs i), ((i + 1 : Nat) : Int), IR xs) ⟨xs, i + 1, _, hl, hx, by omega, by omega, by omega, rfl⟩ (by simp only [Int.toNat_natCast]; omega)
    rw [if_pos (by omega), if_pos (by omega), if_pos (by omega), h1, hw, Option.bind_fun_some, hF]
    simp only [f29L, unI_IR, Int.toNat_natCast]
    rw [drop_ni xs i (by omega), gap, Int.add_assoc]
  · have : i = 32 := by omega
    subst this
    rw [if_neg (by omega), List.drop_of_length_le (by omega)]
    simp [gap]
def isM (a : Rows) : Prop := ∃ bs : List By, a = R bs ∧ bs.length ≤ 1000
def f29 (a : i29) : o29 := IR (dg (byOf a))
theorem w390 : w 390 = 390 := rfl
theorem s29 : Sd29 (prt isM f29) := by
  refine of_prt (ok29 _ _ _ s47 s48 s29L) ?_
  rintro _ ⟨bs, rfl, hb⟩
  unfold t29
  have h47 := k47 390 bs (by omega)
  rw [w390] at h47
  have hl := hd_len bs
  have hbd := hv_bd ((sum 390 bs).take 16)
  have hg := gap_bd _ hbd
  rw [hl] at hg
  simp only [sh0_eq, h47, Option.bind_some, repQ, Q_len, decide_true, cond_true, pkN, cdN, Bool.and_self, List.drop_zero]
  rw [show (Q (sumD 390 bs)).take 16 = R ((sum 390 bs).take 16) from R_take _ _, e48 _ (by rw [List.length_take]; omega)]
  simp only [f29, byOf_R, dg]
  generalize hv ((sum 390 bs).take 16) = h at hl hbd hg
  have e : prt p29L f29L ((0 : Int), (0 : Int), IR h) = some (gap h, IR h) := by
    rw [prt_eq (by exact ⟨h, 0, 0, hl, hbd, by omega, by omega, by omega, rfl⟩)]
    simp [f29L, unI_IR]
  obtain ⟨g, hg'⟩ := Int.eq_ofNat_of_zero_le hg.1
  simp only [Option.bind_some, e, hg']
  rw [Int.fdiv_eq_ediv_of_nonneg _ (by omega), Int.fdiv_eq_ediv_of_nonneg _ (by omega), show ((g : Int) / 256) = ((g / 256 : Nat) : Int) by omega, show ((g : Int) / 16) = ((g / 16 : Nat) : Int) by omega,
    and15 _ 64 (by omega) (by omega), and15 _ 64 (by omega) (by omega), and15 _ 64 (by omega) (by omega), wrap_i64 (by omega) (by omega), wrap_i64 (by omega) (by omega), wrap_i64 (by omega) (by omega)]
  have hc : ([[DL.int .i64 ((g / 256 % 16 : Nat) : Int)], [DL.int .i64 ((g / 16 % 16 : Nat) : Int)], [DL.int .i64 ((g % 16 : Nat) : Int)]] : Rows) = IR (cks (g : Int)) := by
    have c1 : (((g / 256 % 16 : Nat) : Int)) = (g : Int) / 256 := by omega
    have c2 : (((g / 16 % 16 : Nat) : Int)) = (g : Int) / 16 % 16 := by omega
    have c3 : (((g % 16 : Nat) : Int)) = (g : Int) % 16 := by omega
    rw [c1, c2, c3]
    rfl
  rw [hc, IR_app, IR_len]
  simp only [IR_len]
  rw [room3 (by rw [hl]; simp [cks])]
  rfl
theorem e29 (bs : List By) (h : bs.length ≤ 1000) : prt isM f29 (R bs) = some (IR (dg bs)) := by
  rw [prt_eq (by exact ⟨bs, rfl, h⟩)]
  simp only [f29, byOf_R]

end Go.Proofs.Dig

namespace Go.Proofs.Dig
open Go Go.Ev Go.Proofs.SmG

/-! 31: the reference's Digits -/
theorem s50' : Sd50 (prt isB f47) := s50
theorem gap_app (a b : List Int) : gap (a ++ b) = gap a + gap b := by
  induction a with
  | nil => simp [gap]
  | cons x r ih => simp only [List.cons_append, gap, ih]; omega
def p31L (a : iL31_5) : Prop := ∃ (ds : D) (out : List Int) (i : Nat) (s : Int), i ≤ 16 ∧ out.length ≤ 100 + 2 * i ∧ 0 ≤ s ∧ s ≤ 30 * i ∧ a = (s, (i : Int), Q ds, IR out)
def rest (ds : List By) (i : Nat) : List Int := hv ((ds.take 16).drop i)
def f31L (a : iL31_5) : oL31_5 := (a.1 + gap (rest (byOf a.2.2.1) a.2.1.toNat), IR (unI a.2.2.2 ++ rest (byOf a.2.2.1) a.2.1.toNat))
theorem cQn (d : D) (i : Nat) : (cellAt (Q d) i 0).getI = ((nb d.1 i).toNat : Int) := cR d.1 i
theorem s31L : SdL31_5 (prt p31L f31L) := by
  refine of_iterL (step := fun l a => u31_5 sh0 l a.1 a.2.1 a.2.2.1 a.2.2.2 some) okL31_5 (fun a => 16 - a.2.1.toNat) ?_
  rintro F _ ⟨ds, out, i, s, hi, ho, h0, hs, rfl⟩ ih
  unfold u31_5
  simp only [sh0_eq, IR_len, Q_len, cond_dec, f31L, unI_IR, Int.toNat_natCast, cQn, show byOf (Q ds) = ds.1 from byOf_R _]
  by_cases hlt : i < 16
  · have hw : IntKind.i64.wrap ((i : Int) + 1) = ((i + 1 : Nat) : Int) := by rw [wrap_i64 (by omega) (by omega)]; omega
    have hb8 := (nb ds.1 i).isLt
    have h1 : IntKind.i64.wrap (IntKind.u8.wrap (Int.tdiv (((nb ds.1 i).toNat : Nat) : Int) 16)) = (((nb ds.1 i).toNat / 16 : Nat) : Int) := by
      rw [Int.tdiv_eq_ediv_of_nonneg (by omega), wrap_u8, wrap_i64 (by omega) (by omega)]; omega
    have h2 : IntKind.i64.wrap (Int.tmod (((nb ds.1 i).toNat : Nat) : Int) 16) = (((nb ds.1 i).toNat % 16 : Nat) : Int) := by
      rw [Int.tmod_eq_emod_of_nonneg (by omega), wrap_i64 (by omega) (by omega)]; omega
    simp only [h1, h2]
    have hh : ([[DL.int .i64 (((nb ds.1 i).toNat / 16 : Nat) : Int)], [DL.int .i64 (((nb ds.1 i).toNat % 16 : Nat) : Int)]] : Rows) = IR (hv [nb ds.1 i]) := rfl
    have hr : rest ds.1 i = hv [nb ds.1 i] ++ rest ds.1 (i + 1) := by
      have hl : i < (ds.1.take 16).length := by rw [List.length_take, ds.2]; omega
      have hn : nb (ds.1.take 16) i = nb ds.1 i := by rw [nb_get, nb_get, List.getElem?_take_of_lt hlt]
      unfold rest
      rw [drop_nb _ i hl, hn]
      simp [hv]
    have hg : gap (hv [nb ds.1 i]) = (15 - (((nb ds.1 i).toNat / 16 : Nat) : Int)) + (15 - (((nb ds.1 i).toNat % 16 : Nat) : Int)) := by
      simp [hv, gap]
    have h3 : IntKind.i64.wrap (IntKind.i64.wrap (IntKind.i64.wrap (IntKind.i64.wrap (s + 15) - (((nb ds.1 i).toNat / 16 : Nat) : Int)) + 15) - (((nb ds.1 i).toNat % 16 : Nat) : Int)) = s + gap (hv [nb ds.1 i]) := by
      rw [wrap_i64 (n := s + 15) (by omega) (by omega), wrap_i64 (n := s + 15 - (((nb ds.1 i).toNat / 16 : Nat) : Int)) (by omega) (by omega), wrap_i64 (n := s + 15 - (((nb ds.1 i).toNat / 16 : Nat) : Int) + 15) (by omega) (by omega), wrap_i64 (by omega) (by omega), hg]
      omega
    have hF := ih (s + gap (hv [nb ds.1 i]), ((i + 1 : Nat) : Int), Q ds, IR (out ++ hv [nb ds.1 i])) ⟨ds, _, i + 1, _, by omega, by rw [List.length_append, hv_len]; simp; omega, by rw [hg]; omega, by rw [hg]; omega, rfl⟩ (by simp only [Int.toNat_natCast]; omega)
    simp only [h3, hh, hw, IR_app, IR_len]
    rw [if_pos (by omega), if_pos (by omega), if_pos (by omega), if_pos (by omega), if_pos (by omega), room3 (by rw [hv_len]; simp; omega), cond_true, Option.bind_fun_some, hF]
    simp only [f31L, unI_IR, Int.toNat_natCast, show byOf (Q ds) = ds.1 from byOf_R _]
    rw [hr, gap_app, Int.add_assoc, List.append_assoc]
  · have : i = 16 := by omega
    subst this
    have hr : rest ds.1 16 = [] := by unfold rest; rw [List.drop_of_length_le (by rw [List.length_take]; omega)]; rfl
    rw [if_neg (by omega), hr]
    simp [gap]
theorem s31 : Sd31 (prt isM f29) := by
  refine of_prt (ok31 _ _ s50 s31L) ?_
  rintro _ ⟨bs, rfl, hb⟩
  unfold t31
  have h47 := k47 390 bs (by omega)
  rw [w390] at h47
  have hl := hd_len bs
  have hbd := hv_bd ((sum 390 bs).take 16)
  have hg := gap_bd _ hbd
  rw [hl] at hg
  have e : prt p31L f31L ((0 : Int), (0 : Int), Q (sumD 390 bs), ([] : Rows)) = some (gap (hv ((sum 390 bs).take 16)), IR (hv ((sum 390 bs).take 16))) := by
    rw [prt_eq (by exact ⟨sumD 390 bs, [], 0, 0, by omega, by simp, by omega, by omega, rfl⟩)]
    have hb' : byOf (Q (sumD 390 bs)) = sum 390 bs := byOf_R _
    simp only [f31L, rest, hb', Int.toNat_zero, List.drop_zero, Int.zero_add, unI, List.map_nil, List.nil_append]
  simp only [sh0_eq, h47, Option.bind_some, repQ, Q_len, decide_true, cond_true, pkN, cdN, e]
  simp only [f29, byOf_R, dg]
  generalize hv ((sum 390 bs).take 16) = h at hl hbd hg
  obtain ⟨g, hg'⟩ := Int.eq_ofNat_of_zero_le hg.1
  rw [hg']
  rw [Int.tdiv_eq_ediv_of_nonneg (by omega), Int.tdiv_eq_ediv_of_nonneg (by omega), wrap_i64 (n := (g : Int) / 256) (by omega) (by omega), wrap_i64 (n := (g : Int) / 16) (by omega) (by omega), Int.tmod_eq_emod_of_nonneg (by omega), Int.tmod_eq_emod_of_nonneg (by omega)]
  have hc : ([[DL.int .i64 ((g : Int) / 256)], [DL.int .i64 ((g : Int) / 16 % 16)], [DL.int .i64 ((g : Int) % 16)]] : Rows) = IR (cks (g : Int)) := rfl
  rw [hc, IR_app, IR_len]
  simp only [IR_len]
  rw [room3 (by rw [hl]; simp [cks])]
  rfl

/-! 49, 30: SameInts -/
def p49L (a : iL49_4) : Prop := ∃ (xs ys : List Int) (i : Nat), xs.length = ys.length ∧ xs.length ≤ 100000 ∧ i ≤ xs.length ∧ a = (IR xs, IR ys, (i : Int))
def f49L (a : iL49_4) : oL49_4 := if (unI a.1).drop a.2.2.toNat = (unI a.2.1).drop a.2.2.toNat then .inr () else .inl false
theorem s49L : SdL49_4 (prt p49L f49L) := by
  refine of_iterL (step := fun l a => u49_4 sh0 l a.1 a.2.1 a.2.2 some) okL49_4 (fun a => (unI a.1).length - a.2.2.toNat) ?_
  rintro F _ ⟨xs, ys, i, hl, hb, hi, rfl⟩ ih
  unfold u49_4
  simp only [sh0_eq, IR_len, cond_dec, f49L, unI_IR, Int.toNat_natCast, cIR]
  by_cases hlt : i < xs.length
  · have hw : IntKind.i64.wrap ((i : Int) + 1) = ((i + 1 : Nat) : Int) := by rw [wrap_i64 (by omega) (by omega)]; omega
    rw [if_pos (by omega), if_pos (by omega), if_pos (by omega), drop_ni xs i hlt, drop_ni ys i (by omega)]
    by_cases he : ni xs i = ni ys i
    · have hF := ih (IR xs, IR ys, ((i + 1 : Nat) : Int)) ⟨xs, ys, i + 1, hl, hb, by omega, rfl⟩ (by simp only [unI_IR, Int.toNat_natCast]; omega)
      rw [he, bne_self_eq_false, cond_false, hw, Option.bind_fun_some, hF]
      simp only [f49L, unI_IR, Int.toNat_natCast, List.cons.injEq, true_and]
    · rw [show (ni xs i != ni ys i) = true by simp [he], cond_true, if_neg (by simp [he])]
  · rw [if_neg (by omega), List.drop_of_length_le (by omega), List.drop_of_length_le (by omega), if_pos rfl]
def p49 (a : i49) : Prop := ∃ xs ys : List Int, xs.length ≤ 100000 ∧ a = (IR xs, IR ys)
def f49 (a : i49) : o49 := decide (unI a.1 = unI a.2)
theorem s49 : Sd49 (prt p49 f49) := by
  refine of_prt (ok49 _ s49L) ?_
  rintro _ ⟨xs, ys, hb, rfl⟩
  unfold t49
  simp only [sh0_eq, IR_len, f49, unI_IR]
  by_cases hl : xs.length = ys.length
  · have e : prt p49L f49L (IR xs, IR ys, (0 : Int)) = some (if xs = ys then .inr () else .inl false) := by
      rw [prt_eq (by exact ⟨xs, ys, 0, hl, hb, by omega, rfl⟩)]
      simp [f49L, unI_IR]
    rw [hl, bne_self_eq_false, cond_false, e, Option.bind_some]
    by_cases h : xs = ys
    · rw [if_pos h, decide_eq_true h]; rfl
    · rw [if_neg h, decide_eq_false h]; rfl
  · rw [show (((xs.length : Nat) : Int) != ((ys.length : Nat) : Int)) = true by simp; omega, cond_true, decide_eq_false (fun h => hl (by rw [h]))]
theorem s30 : Sd30 (prt p49 f49) := by
  refine of_prt (ok30 _ s49) ?_
  rintro a ha
  unfold t30
  rw [prt_eq (by exact ha)]
  rfl
theorem e30 (xs ys : List Int) (h : xs.length ≤ 100000) : prt p49 f49 (IR xs, IR ys) = some (decide (xs = ys)) := by
  rw [prt_eq (by exact ⟨xs, ys, h, rfl⟩)]
  simp only [f49, unI_IR]

theorem s28 : Sd28 (tot fun _ => true) := by
  refine of_tot (ok28 _ _ _ s29 s31 s30) ?_
  intro a
  have e := e29 [] (by simp)
  unfold t28
  rw [show ([] : Rows) = R [] from rfl, e, Option.bind_some, Option.bind_some, e30 _ _ (by rw [dg_len]; omega)]
  simp
theorem e28 (u : Unit) : (tot fun (_ : i28) => true) u = some true := rfl

/-! 10 -/
theorem cks_bd (s : Int) (h0 : 0 ≤ s) (h : s ≤ 480) : ∀ x ∈ cks s, 0 ≤ x ∧ x ≤ 15 := by
  intro x hx
  simp only [cks, List.mem_cons, List.not_mem_nil, or_false] at hx
  obtain h | h | h := hx <;> omega
theorem dg_bd (m : List By) : ∀ x ∈ dg m, 0 ≤ x ∧ x ≤ 15 := by
  intro x hx
  unfold dg at hx
  have hbd := hv_bd ((sum 390 m).take 16)
  have hg := gap_bd _ hbd
  rw [hd_len] at hg
  rcases List.mem_append.1 hx with h | h
  · exact hbd x h
  · exact cks_bd _ hg.1 (by omega) x h

/-! 11 -/
def lts : List Int → List Int → Bool
  | x :: xs, y :: ys => decide (x < y) || lts xs ys
  | _, _ => false
theorem lts_app : ∀ (a b c d : List Int), a.length = b.length → lts (a ++ c) (b ++ d) = (lts a b || lts c d)
  | [], [], c, d, _ => by simp [lts]
  | x :: a, y :: b, c, d, h => by simp only [List.cons_append, lts, lts_app a b c d (by simpa using h), Bool.or_assoc]
theorem lts_gap : ∀ (a b : List Int), a.length = b.length → lts a b = false → gap a ≤ gap b ∧ (lts b a = true → gap a < gap b) ∧ (lts b a = false → a = b)
  | [], [], _, _ => ⟨Int.le_refl _, by simp [lts], fun _ => rfl⟩
  | x :: a, y :: b, h, hl => by
    simp only [lts, Bool.or_eq_false_iff, decide_eq_false_iff_not] at hl
    obtain ⟨h1, h2, h3⟩ := lts_gap a b (by simpa using h) hl.2
    simp only [lts, gap, Bool.or_eq_true, decide_eq_true_eq, Bool.or_eq_false_iff, decide_eq_false_iff_not]
    refine ⟨by omega, ?_, ?_⟩
    · rintro (h4 | h4)
      · omega
      · have := h2 h4; omega
    · rintro ⟨h4, h5⟩
      rw [h3 h5, show x = y by omega]
theorem lts_cks (s t : Int) (h0 : 0 ≤ s) (h : s < t) (ht : t ≤ 480) : lts (cks s) (cks t) = true := by
  simp only [cks, lts, Bool.or_false, Bool.or_eq_true, decide_eq_true_eq]
  omega
theorem lts_self : ∀ a : List Int, lts a a = false
  | [] => rfl
  | x :: a => by simp [lts, lts_self a]
theorem lts_dg (a b : List By) : lts (dg a) (dg b) = lts (dg b) (dg a) := by
  unfold dg
  have ha := hd_len a
  have hb := hd_len b
  have ga := gap_bd _ (hv_bd ((sum 390 a).take 16))
  have gb := gap_bd _ (hv_bd ((sum 390 b).take 16))
  rw [ha] at ga
  rw [hb] at gb
  generalize hv ((sum 390 a).take 16) = x at *
  generalize hv ((sum 390 b).take 16) = y at *
  rw [lts_app _ _ _ _ (by omega), lts_app _ _ _ _ (by omega)]
  cases h1 : lts x y with
  | true =>
    cases h2 : lts y x with
    | true => simp
    | false =>
      obtain ⟨_, h3, _⟩ := lts_gap y x (by omega) h2
      rw [lts_cks (gap y) (gap x) gb.1 (h3 h1) (by omega)]
      simp
  | false =>
    obtain ⟨_, h3, h4⟩ := lts_gap x y (by omega) h1
    cases h2 : lts y x with
    | true =>
      rw [lts_cks (gap x) (gap y) ga.1 (h3 h2) (by omega)]
      simp
    | false => rw [h4 h2]

def p11L (a : iL11_8) : Prop := ∃ (xs ys : List Int) (i : Nat) (p q : Bool), xs.length = 35 ∧ ys.length = 35 ∧ i ≤ 35 ∧ a = (IR xs, IR ys, p, q, (i : Int))
def f11L (a : iL11_8) : oL11_8 :=
  (a.2.2.1 || lts ((unI a.1).drop a.2.2.2.2.toNat) ((unI a.2.1).drop a.2.2.2.2.toNat), a.2.2.2.1 || lts ((unI a.2.1).drop a.2.2.2.2.toNat) ((unI a.1).drop a.2.2.2.2.toNat))
theorem s11L : SdL11_8 (prt p11L f11L) := by
  refine of_iterL (step := fun l a => u11_8 sh0 l a.1 a.2.1 a.2.2.1 a.2.2.2.1 a.2.2.2.2 some) okL11_8 (fun a => 35 - a.2.2.2.2.toNat) ?_
  rintro F _ ⟨xs, ys, i, p, q, hx, hy, hi, rfl⟩ ih
  unfold u11_8
  simp only [sh0_eq, IR_len, cond_dec, f11L, unI_IR, Int.toNat_natCast, cIR]
  by_cases hlt : i < 35
  · have hw : IntKind.i64.wrap ((i : Int) + 1) = ((i + 1 : Nat) : Int) := by rw [wrap_i64 (by omega) (by omega)]; omega
    have hF : ∀ p q, F (IR xs, IR ys, p, q, ((i + 1 : Nat) : Int)) = some (p || lts (xs.drop (i + 1)) (ys.drop (i + 1)), q || lts (ys.drop (i + 1)) (xs.drop (i + 1))) := fun p q => by
      have := ih (IR xs, IR ys, p, q, ((i + 1 : Nat) : Int)) ⟨xs, ys, i + 1, p, q, hx, hy, by omega, rfl⟩ (by simp only [Int.toNat_natCast]; omega)
      simpa only [f11L, unI_IR, Int.toNat_natCast] using this
    have p1 : (0 : Int) ≤ (i : Int) ∧ (i : Int) < ((xs.length : Nat) : Int) := by omega
    have p2 : (0 : Int) ≤ (i : Int) ∧ (i : Int) < ((ys.length : Nat) : Int) := by omega
    rw [if_pos (by omega), drop_ni xs i (by omega), drop_ni ys i (by omega)]
    simp only [if_pos p1, if_pos p2, hw, hF, Option.bind_fun_some, lts]
    cases p <;> cases q <;> simp
  · have : i = 35 := by omega
    subst this
    rw [if_neg (by omega), List.drop_of_length_le (by omega), List.drop_of_length_le (by omega)]
    simp [lts]

theorem s11 : Sd11 (prt (fun a => ∃ x y : List By, a = (R x, R y)) fun _ => true) := by
  refine of_prt (ok11 _ _ _ s28 s29 s11L) ?_
  rintro _ ⟨x, y, rfl⟩
  unfold t11
  simp only [sh0_eq, R_len, cond_dec, e28, Option.bind_some]
  by_cases h1 : (x.length : Int) > 200
  · rw [if_pos h1]
  · rw [if_neg h1]
    by_cases h2 : (y.length : Int) > 200
    · rw [if_pos h2]
    · rw [if_neg h2, e29 x (by omega), Option.bind_some, e29 y (by omega), Option.bind_some]
      have e : prt p11L f11L (IR (dg x), IR (dg y), false, false, (0 : Int)) = some (lts (dg x) (dg y), lts (dg y) (dg x)) := by
        rw [prt_eq (by exact ⟨_, _, 0, false, false, dg_len x, dg_len y, by omega, rfl⟩)]
        simp [f11L, unI_IR]
      simp only [IR_len, dg_len, e, Option.bind_some, lts_dg x y]
      simp

end Go.Proofs.Dig
