/- Signatures: digests as one thing; digits of messages. -/
import Derived.Test.YtjmpecjcnmdnaaaP
import Derived.Test.YtjmpecjcnmdnaaaG3
import Derived.Test.YtjmpecjcnmdnaaaL11
import Derived.Test.YtjmpecjcnmdnaaaM
import Derived.Test.YtjmpecjcnmdnaaaL12
set_option linter.unusedVariables false
set_option linter.unusedSimpArgs false

namespace Go.Proofs.Dig
open Go Go.Ev Go.Proofs.SmG

/-! ### Digests -/
abbrev D := { bs : List By // bs.length = 32 }
def N (d : D) : List Int := nI d.1
def Q (d : D) : Rows := R d.1
def sumD (n : W) (bs : List By) : D := ⟨sum n bs, sum_len n bs⟩
def zD : D := ⟨zs, zs_len⟩
instance : Inhabited D := ⟨zD⟩
theorem N_inj {a b : D} (h : N a = N b) : a = b := Subtype.ext (nI_inj h)
theorem pkN (d : D) : pkL (N d) 32 = N d := pkL_nI d.2
theorem cdN (d : D) : colD (mapD .u8 (N d)) = Q d := colD_nI d.1
theorem cQ (d : D) : colI (Q d) 32 = N d := colI_R d.2
theorem Q_len (d : D) : (Q d).length = 32 := by rw [Q, R_len]; exact d.2
theorem eqN (a b : D) : eqI (N a) (N b) 32 = decide (a = b) := by
  unfold N
  rw [eqI_nI a.2 b.2]
  exact decide_eq_decide.2 ⟨fun h => Subtype.ext h, fun h => congrArg _ h⟩
theorem repQ : (List.replicate 32 [DL.int .u8 (0 : Int)] : Rows) = Q zD := rep32
theorem repN : (List.replicate 32 (0 : Int) : List Int) = N zD := zeroI 32
theorem is32N (d : D) : is32 (N d) := ⟨d.1, rfl, d.2⟩
theorem ex_D {l : List Int} (h : is32 l) : ∃ d : D, l = N d := by
  obtain ⟨bs, rfl, hb⟩ := h; exact ⟨⟨bs, hb⟩, rfl⟩
def dR (d : D) : List DL := mapD .u8 (N d)
def DR (ds : List D) : Rows := ds.map dR
theorem DR_len (ds : List D) : (DR ds).length = ds.length := by simp [DR]
theorem DR_app (a b : List D) : DR a ++ DR b = DR (a ++ b) := by simp [DR]
theorem DR_one (d : D) : ([mapD .u8 (N d)] : Rows) = DR [d] := rfl
def gd (ds : List D) (i : Nat) : D := ds.getD i zD
theorem rowDR (ds : List D) (i : Nat) (h : i < ds.length) : rowI (DR ds) i 32 = N (gd ds i) := by
  have e : gd ds i = ds[i] := by unfold gd; rw [List.getD_eq_getElem?_getD, List.getElem?_eq_getElem h]; rfl
  rw [e]
  have e2 : (DR ds).getD i [] = dR ds[i] := by
    rw [List.getD_eq_getElem?_getD, DR, List.getElem?_map, List.getElem?_eq_getElem h]; rfl
  unfold rowI cellAt
  rw [e2]
  obtain ⟨bs, hb⟩ := ds[i]
  show (List.range 32).map (fun j => ((dR ⟨bs, hb⟩).getD j (.bool false)).getI) = nI bs
  rw [← range_nb bs, hb]
  refine List.map_congr_left fun j hj => ?_
  have hj : j < 32 := by simpa using hj
  unfold dR N mapD nI
  rw [List.map_map, List.getD_eq_getElem?_getD, List.getElem?_map, nb_get, List.getElem?_eq_getElem (show j < bs.length by omega)]
  rfl
theorem drop_gd (ds : List D) (i : Nat) (h : i < ds.length) : ds.drop i = gd ds i :: ds.drop (i + 1) := by
  rw [List.drop_eq_getElem_cons h]
  unfold gd; rw [List.getD_eq_getElem?_getD, List.getElem?_eq_getElem h]; rfl

theorem room25 {n : Nat} (h : n ≤ 100000) : roomE Try.prog 25 n = true := by
  have h1 : rowOk Try.prog 25 = true := by kernel_rfl
  have h2 : Try.prog.bytesOf 25 = 32 := by kernel_rfl
  unfold roomE
  rw [h1, h2]
  simp; omega
theorem room3 {n : Nat} (h : n ≤ 100000) : roomE Try.prog 3 n = true := by
  have h1 : rowOk Try.prog 3 = true := by kernel_rfl
  have h2 : Try.prog.bytesOf 3 = 8 := by kernel_rfl
  unfold roomE
  rw [h1, h2]
  simp; omega

theorem k47 (d : W) (bs : List By) (h : bs.length ≤ 5000) : prt isB f47 (w d, R bs) = some (N (sumD d bs)) := e47 d bs h
theorem k61 (d : W) (a : D) (b : List By) (h : b.length ≤ 900) : prt p61 f61 (w d, N a, R b) = some (N (sumD d (a.1 ++ b))) := by
  rw [prt_eq (by exact ⟨isW_w d, ⟨a.1, rfl, a.2⟩, ⟨b, rfl, h⟩⟩)]
  simp only [f61, of_w, N, bI_nI, byOf_R, sumD]
theorem k65 (d : W) (a b : D) : prt p65 f65 (w d, N a, N b) = some (N (sumD d (a.1 ++ b.1))) := by
  rw [prt_eq (by exact ⟨isW_w d, ⟨a.1, rfl, a.2⟩, ⟨b.1, rfl, b.2⟩⟩)]
  simp only [f65, of_w, N, bI_nI, sumD]
theorem k71 (a : D) : prt is32 f71 (N a) = some (Q a) := by
  rw [prt_eq (by exact ⟨a.1, rfl, a.2⟩)]
  simp only [f71, N, bI_nI, Q]

/-! ### Numbers -/
def IR (xs : List Int) : Rows := xs.map fun n => [DL.int .i64 n]
def ni (xs : List Int) (i : Nat) : Int := xs.getD i 0
theorem IR_len (xs : List Int) : (IR xs).length = xs.length := by simp [IR]
theorem IR_app (a b : List Int) : IR a ++ IR b = IR (a ++ b) := by simp [IR]
theorem cIR (xs : List Int) (i : Nat) : (cellAt (IR xs) i 0).getI = ni xs i := by
  have e : (IR xs).getD i [] = ((xs[i]?).map fun n => [DL.int .i64 n]).getD [] := by
    rw [List.getD_eq_getElem?_getD, IR, List.getElem?_map]
  unfold cellAt ni
  rw [e, List.getD_eq_getElem?_getD (l := xs)]
  cases xs[i]? <;> rfl
theorem drop_ni (xs : List Int) (i : Nat) (h : i < xs.length) : xs.drop i = ni xs i :: xs.drop (i + 1) := by
  rw [List.drop_eq_getElem_cons h]
  unfold ni; rw [List.getD_eq_getElem?_getD, List.getElem?_eq_getElem h]; rfl
def unI (r : Rows) : List Int := r.map fun x => (x.headD default).getI
theorem unI_IR (xs : List Int) : unI (IR xs) = xs := by
  unfold unI IR
  rw [List.map_map]
  have e : ((fun (x : List DL) => (x.headD default).getI) ∘ fun (n : Int) => [DL.int .i64 n]) = id := funext fun n => rfl
  rw [e, List.map_id]
theorem IR_inj {a b : List Int} (h : IR a = IR b) : a = b := by rw [← unI_IR a, h, unI_IR]

/-! ### Digits -/
def hv (bs : List By) : List Int := bs.flatMap fun b => [((b.toNat / 16 : Nat) : Int), ((b.toNat % 16 : Nat) : Int)]
theorem hv_len (bs : List By) : (hv bs).length = 2 * bs.length := by
  induction bs with
  | nil => rfl
  | cons b r ih => simp only [hv, List.flatMap_cons, List.length_append, List.length_cons, List.length_nil] at ih ⊢; omega
theorem hv_bd (bs : List By) : ∀ x ∈ hv bs, 0 ≤ x ∧ x ≤ 15 := by
  intro x hx
  simp only [hv, List.mem_flatMap, List.mem_cons, List.not_mem_nil, or_false] at hx
  obtain ⟨b, _, h | h⟩ := hx <;> have := b.isLt <;> omega
def gap : List Int → Int
  | [] => 0
  | x :: r => (15 - x) + gap r
theorem gap_bd : ∀ (l : List Int), (∀ x ∈ l, 0 ≤ x ∧ x ≤ 15) → 0 ≤ gap l ∧ gap l ≤ 15 * l.length := by
  intro l
  induction l with
  | nil => intro _; simp [gap]
  | cons x r ih =>
    intro h
    have h1 := ih fun y hy => h y (List.mem_cons_of_mem _ hy)
    have h2 := h x (List.mem_cons_self ..)
    simp only [gap, List.length_cons]
    omega
def cks (s : Int) : List Int := [s / 256, s / 16 % 16, s % 16]
def dg (m : List By) : List Int := hv ((sum 390 m).take 16) ++ cks (gap (hv ((sum 390 m).take 16)))
theorem hd_len (m : List By) : (hv ((sum 390 m).take 16)).length = 32 := by
  rw [hv_len, List.length_take, sum_len]; rfl
theorem dg_len (m : List By) : (dg m).length = 35 := by
  unfold dg; rw [List.length_append, hd_len]; rfl

/-! 48: halves -/
theorem and15 (n : Nat) (k : Nat) (hk : 4 ≤ k) (hn : n < 2 ^ k) : (BitVec.ofInt k ((n : Nat) : Int) &&& BitVec.ofInt k (15 : Int)).toNat = n % 16 := by
  rw [BitVec.ofInt_natCast, show (15 : Int) = ((15 : Nat) : Int) from rfl, BitVec.ofInt_natCast, BitVec.toNat_and, BitVec.toNat_ofNat, BitVec.toNat_ofNat, Nat.mod_eq_of_lt hn]
  have h16 : (15 : Nat) < 2 ^ k := Nat.lt_of_lt_of_le (by decide : 15 < 2 ^ 4) (Nat.pow_le_pow_right (by decide) hk)
  rw [Nat.mod_eq_of_lt h16, show (15 : Nat) = 2 ^ 4 - 1 from rfl, Nat.and_two_pow_sub_one_eq_mod]

def p48L (a : iL48_3) : Prop := ∃ (bs : List By) (i : Nat) (out : List Int), bs.length ≤ 1000 ∧ i ≤ bs.length ∧ out.length ≤ 2 * i ∧ a = (R bs, (i : Int), IR out)
def f48L (a : iL48_3) : oL48_3 := IR (unI a.2.2 ++ hv ((byOf a.1).drop a.2.1.toNat))
theorem s48L : SdL48_3 (prt p48L f48L) := by
  refine of_iterL (step := fun l a => u48_3 sh0 l a.1 a.2.1 a.2.2 some) okL48_3 (fun a => (byOf a.1).length - a.2.1.toNat) ?_
  rintro F _ ⟨bs, i, out, hb, hi, ho, rfl⟩ ih
  unfold u48_3
  simp only [sh0_eq, R_len, cond_dec, f48L, byOf_R, unI_IR, Int.toNat_natCast, cR]
  by_cases hlt : i < bs.length
  · have hw : IntKind.i64.wrap ((i : Int) + 1) = ((i + 1 : Nat) : Int) := by rw [wrap_i64 (by omega) (by omega)]; omega
    have hb8 := (nb bs i).isLt
    have h1 : IntKind.i64.wrap (Int.fdiv (((nb bs i).toNat : Nat) : Int) 16) = (((nb bs i).toNat / 16 : Nat) : Int) := by
      rw [Int.fdiv_eq_ediv_of_nonneg _ (by omega), wrap_i64 (by omega) (by omega)]; omega
    have h2 : IntKind.i64.wrap (IntKind.u8.wrap (((BitVec.ofInt 8 (((nb bs i).toNat : Nat) : Int) &&& BitVec.ofInt 8 (15 : Int)).toNat : Nat) : Int)) = (((nb bs i).toNat % 16 : Nat) : Int) := by
      rw [and15 _ 8 (by omega) (by omega), wrap_u8, wrap_i64 (by omega) (by omega)]; omega
    have hF := ih (R bs, ((i + 1 : Nat) : Int), IR (out ++ hv [nb bs i])) ⟨bs, i + 1, _, hb, by omega, by rw [List.length_append, hv_len]; simp; omega, rfl⟩ (by simp only [byOf_R, Int.toNat_natCast]; omega)
    have hh : ([[DL.int .i64 (((nb bs i).toNat / 16 : Nat) : Int)], [DL.int .i64 (((nb bs i).toNat % 16 : Nat) : Int)]] : Rows) = IR (hv [nb bs i]) := rfl
    rw [if_pos (by omega), if_pos (by omega), if_pos (by omega), h1, h2, hh, hw, IR_app]
    simp only [IR_len]
    rw [room3 (by rw [hv_len]; simp; omega), cond_true, Option.bind_fun_some, hF]
    simp only [f48L, unI_IR, byOf_R, Int.toNat_natCast]
    rw [drop_nb bs i hlt]
    simp [hv]
  · have : i = bs.length := by omega
    subst this
    rw [if_neg (by omega), List.drop_length]
    simp [hv]
def p48 (a : i48) : Prop := ∃ bs : List By, a = R bs ∧ bs.length ≤ 1000
def f48 (a : i48) : o48 := IR (hv (byOf a))
theorem s48 : Sd48 (prt p48 f48) := by
  refine of_prt (ok48 _ s48L) ?_
  rintro _ ⟨bs, rfl, hb⟩
  unfold t48
  have hw : IntKind.i64.wrap ((2 : Int) * (bs.length : Int)) = ((2 * bs.length : Nat) : Int) := by rw [wrap_i64 (by omega) (by omega)]; omega
  have e : prt p48L f48L (R bs, (0 : Int), ([] : Rows)) = some (IR (hv bs)) := by
    rw [prt_eq (by exact ⟨bs, 0, [], hb, by omega, by simp, rfl⟩)]
    simp only [f48L, byOf_R]
    simp [unI]
  simp only [sh0_eq, R_len, hw, Int.toNat_natCast, room3 (n := 2 * bs.length) (by omega), Bool.and_true]
  rw [decide_eq_true (by omega), cond_true, e]
  simp only [Option.bind_some, f48, byOf_R]
theorem e48 (bs : List By) (h : bs.length ≤ 1000) : prt p48 f48 (R bs) = some (IR (hv bs)) := by
  rw [prt_eq (by exact ⟨bs, rfl, h⟩)]
  simp only [f48, byOf_R]

/-! 29: Digits -/
theorem ni_mem (xs : List Int) (i : Nat) (h : i < xs.length) : ni xs i ∈ xs := by
  unfold ni; rw [List.getD_eq_getElem?_getD, List.getElem?_eq_getElem h]; exact List.getElem_mem h
def p29L (a : iL29_5) : Prop := ∃ (xs : List Int) (i : Nat) (s : Int), xs.length = 32 ∧ (∀ x ∈ xs, 0 ≤ x ∧ x ≤ 15) ∧ i ≤ 32 ∧ 0 ≤ s ∧ s ≤ 15 * i ∧ a = (s, (i : Int), IR xs)
def f29L (a : iL29_5) : oL29_5 := (a.1 + gap ((unI a.2.2).drop a.2.1.toNat), a.2.2)
theorem s29L : SdL29_5 (prt p29L f29L) := by
  refine of_iterL (step := fun l a => u29_5 sh0 l a.1 a.2.1 a.2.2 some) okL29_5 (fun a => 32 - a.2.1.toNat) ?_
  rintro F _ ⟨xs, i, s, hl, hx, hi, h0, hs, rfl⟩ ih
  unfold u29_5
  simp only [sh0_eq, IR_len, cond_dec, f29L, unI_IR, Int.toNat_natCast, cIR, hl]
  by_cases hlt : i < 32
  · have hw : IntKind.i64.wrap ((i : Int) + 1) = ((i + 1 : Nat) : Int) := by rw [wrap_i64 (by omega) (by omega)]; omega
    have hb := hx _ (ni_mem xs i (by omega))
    have h1 : IntKind.i64.wrap (s + IntKind.i64.wrap (15 - ni xs i)) = s + (15 - ni xs i) := by
      rw [wrap_i64 (n := 15 - ni xs i) (by omega) (by omega), wrap_i64 (by omega) (by omega)]
    have hF := ih (s + (15 - ni xs i), ((i + 1 : Nat) : Int), IR xs) ⟨xs, i + 1, _, hl, hx, by omega, by omega, by omega, rfl⟩ (by simp only [Int.toNat_natCast]; omega)
    rw [if_pos (by omega), if_pos (by omega), if_pos (by omega), h1, hw, Option.bind_fun_some, hF]
    simp only [f29L, unI_IR, Int.toNat_natCast]
    rw [drop_ni xs i (by omega), gap, Int.add_assoc]
  · have : i = 32 := by omega
    subst this
    rw [if_neg (by omega), List.drop_of_length_le (by omega)]
    simp [gap]
def isM (a : Rows) : Prop := ∃ bs : List By, a = R bs ∧ bs.length ≤ 1000
def f29 (a : i29) : o29 := IR (dg (byOf a))
theorem w390 : w 390 = 390 := rfl
theorem s29 : Sd29 (prt isM f29) := by
  refine of_prt (ok29 _ _ _ s47 s48 s29L) ?_
  rintro _ ⟨bs, rfl, hb⟩
  unfold t29
  have h47 := k47 390 bs (by omega)
  rw [w390] at h47
  have hl := hd_len bs
  have hbd := hv_bd ((sum 390 bs).take 16)
  have hg := gap_bd _ hbd
  rw [hl] at hg
  simp only [sh0_eq, h47, Option.bind_some, repQ, Q_len, decide_true, cond_true, pkN, cdN, Bool.and_self, List.drop_zero]
  rw [show (Q (sumD 390 bs)).take 16 = R ((sum 390 bs).take 16) from R_take _ _, e48 _ (by rw [List.length_take]; omega)]
  simp only [f29, byOf_R, dg]
  generalize hv ((sum 390 bs).take 16) = h at hl hbd hg
  have e : prt p29L f29L ((0 : Int), (0 : Int), IR h) = some (gap h, IR h) := by
    rw [prt_eq (by exact ⟨h, 0, 0, hl, hbd, by omega, by omega, by omega, rfl⟩)]
    simp [f29L, unI_IR]
  obtain ⟨g, hg'⟩ := Int.eq_ofNat_of_zero_le hg.1
  simp only [Option.bind_some, e, hg']
  rw [Int.fdiv_eq_ediv_of_nonneg _ (by omega), Int.fdiv_eq_ediv_of_nonneg _ (by omega), show ((g : Int) / 256) = ((g / 256 : Nat) : Int) by omega, show ((g : Int) / 16) = ((g / 16 : Nat) : Int) by omega,
    and15 _ 64 (by omega) (by omega), and15 _ 64 (by omega) (by omega), and15 _ 64 (by omega) (by omega), wrap_i64 (by omega) (by omega), wrap_i64 (by omega) (by omega), wrap_i64 (by omega) (by omega)]
  have hc : ([[DL.int .i64 ((g / 256 % 16 : Nat) : Int)], [DL.int .i64 ((g / 16 % 16 : Nat) : Int)], [DL.int .i64 ((g % 16 : Nat) : Int)]] : Rows) = IR (cks (g : Int)) := by
    have c1 : (((g / 256 % 16 : Nat) : Int)) = (g : Int) / 256 := by omega
    have c2 : (((g / 16 % 16 : Nat) : Int)) = (g : Int) / 16 % 16 := by omega
    have c3 : (((g % 16 : Nat) : Int)) = (g : Int) % 16 := by omega
    rw [c1, c2, c3]
    rfl
  rw [hc, IR_app, IR_len]
  simp only [IR_len]
  rw [room3 (by rw [hl]; simp [cks])]
  rfl
theorem e29 (bs : List By) (h : bs.length ≤ 1000) : prt isM f29 (R bs) = some (IR (dg bs)) := by
  rw [prt_eq (by exact ⟨bs, rfl, h⟩)]
  simp only [f29, byOf_R]

end Go.Proofs.Dig

namespace Go.Proofs.Dig
open Go Go.Ev Go.Proofs.SmG

/-! 31: the reference's Digits -/
theorem s50' : Sd50 (prt isB f47) := s50
theorem gap_app (a b : List Int) : gap (a ++ b) = gap a + gap b := by
  induction a with
  | nil => simp [gap]
  | cons x r ih => simp only [List.cons_append, gap, ih]; omega
def p31L (a : iL31_5) : Prop := ∃ (ds : D) (out : List Int) (i : Nat) (s : Int), i ≤ 16 ∧ out.length ≤ 100 + 2 * i ∧ 0 ≤ s ∧ s ≤ 30 * i ∧ a = (s, (i : Int), Q ds, IR out)
def rest (ds : List By) (i : Nat) : List Int := hv ((ds.take 16).drop i)
def f31L (a : iL31_5) : oL31_5 := (a.1 + gap (rest (byOf a.2.2.1) a.2.1.toNat), IR (unI a.2.2.2 ++ rest (byOf a.2.2.1) a.2.1.toNat))
theorem cQn (d : D) (i : Nat) : (cellAt (Q d) i 0).getI = ((nb d.1 i).toNat : Int) := cR d.1 i
theorem s31L : SdL31_5 (prt p31L f31L) := by
  refine of_iterL (step := fun l a => u31_5 sh0 l a.1 a.2.1 a.2.2.1 a.2.2.2 some) okL31_5 (fun a => 16 - a.2.1.toNat) ?_
  rintro F _ ⟨ds, out, i, s, hi, ho, h0, hs, rfl⟩ ih
  unfold u31_5
  simp only [sh0_eq, IR_len, Q_len, cond_dec, f31L, unI_IR, Int.toNat_natCast, cQn, show byOf (Q ds) = ds.1 from byOf_R _]
  by_cases hlt : i < 16
  · have hw : IntKind.i64.wrap ((i : Int) + 1) = ((i + 1 : Nat) : Int) := by rw [wrap_i64 (by omega) (by omega)]; omega
    have hb8 := (nb ds.1 i).isLt
    have h1 : IntKind.i64.wrap (IntKind.u8.wrap (Int.tdiv (((nb ds.1 i).toNat : Nat) : Int) 16)) = (((nb ds.1 i).toNat / 16 : Nat) : Int) := by
      rw [Int.tdiv_eq_ediv_of_nonneg (by omega), wrap_u8, wrap_i64 (by omega) (by omega)]; omega
    have h2 : IntKind.i64.wrap (Int.tmod (((nb ds.1 i).toNat : Nat) : Int) 16) = (((nb ds.1 i).toNat % 16 : Nat) : Int) := by
      rw [Int.tmod_eq_emod_of_nonneg (by omega), wrap_i64 (by omega) (by omega)]; omega
    simp only [h1, h2]
    have hh : ([[DL.int .i64 (((nb ds.1 i).toNat / 16 : Nat) : Int)], [DL.int .i64 (((nb ds.1 i).toNat % 16 : Nat) : Int)]] : Rows) = IR (hv [nb ds.1 i]) := rfl
    have hr : rest ds.1 i = hv [nb ds.1 i] ++ rest ds.1 (i + 1) := by
      have hl : i < (ds.1.take 16).length := by rw [List.length_take, ds.2]; omega
      have hn : nb (ds.1.take 16) i = nb ds.1 i := by rw [nb_get, nb_get, List.getElem?_take_of_lt hlt]
      unfold rest
      rw [drop_nb _ i hl, hn]
      simp [hv]
    have hg : gap (hv [nb ds.1 i]) = (15 - (((nb ds.1 i).toNat / 16 : Nat) : Int)) + (15 - (((nb ds.1 i).toNat % 16 : Nat) : Int)) := by
      simp [hv, gap]
    have h3 : IntKind.i64.wrap (IntKind.i64.wrap (IntKind.i64.wrap (IntKind.i64.wrap (s + 15) - (((nb ds.1 i).toNat / 16 : Nat) : Int)) + 15) - (((nb ds.1 i).toNat % 16 : Nat) : Int)) = s + gap (hv [nb ds.1 i]) := by
      rw [wrap_i64 (n := s + 15) (by omega) (by omega), wrap_i64 (n := s + 15 - (((nb ds.1 i).toNat / 16 : Nat) : Int)) (by omega) (by omega), wrap_i64 (n := s + 15 - (((nb ds.1 i).toNat / 16 : Nat) : Int) + 15) (by omega) (by omega), wrap_i64 (by omega) (by omega), hg]
      omega
    have hF := ih (s + gap (hv [nb ds.1 i]), ((i + 1 : Nat) : Int), Q ds, IR (out ++ hv [nb ds.1 i])) ⟨ds, _, i + 1, _, by omega, by rw [List.length_append, hv_len]; simp; omega, by rw [hg]; omega, by rw [hg]; omega, rfl⟩ (by simp only [Int.toNat_natCast]; omega)
    simp only [h3, hh, hw, IR_app, IR_len]
    rw [if_pos (by omega), if_pos (by omega), if_pos (by omega), if_pos (by omega), if_pos (by omega), room3 (by rw [hv_len]; simp; omega), cond_true, Option.bind_fun_some, hF]
    simp only [f31L, unI_IR, Int.toNat_natCast, show byOf (Q ds) = ds.1 from byOf_R _]
    rw [hr, gap_app, Int.add_assoc, List.append_assoc]
  · have : i = 16 := by omega
    subst this
    have hr : rest ds.1 16 = [] := by unfold rest; rw [List.drop_of_length_le (by rw [List.length_take]; omega)]; rfl
    rw [if_neg (by omega), hr]
    simp [gap]
theorem s31 : Sd31 (prt isM f29) := by
  refine of_prt (ok31 _ _ s50 s31L) ?_
  rintro _ ⟨bs, rfl, hb⟩
  unfold t31
  have h47 := k47 390 bs (by omega)
  rw [w390] at h47
  have hl := hd_len bs
  have hbd := hv_bd ((sum 390 bs).take 16)
  have hg := gap_bd _ hbd
  rw [hl] at hg
  have e : prt p31L f31L ((0 : Int), (0 : Int), Q (sumD 390 bs), ([] : Rows)) = some (gap (hv ((sum 390 bs).take 16)), IR (hv ((sum 390 bs).take 16))) := by
    rw [prt_eq (by exact ⟨sumD 390 bs, [], 0, 0, by omega, by simp, by omega, by omega, rfl⟩)]
    have hb' : byOf (Q (sumD 390 bs)) = sum 390 bs := byOf_R _
    simp only [f31L, rest, hb', Int.toNat_zero, List.drop_zero, Int.zero_add, unI, List.map_nil, List.nil_append]
  simp only [sh0_eq, h47, Option.bind_some, repQ, Q_len, decide_true, cond_true, pkN, cdN, e]
  simp only [f29, byOf_R, dg]
  generalize hv ((sum 390 bs).take 16) = h at hl hbd hg
  obtain ⟨g, hg'⟩ := Int.eq_ofNat_of_zero_le hg.1
  rw [hg']
  rw [Int.tdiv_eq_ediv_of_nonneg (by omega), Int.tdiv_eq_ediv_of_nonneg (by omega), wrap_i64 (n := (g : Int) / 256) (by omega) (by omega), wrap_i64 (n := (g : Int) / 16) (by omega) (by omega), Int.tmod_eq_emod_of_nonneg (by omega), Int.tmod_eq_emod_of_nonneg (by omega)]
  have hc : ([[DL.int .i64 ((g : Int) / 256)], [DL.int .i64 ((g : Int) / 16 % 16)], [DL.int .i64 ((g : Int) % 16)]] : Rows) = IR (cks (g : Int)) := rfl
  rw [hc, IR_app, IR_len]
  simp only [IR_len]
  rw [room3 (by rw [hl]; simp [cks])]
  rfl

/-! 49, 30: SameInts -/
def p49L (a : iL49_4) : Prop := ∃ (xs ys : List Int) (i : Nat), xs.length = ys.length ∧ xs.length ≤ 100000 ∧ i ≤ xs.length ∧ a = (IR xs, IR ys, (i : Int))
def f49L (a : iL49_4) : oL49_4 := if (unI a.1).drop a.2.2.toNat = (unI a.2.1).drop a.2.2.toNat then .inr () else .inl false
theorem s49L : SdL49_4 (prt p49L f49L) := by
  refine of_iterL (step := fun l a => u49_4 sh0 l a.1 a.2.1 a.2.2 some) okL49_4 (fun a => (unI a.1).length - a.2.2.toNat) ?_
  rintro F _ ⟨xs, ys, i, hl, hb, hi, rfl⟩ ih
  unfold u49_4
  simp only [sh0_eq, IR_len, cond_dec, f49L, unI_IR, Int.toNat_natCast, cIR]
  by_cases hlt : i < xs.length
  · have hw : IntKind.i64.wrap ((i : Int) + 1) = ((i + 1 : Nat) : Int) := by rw [wrap_i64 (by omega) (by omega)]; omega
    rw [if_pos (by omega), if_pos (by omega), if_pos (by omega), drop_ni xs i hlt, drop_ni ys i (by omega)]
    by_cases he : ni xs i = ni ys i
    · have hF := ih (IR xs, IR ys, ((i + 1 : Nat) : Int)) ⟨xs, ys, i + 1, hl, hb, by omega, rfl⟩ (by simp only [unI_IR, Int.toNat_natCast]; omega)
      rw [he, bne_self_eq_false, cond_false, hw, Option.bind_fun_some, hF]
      simp only [f49L, unI_IR, Int.toNat_natCast, List.cons.injEq, true_and]
    · rw [show (ni xs i != ni ys i) = true by simp [he], cond_true, if_neg (by simp [he])]
  · rw [if_neg (by omega), List.drop_of_length_le (by omega), List.drop_of_length_le (by omega), if_pos rfl]
def p49 (a : i49) : Prop := ∃ xs ys : List Int, xs.length ≤ 100000 ∧ a = (IR xs, IR ys)
def f49 (a : i49) : o49 := decide (unI a.1 = unI a.2)
theorem s49 : Sd49 (prt p49 f49) := by
  refine of_prt (ok49 _ s49L) ?_
  rintro _ ⟨xs, ys, hb, rfl⟩
  unfold t49
  simp only [sh0_eq, IR_len, f49, unI_IR]
  by_cases hl : xs.length = ys.length
  · have e : prt p49L f49L (IR xs, IR ys, (0 : Int)) = some (if xs = ys then .inr () else .inl false) := by
      rw [prt_eq (by exact ⟨xs, ys, 0, hl, hb, by omega, rfl⟩)]
      simp [f49L, unI_IR]
    rw [hl, bne_self_eq_false, cond_false, e, Option.bind_some]
    by_cases h : xs = ys
    · rw [if_pos h, decide_eq_true h]; rfl
    · rw [if_neg h, decide_eq_false h]; rfl
  · rw [show (((xs.length : Nat) : Int) != ((ys.length : Nat) : Int)) = true by simp; omega, cond_true, decide_eq_false (fun h => hl (by rw [h]))]
theorem s30 : Sd30 (prt p49 f49) := by
  refine of_prt (ok30 _ s49) ?_
  rintro a ha
  unfold t30
  rw [prt_eq (by exact ha)]
  rfl
theorem e30 (xs ys : List Int) (h : xs.length ≤ 100000) : prt p49 f49 (IR xs, IR ys) = some (decide (xs = ys)) := by
  rw [prt_eq (by exact ⟨xs, ys, h, rfl⟩)]
  simp only [f49, unI_IR]

theorem s28 : Sd28 (tot fun _ => true) := by
  refine of_tot (ok28 _ _ _ s29 s31 s30) ?_
  intro a
  have e := e29 [] (by simp)
  unfold t28
  rw [show ([] : Rows) = R [] from rfl, e, Option.bind_some, Option.bind_some, e30 _ _ (by rw [dg_len]; omega)]
  simp
theorem e28 (u : Unit) : (tot fun (_ : i28) => true) u = some true := rfl

/-! 10 -/
theorem cks_bd (s : Int) (h0 : 0 ≤ s) (h : s ≤ 480) : ∀ x ∈ cks s, 0 ≤ x ∧ x ≤ 15 := by
  intro x hx
  simp only [cks, List.mem_cons, List.not_mem_nil, or_false] at hx
  obtain h | h | h := hx <;> omega
theorem dg_bd (m : List By) : ∀ x ∈ dg m, 0 ≤ x ∧ x ≤ 15 := by
  intro x hx
  unfold dg at hx
  have hbd := hv_bd ((sum 390 m).take 16)
  have hg := gap_bd _ hbd
  rw [hd_len] at hg
  rcases List.mem_append.1 hx with h | h
  · exact hbd x h
  · exact cks_bd _ hg.1 (by omega) x h

/-! 11 -/
def lts : List Int → List Int → Bool
  | x :: xs, y :: ys => decide (x < y) || lts xs ys
  | _, _ => false
theorem lts_app : ∀ (a b c d : List Int), a.length = b.length → lts (a ++ c) (b ++ d) = (lts a b || lts c d)
  | [], [], c, d, _ => by simp [lts]
  | x :: a, y :: b, c, d, h => by simp only [List.cons_append, lts, lts_app a b c d (by simpa using h), Bool.or_assoc]
theorem lts_gap : ∀ (a b : List Int), a.length = b.length → lts a b = false → gap a ≤ gap b ∧ (lts b a = true → gap a < gap b) ∧ (lts b a = false → a = b)
  | [], [], _, _ => ⟨Int.le_refl _, by simp [lts], fun _ => rfl⟩
  | x :: a, y :: b, h, hl => by
    simp only [lts, Bool.or_eq_false_iff, decide_eq_false_iff_not] at hl
    obtain ⟨h1, h2, h3⟩ := lts_gap a b (by simpa using h) hl.2
    simp only [lts, gap, Bool.or_eq_true, decide_eq_true_eq, Bool.or_eq_false_iff, decide_eq_false_iff_not]
    refine ⟨by omega, ?_, ?_⟩
    · rintro (h4 | h4)
      · omega
      · have := h2 h4; omega
    · rintro ⟨h4, h5⟩
      rw [h3 h5, show x = y by omega]
theorem lts_cks (s t : Int) (h0 : 0 ≤ s) (h : s < t) (ht : t ≤ 480) : lts (cks s) (cks t) = true := by
  simp only [cks, lts, Bool.or_false, Bool.or_eq_true, decide_eq_true_eq]
  omega
theorem lts_self : ∀ a : List Int, lts a a = false
  | [] => rfl
  | x :: a => by simp [lts, lts_self a]
theorem lts_dg (a b : List By) : lts (dg a) (dg b) = lts (dg b) (dg a) := by
  unfold dg
  have ha := hd_len a
  have hb := hd_len b
  have ga := gap_bd _ (hv_bd ((sum 390 a).take 16))
  have gb := gap_bd _ (hv_bd ((sum 390 b).take 16))
  rw [ha] at ga
  rw [hb] at gb
  generalize hv ((sum 390 a).take 16) = x at *
  generalize hv ((sum 390 b).take 16) = y at *
  rw [lts_app _ _ _ _ (by omega), lts_app _ _ _ _ (by omega)]
  cases h1 : lts x y with
  | true =>
    cases h2 : lts y x with
    | true => simp
    | false =>
      obtain ⟨_, h3, _⟩ := lts_gap y x (by omega) h2
      rw [lts_cks (gap y) (gap x) gb.1 (h3 h1) (by omega)]
      simp
  | false =>
    obtain ⟨_, h3, h4⟩ := lts_gap x y (by omega) h1
    cases h2 : lts y x with
    | true =>
      rw [lts_cks (gap x) (gap y) ga.1 (h3 h2) (by omega)]
      simp
    | false => rw [h4 h2]

def p11L (a : iL11_8) : Prop := ∃ (xs ys : List Int) (i : Nat) (p q : Bool), xs.length = 35 ∧ ys.length = 35 ∧ i ≤ 35 ∧ a = (IR xs, IR ys, p, q, (i : Int))
def f11L (a : iL11_8) : oL11_8 :=
  (a.2.2.1 || lts ((unI a.1).drop a.2.2.2.2.toNat) ((unI a.2.1).drop a.2.2.2.2.toNat), a.2.2.2.1 || lts ((unI a.2.1).drop a.2.2.2.2.toNat) ((unI a.1).drop a.2.2.2.2.toNat))
theorem s11L : SdL11_8 (prt p11L f11L) := by
  refine of_iterL (step := fun l a => u11_8 sh0 l a.1 a.2.1 a.2.2.1 a.2.2.2.1 a.2.2.2.2 some) okL11_8 (fun a => 35 - a.2.2.2.2.toNat) ?_
  rintro F _ ⟨xs, ys, i, p, q, hx, hy, hi, rfl⟩ ih
  unfold u11_8
  simp only [sh0_eq, IR_len, cond_dec, f11L, unI_IR, Int.toNat_natCast, cIR]
  by_cases hlt : i < 35
  · have hw : IntKind.i64.wrap ((i : Int) + 1) = ((i + 1 : Nat) : Int) := by rw [wrap_i64 (by omega) (by omega)]; omega
    have hF : ∀ p q, F (IR xs, IR ys, p, q, ((i + 1 : Nat) : Int)) = some (p || lts (xs.drop (i + 1)) (ys.drop (i + 1)), q || lts (ys.drop (i + 1)) (xs.drop (i + 1))) := fun p q => by
      have := ih (IR xs, IR ys, p, q, ((i + 1 : Nat) : Int)) ⟨xs, ys, i + 1, p, q, hx, hy, by omega, rfl⟩ (by simp only [Int.toNat_natCast]; omega)
      simpa only [f11L, unI_IR, Int.toNat_natCast] using this
    have p1 : (0 : Int) ≤ (i : Int) ∧ (i : Int) < ((xs.length : Nat) : Int) := by omega
    have p2 : (0 : Int) ≤ (i : Int) ∧ (i : Int) < ((ys.length : Nat) : Int) := by omega
    rw [if_pos (by omega), drop_ni xs i (by omega), drop_ni ys i (by omega)]
    simp only [if_pos p1, if_pos p2, hw, hF, Option.bind_fun_some, lts]
    cases p <;> cases q <;> simp
  · have : i = 35 := by omega
    subst this
    rw [if_neg (by omega), List.drop_of_length_le (by omega), List.drop_of_length_le (by omega)]
    simp [lts]

theorem s11 : Sd11 (prt (fun a => ∃ x y : List By, a = (R x, R y)) fun _ => true) := by
  refine of_prt (ok11 _ _ _ s28 s29 s11L) ?_
  rintro _ ⟨x, y, rfl⟩
  unfold t11
  simp only [sh0_eq, R_len, cond_dec, e28, Option.bind_some]
  by_cases h1 : (x.length : Int) > 200
  · rw [if_pos h1]
  · rw [if_neg h1]
    by_cases h2 : (y.length : Int) > 200
    · rw [if_pos h2]
    · rw [if_neg h2, e29 x (by omega), Option.bind_some, e29 y (by omega), Option.bind_some]
      have e : prt p11L f11L (IR (dg x), IR (dg y), false, false, (0 : Int)) = some (lts (dg x) (dg y), lts (dg y) (dg x)) := by
        rw [prt_eq (by exact ⟨_, _, 0, false, false, dg_len x, dg_len y, by omega, rfl⟩)]
        simp [f11L, unI_IR]
      simp only [IR_len, dg_len, e, Option.bind_some, lts_dg x y]
      simp

end Go.Proofs.Dig

namespace Go.Proofs.Dig
open Go Go.Ev Go.Proofs.SmG Go.Proofs.Mrk

/-! ### Numbers as bytes -/
def vL (u : Nat) : List By := if 128 ≤ u then BitVec.ofNat 8 (u % 128 + 128) :: vL (u / 128) else []
termination_by u
decreasing_by omega
def vE (u : Nat) : Nat := if 128 ≤ u then vE (u / 128) else u
termination_by u
decreasing_by omega
def vi (u : Nat) : List By := vL u ++ [BitVec.ofNat 8 (vE u)]
theorem vL_len : ∀ (k u : Nat), u < 128 ^ (k + 1) → (vL u).length ≤ k := by
  intro k
  induction k with
  | zero => intro u h; rw [vL.eq_def, if_neg (by omega)]; simp
  | succ k ih =>
    intro u h
    rw [vL.eq_def]
    split
    · have := ih (u / 128) (by rw [Nat.pow_succ] at h; omega)
      simp only [List.length_cons]; omega
    · simp
theorem vL_len9 (u : Nat) (h : u < 2 ^ 64) : (vL u).length ≤ 9 := vL_len 9 u (Nat.lt_of_lt_of_le h (by decide))
theorem vE_lt (u : Nat) : vE u < 128 := by
  induction u using Nat.strongRecOn with
  | ind u ih =>
    rw [vE.eq_def]
    split
    · exact ih _ (by omega)
    · omega
theorem vi_len (u : Nat) (h : u < 2 ^ 64) : (vi u).length ≤ 10 := by
  have := vL_len9 u h
  unfold vi; simp; omega
theorem or128 (n : Nat) (h : n < 256) : n ||| 128 = n % 128 + 128 := by
  have : ∀ m : Fin 256, m.1 ||| 128 = m.1 % 128 + 128 := by decide +kernel
  exact this ⟨n, h⟩
theorem by_or (u : Nat) : IntKind.u8.wrap (((BitVec.ofInt 8 (IntKind.u8.wrap (u : Int)) ||| BitVec.ofInt 8 (128 : Int)).toNat : Nat) : Int) = ((BitVec.ofNat 8 (u % 128 + 128)).toNat : Int) := by
  have e : IntKind.u8.wrap (u : Int) = ((u % 256 : Nat) : Int) := by rw [wrap_u8]; omega
  rw [e, BitVec.ofInt_natCast, show (128 : Int) = ((128 : Nat) : Int) from rfl, BitVec.ofInt_natCast, BitVec.toNat_or, BitVec.toNat_ofNat, BitVec.toNat_ofNat, BitVec.toNat_ofNat, wrap_u8]
  rw [show u % 256 % 2 ^ 8 = u % 256 by omega, show (128 : Nat) % 2 ^ 8 = 128 from rfl, or128 _ (by omega)]
  omega
theorem by_add (u : Nat) : IntKind.u8.wrap (IntKind.u8.wrap (Int.tmod (u : Int) 128) + 128) = ((BitVec.ofNat 8 (u % 128 + 128)).toNat : Int) := by
  rw [Int.tmod_eq_emod_of_nonneg (by omega), wrap_u8, wrap_u8, BitVec.toNat_ofNat]
  omega
theorem by_end (u : Nat) : [[DL.int .u8 (IntKind.u8.wrap (vE u : Int))]] = R [BitVec.ofNat 8 (vE u)] := by
  have := vE_lt u
  have e : IntKind.u8.wrap (vE u : Int) = ((BitVec.ofNat 8 (vE u)).toNat : Int) := by rw [wrap_u8, BitVec.toNat_ofNat]; omega
  rw [e]; rfl

def p64L (a : iL64_5) : Prop := ∃ (u : Nat) (out : List By), u < 2 ^ 64 ∧ out.length + (vL u).length ≤ 100 ∧ a = ((u : Int), R out)
def f64L (a : iL64_5) : oL64_5 := ((vE a.1.toNat : Int), R (byOf a.2 ++ vL a.1.toNat))
theorem s64L : SdL64_5 (prt p64L f64L) := by
  refine of_iterL (step := fun l a => u64_5 sh0 l a.1 a.2 some) okL64_5 (fun a => a.1.toNat) ?_
  rintro F _ ⟨u, out, hu, ho, rfl⟩ ih
  unfold u64_5
  simp only [sh0_eq, R_len, cond_dec, f64L, Int.toNat_natCast, byOf_R]
  rw [vL.eq_def] at ho
  rw [vL.eq_def, vE.eq_def]
  by_cases h : 128 ≤ u
  · rw [if_pos h] at ho
    simp only [List.length_cons] at ho
    have hd : IntKind.u64.wrap (Int.tdiv (u : Int) 128) = ((u / 128 : Nat) : Int) := by rw [Int.tdiv_eq_ediv_of_nonneg (by omega), wrap_u64]; omega
    have hF := ih (((u / 128 : Nat) : Int), R (out ++ [BitVec.ofNat 8 (u % 128 + 128)])) ⟨u / 128, _, by omega, by simp; omega, rfl⟩ (by simp only [Int.toNat_natCast]; omega)
    rw [if_pos (by omega), if_pos h, if_pos h, by_add, hd, show ([[DL.int .u8 ((BitVec.ofNat 8 (u % 128 + 128)).toNat : Int)]] : Rows) = R [BitVec.ofNat 8 (u % 128 + 128)] from rfl, R_app, R_len]
    rw [room5 (by simp; omega), cond_true, Option.bind_fun_some, hF]
    simp only [f64L, Int.toNat_natCast, byOf_R, List.append_assoc, List.singleton_append]
  · rw [if_neg (by omega), if_neg h, if_neg h, List.append_nil]
def p64 (a : i64) : Prop := 0 ≤ a ∧ a < 4611686018427387904
def f64 (a : i64) : o64 := R (vi (2 * a.toNat))
theorem two_n {n : Nat} (h : n < 4611686018427387904) : IntKind.u64.wrap (IntKind.u64.wrap (n : Int) * 2) = ((2 * n : Nat) : Int) := by
  rw [wrap_u64, wrap_u64]; omega
theorem s64 : Sd64 (prt p64 f64) := by
  refine of_prt (ok64 _ s64L) ?_
  rintro a ⟨h0, h1⟩
  obtain ⟨n, rfl⟩ := Int.eq_ofNat_of_zero_le h0
  have h1' : (n : Int) < 4611686018427387904 := h1
  have hn : n < 4611686018427387904 := by omega
  have hl := vL_len9 (2 * n) (by omega)
  unfold t64
  have e : prt p64L f64L (((2 * n : Nat) : Int), ([] : Rows)) = some ((vE (2 * n) : Int), R (vL (2 * n))) := by
    rw [prt_eq (by exact ⟨2 * n, [], by omega, by simp; omega, rfl⟩)]
    simp only [f64L, Int.toNat_natCast]
    rfl
  simp only [sh0_eq, cond_dec, two_n hn, e, Option.bind_some, by_end, R_len, R_app]
  rw [if_neg (by omega), room5 (by simp; omega)]
  simp only [f64, Int.toNat_natCast, vi]
  rfl

def p72L (a : iL72_4v1) : Prop := ∃ (u : Nat) (out : List By), u < 2 ^ 64 ∧ out.length + (vL u).length ≤ 100 ∧ a = ((u : Int), R out)
def f72L (a : iL72_4v1) : oL72_4v1 := ((vE a.1.toNat : Int), R (byOf a.2 ++ vL a.1.toNat))
theorem s72L : SdL72_4v1 (prt p72L f72L) := by
  refine of_iterL (step := fun l a => u72_4v1 sh0 l a.1 a.2 some) okL72_4v1 (fun a => a.1.toNat) ?_
  rintro F _ ⟨u, out, hu, ho, rfl⟩ ih
  unfold u72_4v1
  simp only [sh0_eq, R_len, cond_dec, f72L, Int.toNat_natCast, byOf_R]
  rw [vL.eq_def] at ho
  rw [vL.eq_def, vE.eq_def]
  by_cases h : 128 ≤ u
  · rw [if_pos h] at ho
    simp only [List.length_cons] at ho
    have hd : Int.fdiv (u : Int) 128 = ((u / 128 : Nat) : Int) := by rw [Int.fdiv_eq_ediv_of_nonneg _ (by omega)]; omega
    have hF := ih (((u / 128 : Nat) : Int), R (out ++ [BitVec.ofNat 8 (u % 128 + 128)])) ⟨u / 128, _, by omega, by simp; omega, rfl⟩ (by simp only [Int.toNat_natCast]; omega)
    rw [if_pos (by omega), if_pos h, if_pos h, by_or, hd, show ([[DL.int .u8 ((BitVec.ofNat 8 (u % 128 + 128)).toNat : Int)]] : Rows) = R [BitVec.ofNat 8 (u % 128 + 128)] from rfl, R_app, R_len]
    rw [room5 (by simp; omega), cond_true, Option.bind_fun_some, hF]
    simp only [f72L, Int.toNat_natCast, byOf_R, List.append_assoc, List.singleton_append]
  · rw [if_neg (by omega), if_neg h, if_neg h, List.append_nil]
def f72M (a : iL72_4) : oL72_4 := if 128 ≤ a.1 then .inl ((vE a.1.toNat : Int), R (byOf a.2 ++ vL a.1.toNat)) else .inr ((vE a.1.toNat : Int), R (byOf a.2 ++ vL a.1.toNat))
theorem s72M : SdL72_4 (prt p72L f72M) := by
  intro nt
  refine of_prt (F := fun a => u72_4 sh0 _ a.1 a.2 some) (okL72_4 _ s72L nt) ?_
  rintro _ ⟨u, out, hu, ho, rfl⟩
  unfold u72_4
  simp only [sh0_eq, R_len, cond_dec, f72M, Int.toNat_natCast, byOf_R]
  rw [vL.eq_def] at ho
  rw [vL.eq_def, vE.eq_def]
  by_cases h : 128 ≤ u
  · rw [if_pos h] at ho
    simp only [List.length_cons] at ho
    have hd : Int.fdiv (u : Int) 128 = ((u / 128 : Nat) : Int) := by rw [Int.fdiv_eq_ediv_of_nonneg _ (by omega)]; omega
    have e : prt p72L f72L (((u / 128 : Nat) : Int), R (out ++ [BitVec.ofNat 8 (u % 128 + 128)])) = some ((vE (u / 128) : Int), R (out ++ [BitVec.ofNat 8 (u % 128 + 128)] ++ vL (u / 128))) := by
      rw [prt_eq (by exact ⟨u / 128, _, by omega, by simp; omega, rfl⟩)]
      simp only [f72L, Int.toNat_natCast, byOf_R]
    rw [if_pos (by omega), if_pos h, if_pos h, if_pos (by omega), by_or, hd, show ([[DL.int .u8 ((BitVec.ofNat 8 (u % 128 + 128)).toNat : Int)]] : Rows) = R [BitVec.ofNat 8 (u % 128 + 128)] from rfl, R_app, R_len]
    rw [room5 (by simp; omega), cond_true, e]
    simp only [Option.bind_some, List.append_assoc, List.singleton_append]
  · rw [if_neg (by omega), if_neg h, if_neg h, if_neg (by omega), List.append_nil]
def p72 (a : i72) : Prop := 0 ≤ a.1 ∧ a.1 < 4611686018427387904 ∧ ∃ bs : List By, a.2 = R bs ∧ bs.length ≤ 50
def f72 (a : i72) : o72 := R (byOf a.2 ++ vi (2 * a.1.toNat))
theorem s72 : Sd72 (prt p72 f72) := by
  refine of_prt (ok72 _ s72M) ?_
  rintro ⟨a, r⟩ ⟨h0, h1, bs, hr, hb⟩
  simp only at h0 h1 hr
  subst hr
  obtain ⟨n, rfl⟩ := Int.eq_ofNat_of_zero_le h0
  have hn : n < 4611686018427387904 := by omega
  have hl := vL_len9 (2 * n) (by omega)
  unfold t72
  have e : prt p72L f72M (((2 * n : Nat) : Int), R bs) = some (if 128 ≤ ((2 * n : Nat) : Int) then .inl ((vE (2 * n) : Int), R (bs ++ vL (2 * n))) else .inr ((vE (2 * n) : Int), R (bs ++ vL (2 * n)))) := by
    rw [prt_eq (by exact ⟨2 * n, bs, by omega, by omega, rfl⟩)]
    simp only [f72M, Int.toNat_natCast, byOf_R]
  simp only [sh0_eq, cond_dec, two_n hn, e, Option.bind_some]
  rw [if_neg (by omega)]
  split
  all_goals
    simp only [two, by_end, R_len, R_app]
    rw [room5 (by simp; omega)]
    simp only [f72, Int.toNat_natCast, byOf_R, vi, List.append_assoc]
    rfl
def p73 (a : i73) : Prop := ∃ bs : List By, a = R bs ∧ bs.length ≤ 50
theorem s73 : Sd73 (prt p73 fun a => a) := by
  refine of_prt ok73 ?_
  rintro _ ⟨bs, rfl, hb⟩
  unfold t73
  have hw : IntKind.i64.wrap ((bs.length : Int) + 32) = ((bs.length + 32 : Nat) : Int) := by rw [wrap_i64 (by omega) (by omega)]; omega
  simp only [sh0_eq, R_len, hw, Int.toNat_natCast, room5 (n := bs.length + 32) (by omega), List.length_nil, Nat.zero_add, room5 (n := bs.length) (by omega), List.nil_append]
  rw [decide_eq_true (by omega)]
  rfl
def p62 (a : i62) : Prop := 0 ≤ a.2 ∧ a.2 < 4611686018427387904 ∧ ∃ bs : List By, a.1 = R bs ∧ bs.length ≤ 50
def f62 (a : i62) : o62 := R (byOf a.1 ++ vi (2 * a.2.toNat))
theorem s62 : Sd62 (prt p62 f62) := by
  refine of_prt (ok62 _ _ s73 s72) ?_
  rintro ⟨r, a⟩ ⟨h0, h1, bs, hr, hb⟩
  simp only at h0 h1 hr
  subst hr
  unfold t62
  simp only [sh0_eq]
  rw [prt_eq (by exact ⟨bs, rfl, hb⟩), Option.bind_some, prt_eq (by exact ⟨h0, h1, bs, rfl, hb⟩)]
  rfl
theorem k62 (bs : List By) (n : Nat) (hb : bs.length ≤ 50) (hn : n < 4611686018427387904) : prt p62 f62 (R bs, (n : Int)) = some (R (bs ++ vi (2 * n))) := by
  rw [prt_eq (by exact ⟨Int.natCast_nonneg n, (by omega : (n : Int) < 4611686018427387904), bs, rfl, hb⟩)]
  simp only [f62, byOf_R, Int.toNat_natCast]
theorem k64 (n : Nat) (hn : n < 4611686018427387904) : prt p64 f64 (n : Int) = some (R (vi (2 * n))) := by
  rw [prt_eq (by exact ⟨Int.natCast_nonneg n, (by omega : (n : Int) < 4611686018427387904)⟩)]
  simp only [f64, Int.toNat_natCast]

/-! ### Nodes -/
def nd (x : D) : D := sumD 380 (x.1 ++ [])
def pr (a b : D) : D := sumD 381 (a.1 ++ b.1)
def rt (x : D) (n : Nat) : D := sumD 382 (x.1 ++ vi (2 * n))
def toD (r : Rows) : D := if h : (byOf r).length = 32 then ⟨byOf r, h⟩ else zD
theorem toD_Q (d : D) : toD (Q d) = d := by
  have e : byOf (Q d) = d.1 := byOf_R _
  unfold toD
  rw [dif_pos (by rw [e]; exact d.2)]
  exact Subtype.ext e
def toN (l : List Int) : D := toD (R (bI l))
theorem toN_N (d : D) : toN (N d) = d := by unfold toN N; rw [bI_nI]; exact toD_Q d
def toDs (r : Rows) : List D := r.map fun x => toN (x.map DL.getI)
theorem toDs_DR (ds : List D) : toDs (DR ds) = ds := by
  unfold toDs DR
  rw [List.map_map]
  conv => rhs; rw [← List.map_id ds]
  refine List.map_congr_left fun d _ => ?_
  show toN ((mapD .u8 (N d)).map DL.getI) = d
  have e : (mapD .u8 (N d)).map DL.getI = N d := by
    unfold mapD
    rw [List.map_map, show (DL.getI ∘ fun x => DL.int .u8 x) = id from rfl, List.map_id]
  rw [e, toN_N]
theorem Rnil : ([] : Rows) = R [] := rfl

def f44 (a : i44) : o44 := N (nd (toN a))
theorem s44 : Sd44 (prt is32 f44) := by
  refine of_prt (ok44 _ s61) ?_
  intro a ha
  obtain ⟨x, rfl⟩ := ex_D ha
  unfold t44
  have h := k61 380 x [] (by simp)
  rw [show w 380 = 380 from rfl] at h
  simp only [sh0_eq, pkN, cdN, cQ, Q_len, decide_true, cond_true, repQ, Rnil, h, Option.bind_some, f44, toN_N, nd]
theorem s41 : Sd41 (prt is32 f44) := by
  refine of_prt (ok41 _ s63) ?_
  intro a ha
  obtain ⟨x, rfl⟩ := ex_D ha
  unfold t41
  have h := k61 380 x [] (by simp)
  rw [show w 380 = 380 from rfl] at h
  have h' : prt p61 f61 ((380 : Int), N x, R []) = _ := h
  simp only [sh0_eq, pkN, cdN, cQ, Q_len, decide_true, cond_true, repQ, Rnil, h', Option.bind_some, f44, toN_N, nd]
theorem k44 (x : D) : prt is32 f44 (N x) = some (N (nd x)) := by
  rw [prt_eq (by exact is32N x)]
  simp only [f44, toN_N]
def p45 (a : i45) : Prop := is32 a.1 ∧ is32 a.2
def f45 (a : i45) : o45 := N (pr (toN a.1) (toN a.2))
theorem s45 : Sd45 (prt p45 f45) := by
  refine of_prt (ok45 _ s65) ?_
  rintro ⟨a, b⟩ ⟨ha, hb⟩
  obtain ⟨x, hx⟩ := ex_D ha
  obtain ⟨y, hy⟩ := ex_D hb
  simp only at hx hy
  subst hx; subst hy
  unfold t45
  have h := k65 381 x y
  rw [show w 381 = 381 from rfl] at h
  simp only [sh0_eq, pkN, cdN, cQ, Q_len, decide_true, cond_true, repQ, h, Option.bind_some, f45, toN_N, pr]
theorem s46 : Sd46 (prt p45 f45) := by
  refine of_prt (ok46 _ s66) ?_
  rintro ⟨a, b⟩ ⟨ha, hb⟩
  obtain ⟨x, hx⟩ := ex_D ha
  obtain ⟨y, hy⟩ := ex_D hb
  simp only at hx hy
  subst hx; subst hy
  unfold t46
  have h := k65 381 x y
  rw [show w 381 = 381 from rfl] at h
  simp only [sh0_eq, pkN, cdN, cQ, Q_len, decide_true, cond_true, repQ, h, Option.bind_some, f45, toN_N, pr]
theorem k45 (x y : D) : prt p45 f45 (N x, N y) = some (N (pr x y)) := by
  rw [prt_eq (by exact ⟨is32N x, is32N y⟩)]
  simp only [f45, toN_N]
def p40 (a : i40) : Prop := is32 a.1 ∧ 0 ≤ a.2 ∧ a.2 < 4611686018427387904
def f40 (a : i40) : o40 := N (rt (toN a.1) a.2.toNat)
theorem s40 : Sd40 (prt p40 f40) := by
  refine of_prt (ok40 _ _ s62 s61) ?_
  rintro ⟨a, n⟩ ⟨ha, h0, hn⟩
  obtain ⟨x, hx⟩ := ex_D ha
  simp only at hx h0 hn
  subst hx
  obtain ⟨n, rfl⟩ := Int.eq_ofNat_of_zero_le h0
  have hv := vi_len (2 * n) (by omega)
  unfold t40
  have h := k61 382 x (vi (2 * n)) (by omega)
  rw [show w 382 = 382 from rfl] at h
  simp only [sh0_eq, pkN, cdN, cQ, Q_len, decide_true, cond_true, repQ, Rnil, k62 [] n (by simp) (by omega), List.nil_append, h, Option.bind_some, f40, toN_N, rt, Int.toNat_natCast]
theorem s43 : Sd43 (prt p40 f40) := by
  refine of_prt (ok43 _ _ s64 s63) ?_
  rintro ⟨a, n⟩ ⟨ha, h0, hn⟩
  obtain ⟨x, hx⟩ := ex_D ha
  simp only at hx h0 hn
  subst hx
  obtain ⟨n, rfl⟩ := Int.eq_ofNat_of_zero_le h0
  have hv := vi_len (2 * n) (by omega)
  unfold t43
  have h := k61 382 x (vi (2 * n)) (by omega)
  rw [show w 382 = 382 from rfl] at h
  have h' : prt p61 f61 ((382 : Int), N x, R (vi (2 * n))) = _ := h
  simp only [sh0_eq, pkN, cdN, cQ, Q_len, decide_true, cond_true, repQ, k64 n (by omega), h', Option.bind_some, f40, toN_N, rt, Int.toNat_natCast]
theorem k40 (x : D) (n : Nat) (hn : n < 4611686018427387904) : prt p40 f40 (N x, (n : Int)) = some (N (rt x n)) := by
  rw [prt_eq (by exact ⟨is32N x, Int.natCast_nonneg n, (by omega : (n : Int) < 4611686018427387904)⟩)]
  simp only [f40, toN_N, Int.toNat_natCast]

end Go.Proofs.Dig

namespace Go.Proofs.Dig
open Go Go.Ev Go.Proofs.SmG Go.Proofs.Mrk

theorem xorI (i : Nat) (h : i < 2 ^ 62) : IntKind.i64.wrap (((BitVec.ofInt 64 (i : Int) ^^^ BitVec.ofInt 64 (1 : Int)).toNat : Nat) : Int) = (sib i : Int) := by
  have hs : sib i < 2 ^ 63 := by unfold sib; split <;> omega
  rw [BitVec.ofInt_natCast, show (1 : Int) = ((1 : Nat) : Int) from rfl, BitVec.ofInt_natCast, BitVec.toNat_xor, BitVec.toNat_ofNat, BitVec.toNat_ofNat, Nat.mod_eq_of_lt (by omega : i < 2 ^ 64), show 1 % 2 ^ 64 = 1 from rfl, xor_sib, wrap_i64 (by omega) (by omega)]

abbrev rn (n i : Nat) (x : D) (ss : List D) := run pr n i x ss
def p25L (a : iL25_7) : Prop := ∃ (us i n : Nat) (p q : Int) (ss : List D) (z x : D), us ≤ ss.length ∧ ss.length ≤ 100000 ∧ i < n ∧ n ≤ 4096 ∧ a = ((us : Int), (i : Int), (n : Int), p, q, DR ss, Q z, Q x)
def f25L (a : iL25_7) : oL25_7 :=
  let r := rn a.2.2.1.toNat a.2.1.toNat (toD a.2.2.2.2.2.2.2) ((toDs a.2.2.2.2.2.1).drop a.1.toNat)
  if r.1 then .inr ((((toDs a.2.2.2.2.2.1).length - r.2.2.length : Nat) : Int), a.2.2.2.1, a.2.2.2.2.1, a.2.2.2.2.2.1, a.2.2.2.2.2.2.1, Q r.2.1)
  else .inl (1, (((toDs a.2.2.2.2.2.1).length - r.2.2.length : Nat) : Int), a.2.2.2.1, a.2.2.2.2.1, a.2.2.2.2.2.1, Q zD, Q r.2.1)
def res (p q : Int) (ss : List D) (z : D) (r : Bool × D × List D) : oL25_7 :=
  if r.1 then .inr (((ss.length - r.2.2.length : Nat) : Int), p, q, DR ss, Q z, Q r.2.1) else .inl (1, ((ss.length - r.2.2.length : Nat) : Int), p, q, DR ss, Q zD, Q r.2.1)
theorem f25L_m (us i n : Nat) (p q : Int) (ss : List D) (z x : D) : f25L ((us : Int), (i : Int), (n : Int), p, q, DR ss, Q z, Q x) = res p q ss z (rn n i x (ss.drop us)) := by
  unfold f25L res
  simp only [Int.toNat_natCast, toDs_DR, toD_Q]
theorem half_w (i : Nat) (h : i < 2 ^ 62) : IntKind.i64.wrap (Int.tdiv (i : Int) 2) = ((i / 2 : Nat) : Int) := by
  rw [Int.tdiv_eq_ediv_of_nonneg (by omega), wrap_i64 (by omega) (by omega)]; omega
theorem half_up (n : Nat) (h : n < 2 ^ 62) : IntKind.i64.wrap (Int.tdiv (IntKind.i64.wrap ((n : Int) + 1)) 2) = (((n + 1) / 2 : Nat) : Int) := by
  rw [wrap_i64 (n := (n : Int) + 1) (by omega) (by omega), Int.tdiv_eq_ediv_of_nonneg (by omega), wrap_i64 (by omega) (by omega)]; omega
theorem succ_w (n : Nat) (h : n < 2 ^ 62) : IntKind.i64.wrap ((n : Int) + 1) = ((n + 1 : Nat) : Int) := by
  rw [wrap_i64 (by omega) (by omega)]; omega
theorem mod2_0 (i : Nat) : (Int.tmod (i : Int) 2 == 0) = decide (i % 2 = 0) := by
  rw [Int.tmod_eq_emod_of_nonneg (by omega)]
  by_cases h : i % 2 = 0
  · rw [decide_eq_true h, show ((i : Int) % 2) = 0 by omega]; rfl
  · rw [decide_eq_false h, show ((i : Int) % 2) = 1 by omega]; rfl
theorem mod2_1 (i : Nat) : (Int.tmod (i : Int) 2 == 1) = decide (¬ i % 2 = 0) := by
  rw [Int.tmod_eq_emod_of_nonneg (by omega)]
  by_cases h : i % 2 = 0
  · rw [show ((i : Int) % 2) = 0 by omega]; simp [h]
  · rw [show ((i : Int) % 2) = 1 by omega]; simp [h]

theorem s25L : SdL25_7 (prt p25L f25L) := by
  refine of_iterL (step := fun l a => u25_7 sh0 _ l a.1 a.2.1 a.2.2.1 a.2.2.2.1 a.2.2.2.2.1 a.2.2.2.2.2.1 a.2.2.2.2.2.2.1 a.2.2.2.2.2.2.2 some) (fun l => okL25_7 _ l s45) (fun a => a.2.2.1.toNat) ?_
  rintro F _ ⟨us, i, n, p, q, ss, z, x, hu, hb, hi, hn, rfl⟩ ih
  rw [f25L_m]
  unfold u25_7 rn
  rw [run.eq_def]
  have hF : ∀ (us' : Nat) (x' : D), 1 < n → us' ≤ ss.length → F ((us' : Int), ((i / 2 : Nat) : Int), (((n + 1) / 2 : Nat) : Int), p, q, DR ss, Q z, Q x') = some (res p q ss z (rn ((n + 1) / 2) (i / 2) x' (ss.drop us'))) := fun us' x' h1 hu' => by
    have := ih ((us' : Int), ((i / 2 : Nat) : Int), (((n + 1) / 2 : Nat) : Int), p, q, DR ss, Q z, Q x') ⟨us', i / 2, (n + 1) / 2, p, q, ss, z, x', hu', hb, by omega, by omega, rfl⟩ (by simp only [Int.toNat_natCast]; omega)
    rw [this, f25L_m]
  simp only [sh0_eq, cond_dec, DR_len, Q_len, xorI i (by omega), half_w i (by omega), half_up n (by omega), succ_w us (by omega), mod2_0, cQ]
  by_cases h1 : 1 < n
  · rw [if_pos (by omega), if_pos h1]
    by_cases hs : sib i < n
    · rw [if_pos (by omega), if_pos hs]
      by_cases hus : us < ss.length
      · rw [if_neg (by omega), drop_gd ss us hus, Int.toNat_natCast, rowDR ss us hus]
        have p1 : (0 : Int) ≤ (us : Int) ∧ (us : Int) < ((ss.length : Nat) : Int) := by omega
        by_cases h2 : i % 2 = 0
        · simp only [if_pos h2, if_true, if_pos p1, k45, Option.bind_some, pkN, cdN, Option.bind_fun_some]
          exact hF (us + 1) _ h1 (by omega)
        · simp only [if_neg h2, if_true, if_pos p1, k45, Option.bind_some, pkN, cdN, Option.bind_fun_some]
          exact hF (us + 1) _ h1 (by omega)
      · rw [if_pos (by omega), List.drop_of_length_le (by omega)]
        simp only [if_true, repQ, res, Bool.false_eq_true, if_false, List.length_nil, Nat.sub_zero]
        rw [show us = ss.length by omega]
    · rw [if_neg (by omega), if_neg hs, Option.bind_fun_some]
      exact hF us x h1 hu
  · rw [if_neg (by omega), if_neg h1]
    simp only [res, if_true, List.length_drop]
    rw [show ss.length - (ss.length - us) = us by omega]

/-- What Apply answers. -/
def apl (leaf : D) (i n : Int) (ss : List D) : Option D :=
  if 1 ≤ n ∧ n ≤ 4096 ∧ 0 ≤ i ∧ i < n then
    match rn n.toNat i.toNat (nd leaf) ss with
    | (true, x, []) => some (rt x n.toNat)
    | _ => none
  else none
def outD (o : Option D) : List Int × Int := match o with | some d => (N d, 0) | none => (N zD, 1)
def p25 (a : i25) : Prop := is32 a.1 ∧ ∃ ss : List D, a.2.2.2 = DR ss ∧ ss.length ≤ 100000
def f25 (a : i25) : o25 := outD (apl (toN a.1) a.2.1 a.2.2.1 (toDs a.2.2.2))
theorem apl_in {leaf : D} {i n : Nat} {ss : List D} (h1 : 1 ≤ n) (h2 : n ≤ 4096) (h3 : i < n) : apl leaf (i : Int) (n : Int) ss = (match rn n i (nd leaf) ss with | (true, x, []) => some (rt x n) | _ => none) := by
  unfold apl
  rw [if_pos (by omega)]
  simp only [Int.toNat_natCast]
theorem apl_out {leaf : D} {i n : Int} {ss : List D} (h : ¬ (1 ≤ n ∧ n ≤ 4096 ∧ 0 ≤ i ∧ i < n)) : apl leaf i n ss = none := if_neg h
theorem p25L_0 (i n : Nat) (ss : List D) (x : D) (hb : ss.length ≤ 100000) (hi : i < n) (hn : n ≤ 4096) : prt p25L f25L ((0 : Int), (i : Int), (n : Int), (i : Int), (n : Int), DR ss, Q zD, Q x) = some (res (i : Int) (n : Int) ss zD (rn n i x ss)) := by
  rw [prt_eq (by exact ⟨0, i, n, i, n, ss, zD, x, by omega, hb, hi, hn, rfl⟩)]
  exact congrArg some (f25L_m 0 i n i n ss zD x)

theorem s25 : Sd25 (prt p25 f25) := by
  refine of_prt (ok25 _ _ _ s44 s40 s25L) ?_
  rintro ⟨a, i, n, r⟩ ⟨ha, ss, hr, hb⟩
  obtain ⟨x, hx⟩ := ex_D ha
  simp only at hx hr
  subst hx; subst hr
  unfold t25
  simp only [sh0_eq, cond_dec, DR_len, repQ, Q_len, pkN, cdN, cQ, if_true, k44, Option.bind_some, f25, toN_N, toDs_DR]
  by_cases h1 : n < 1
  · rw [if_pos h1, apl_out (by omega)]; rfl
  · rw [if_neg h1]
    by_cases h2 : n > 4096
    · rw [if_pos h2, apl_out (by omega)]; rfl
    · rw [if_neg h2]
      by_cases h3 : i < 0
      · rw [if_pos h3, apl_out (by omega)]; rfl
      · rw [if_neg h3]
        by_cases h4 : i ≥ n
        · rw [if_pos h4, apl_out (by omega)]; rfl
        · rw [if_neg h4]
          obtain ⟨n, rfl⟩ := Int.eq_ofNat_of_zero_le (show 0 ≤ n by omega)
          obtain ⟨i, rfl⟩ := Int.eq_ofNat_of_zero_le (show 0 ≤ i by omega)
          rw [p25L_0 i n ss _ hb (by omega) (by omega), apl_in (by omega) (by omega) (by omega), Option.bind_some]
          have hl := run_len pr n i (nd x) ss
          rcases hr : rn n i (nd x) ss with ⟨b, y, t⟩
          have hr' : run pr n i (nd x) ss = (b, y, t) := hr
          rw [hr'] at hl
          cases b with
          | false =>
            simp only [res, Bool.false_eq_true, if_false, two, cQ, Q_len, if_true, outD]
          | true =>
            simp only [res, if_true, two, DR_len, cQ, Q_len, k40 _ _ (show n < 4611686018427387904 by omega), Option.bind_some, pkN, cdN]
            cases t with
            | nil => simp [outD]
            | cons s t =>
              have h5 := hl.1
              simp only [List.length_cons] at h5
              rw [show ((((ss.length - (s :: t).length : Nat) : Int)) != ((ss.length : Nat) : Int)) = true by simp; omega]
              rfl

theorem s26L : SdL26_7 (prt p25L f25L) := by
  refine of_iterL (step := fun l a => u26_7 sh0 _ l a.1 a.2.1 a.2.2.1 a.2.2.2.1 a.2.2.2.2.1 a.2.2.2.2.2.1 a.2.2.2.2.2.2.1 a.2.2.2.2.2.2.2 some) (fun l => okL26_7 _ l s46) (fun a => a.2.2.1.toNat) ?_
  rintro F _ ⟨us, i, n, p, q, ss, z, x, hu, hb, hi, hn, rfl⟩ ih
  rw [f25L_m]
  unfold u26_7 rn
  rw [run.eq_def]
  have hF : ∀ (us' : Nat) (x' : D), 1 < n → us' ≤ ss.length → F ((us' : Int), ((i / 2 : Nat) : Int), (((n + 1) / 2 : Nat) : Int), p, q, DR ss, Q z, Q x') = some (res p q ss z (rn ((n + 1) / 2) (i / 2) x' (ss.drop us'))) := fun us' x' h1 hu' => by
    have := ih ((us' : Int), ((i / 2 : Nat) : Int), (((n + 1) / 2 : Nat) : Int), p, q, DR ss, Q z, Q x') ⟨us', i / 2, (n + 1) / 2, p, q, ss, z, x', hu', hb, by omega, by omega, rfl⟩ (by simp only [Int.toNat_natCast]; omega)
    rw [this, f25L_m]
  simp only [sh0_eq, cond_dec, DR_len, Q_len, half_w i (by omega), half_up n (by omega), succ_w us (by omega), succ_w i (by omega), mod2_1, cQ]
  have p1 : us < ss.length → (0 : Int) ≤ (us : Int) ∧ (us : Int) < ((ss.length : Nat) : Int) := fun h => by omega
  by_cases h1 : 1 < n
  · rw [if_pos (by omega), if_pos h1]
    by_cases h2 : i % 2 = 0
    · have hsib : sib i = i + 1 := by unfold sib; rw [if_pos h2]
      rw [if_neg (by simpa using h2)]
      by_cases hs : sib i < n
      · rw [if_pos (by omega), if_pos hs]
        by_cases hus : us < ss.length
        · rw [if_neg (by omega), drop_gd ss us hus, Int.toNat_natCast, rowDR ss us hus]
          simp only [h2, not_true_eq_false, if_false, if_true, if_pos (p1 hus), k45, Option.bind_some, pkN, cdN, Option.bind_fun_some]
          exact hF (us + 1) _ h1 (by omega)
        · rw [if_pos (by omega), List.drop_of_length_le (by omega)]
          simp only [if_true, repQ, res, Bool.false_eq_true, if_false, List.length_nil, Nat.sub_zero]
          rw [show us = ss.length by omega]
      · rw [if_neg (by omega), if_neg hs, Option.bind_fun_some]
        exact hF us x h1 hu
    · have hsib : sib i = i - 1 := by unfold sib; rw [if_neg h2]
      rw [if_pos h2, if_pos (by omega : sib i < n)]
      by_cases hus : us < ss.length
      · rw [if_neg (by omega), drop_gd ss us hus, Int.toNat_natCast, rowDR ss us hus]
        simp only [h2, not_false_eq_true, if_false, if_true, if_pos (p1 hus), k45, Option.bind_some, pkN, cdN, Option.bind_fun_some]
        exact hF (us + 1) _ h1 (by omega)
      · rw [if_pos (by omega), List.drop_of_length_le (by omega)]
        simp only [if_true, repQ, res, Bool.false_eq_true, if_false, List.length_nil, Nat.sub_zero]
        rw [show us = ss.length by omega]
  · rw [if_neg (by omega), if_neg h1]
    simp only [res, if_true, List.length_drop]
    rw [show ss.length - (ss.length - us) = us by omega]

theorem s26 : Sd26 (prt p25 f25) := by
  refine of_prt (ok26 _ _ _ s41 s43 s26L) ?_
  rintro ⟨a, i, n, r⟩ ⟨ha, ss, hr, hb⟩
  obtain ⟨x, hx⟩ := ex_D ha
  simp only at hx hr
  subst hx; subst hr
  unfold t26
  simp only [sh0_eq, cond_dec, DR_len, repQ, Q_len, pkN, cdN, cQ, if_true, k44, Option.bind_some, f25, toN_N, toDs_DR]
  by_cases h1 : n < 1
  · rw [if_pos h1, apl_out (by omega)]; rfl
  · rw [if_neg h1]
    by_cases h2 : n > 4096
    · rw [if_pos h2, apl_out (by omega)]; rfl
    · rw [if_neg h2]
      by_cases h3 : i < 0
      · rw [if_pos h3, apl_out (by omega)]; rfl
      · rw [if_neg h3]
        by_cases h4 : i ≥ n
        · rw [if_pos h4, apl_out (by omega)]; rfl
        · rw [if_neg h4]
          obtain ⟨n, rfl⟩ := Int.eq_ofNat_of_zero_le (show 0 ≤ n by omega)
          obtain ⟨i, rfl⟩ := Int.eq_ofNat_of_zero_le (show 0 ≤ i by omega)
          have hp : prt p25L f25L ((0 : Int), (i : Int), (n : Int), (i : Int), (n : Int), DR ss, Q zD, Q (nd x)) = _ := p25L_0 i n ss _ hb (by omega) (by omega)
          rw [hp, apl_in (by omega) (by omega) (by omega), Option.bind_some]
          have hl := run_len pr n i (nd x) ss
          rcases hr : rn n i (nd x) ss with ⟨b, y, t⟩
          have hr' : run pr n i (nd x) ss = (b, y, t) := hr
          rw [hr'] at hl
          have h40 : prt p40 f40 (N y, (n : Int)) = some (N (rt y n)) := k40 y n (by omega)
          cases b with
          | false =>
            simp only [res, Bool.false_eq_true, if_false, two, cQ, Q_len, if_true, outD]
          | true =>
            simp only [res, if_true, two, DR_len, cQ, Q_len, h40, Option.bind_some, pkN, cdN]
            cases t with
            | nil =>
              rw [if_neg (by simp)]
              rfl
            | cons s t =>
              have h5 := hl.1
              simp only [List.length_cons] at h5
              rw [if_pos (by simp only [List.length_cons]; omega)]
              rfl

/-! Verify -/
def ver (root leaf : D) (i n : Int) (ss : List D) : Bool := decide (apl leaf i n ss = some root)
def p27 (a : i27) : Prop := is32 a.1 ∧ is32 a.2.1 ∧ ∃ ss : List D, a.2.2.2.2 = DR ss ∧ ss.length ≤ 100000
def f27 (a : i27) : o27 := ver (toN a.1) (toN a.2.1) a.2.2.1 a.2.2.2.1 (toDs a.2.2.2.2)
theorem k25 (x : D) (i n : Int) (ss : List D) (hb : ss.length ≤ 100000) : prt p25 f25 (N x, i, n, DR ss) = some (outD (apl x i n ss)) := by
  rw [prt_eq (by exact ⟨is32N x, ss, rfl, hb⟩)]
  simp only [f25, toN_N, toDs_DR]
theorem s27 : Sd27 (prt p27 f27) := by
  refine of_prt (ok27 _ s25) ?_
  rintro ⟨a, b, i, n, r⟩ ⟨ha, hb, ss, hr, hl⟩
  obtain ⟨x, hx⟩ := ex_D ha
  obtain ⟨y, hy⟩ := ex_D hb
  simp only at hx hy hr
  subst hx; subst hy; subst hr
  unfold t27
  simp only [sh0_eq, repQ, Q_len, pkN, cdN, cQ, decide_true, cond_true, k25 _ _ _ _ hl, Option.bind_some, f27, toN_N, toDs_DR, ver]
  cases h : apl y i n ss with
  | none => simp [outD]
  | some d => simp [outD, pkN, cdN, cQ, Q_len, eqN]
theorem s54 : Sd54 (prt p27 f27) := by
  refine of_prt (ok54 _ s26) ?_
  rintro ⟨a, b, i, n, r⟩ ⟨ha, hb, ss, hr, hl⟩
  obtain ⟨x, hx⟩ := ex_D ha
  obtain ⟨y, hy⟩ := ex_D hb
  simp only at hx hy hr
  subst hx; subst hy; subst hr
  unfold t54
  have k26 : prt p25 f25 (N y, i, n, DR ss) = some (outD (apl y i n ss)) := k25 y i n ss hl
  simp only [sh0_eq, repQ, Q_len, pkN, cdN, cQ, decide_true, cond_true, k26, Option.bind_some, f27, toN_N, toDs_DR, ver]
  cases h : apl y i n ss with
  | none => simp [outD]
  | some d => simp [outD, pkN, cdN, cQ, Q_len, eqN]
theorem k27 (x y : D) (i n : Int) (ss : List D) (hb : ss.length ≤ 100000) : prt p27 f27 (N x, N y, i, n, DR ss) = some (ver x y i n ss) := by
  rw [prt_eq (by exact ⟨is32N x, is32N y, ss, rfl, hb⟩)]
  simp only [f27, toN_N, toDs_DR]

end Go.Proofs.Dig

namespace Go.Proofs.Dig
open Go Go.Ev Go.Proofs.SmG Go.Proofs.Mrk

/-! ### Chains -/
def lk (x : D) : D := sumD 392 (x.1 ++ [])
def wk : Nat → D → D
  | 0, x => x
  | n + 1, x => wk n (lk x)
theorem wk_add (n m : Nat) : ∀ x, wk (n + m) x = wk n (wk m x) := by
  induction m with
  | zero => intro x; rfl
  | succ m ih => intro x; rw [← Nat.add_assoc, wk, ih]; rfl
theorem k392 (x : D) : prt p61 f61 ((392 : Int), N x, ([] : Rows)) = some (N (lk x)) := k61 392 x [] (by simp)
def p51L (a : iL51_1) : Prop := ∃ (n : Nat) (x y : D), n ≤ 1000 ∧ a = ((n : Int), Q x, Q y)
def f51L (a : iL51_1) : oL51_1 := (Q (wk a.1.toNat (toD a.2.1)), a.2.2)
theorem s51L : SdL51_1 (prt p51L f51L) := by
  refine of_iterL (step := fun l a => u51_1 sh0 _ l a.1 a.2.1 a.2.2 some) (fun l => okL51_1 _ l s61) (fun a => a.1.toNat) ?_
  rintro F _ ⟨n, x, y, hn, rfl⟩ ih
  unfold u51_1
  simp only [sh0_eq, cond_dec, f51L, Int.toNat_natCast, toD_Q, Q_len, if_true, cQ, k392, Option.bind_some, pkN, cdN, Option.bind_fun_some]
  cases n with
  | zero => rw [if_neg (by omega)]; rfl
  | succ n =>
    have hw : IntKind.i64.wrap (((n + 1 : Nat) : Int) - 1) = (n : Int) := by rw [wrap_i64 (by omega) (by omega)]; omega
    rw [if_pos (by omega), hw, ih ((n : Int), Q (lk x), Q y) ⟨n, _, y, by omega, rfl⟩ (by simp only [Int.toNat_natCast]; omega)]
    simp only [f51L, Int.toNat_natCast, toD_Q]
    rfl
def p51 (a : i51) : Prop := is32 a.1 ∧ 0 ≤ a.2 ∧ a.2 ≤ 1000
def f51 (a : i51) : o51 := N (wk a.2.toNat (toN a.1))
theorem s51 : Sd51 (prt p51 f51) := by
  refine of_prt (ok51 _ s51L) ?_
  rintro ⟨a, n⟩ ⟨ha, h0, h1⟩
  obtain ⟨x, hx⟩ := ex_D ha
  simp only at hx h0 h1
  subst hx
  obtain ⟨n, rfl⟩ := Int.eq_ofNat_of_zero_le h0
  unfold t51
  have e : prt p51L f51L ((n : Int), Q x, Q zD) = some (Q (wk n x), Q zD) := by
    rw [prt_eq (by exact ⟨n, x, zD, by omega, rfl⟩)]
    simp only [f51L, Int.toNat_natCast, toD_Q]
  simp only [sh0_eq, cond_dec, repQ, pkN, cdN, e, Option.bind_some, Q_len, if_true, cQ, f51, toN_N, Int.toNat_natCast]
theorem k51 (x : D) (n : Nat) (h : n ≤ 1000) : prt p51 f51 (N x, (n : Int)) = some (N (wk n x)) := by
  rw [prt_eq (by exact ⟨is32N x, Int.natCast_nonneg n, (by omega : (n : Int) ≤ 1000)⟩)]
  simp only [f51, toN_N, Int.toNat_natCast]
theorem k63 (x : D) : prt p61 f61 ((392 : Int), N x, ([] : Rows)) = some (N (lk x)) := k392 x
theorem wk_comm (n : Nat) : ∀ x, wk n (lk x) = lk (wk n x) := by
  induction n with
  | zero => intro x; rfl
  | succ n ih => intro x; rw [wk, ih]; rfl
def p53L (a : iL53_2) : Prop := ∃ (n i : Nat) (x y : D), n ≤ 1000 ∧ i ≤ n ∧ a = ((n : Int), (i : Int), Q x, Q y)
def f53L (a : iL53_2) : oL53_2 := (Q (wk (a.1.toNat - a.2.1.toNat) (toD a.2.2.1)), a.2.2.2)
theorem s53L : SdL53_2 (prt p53L f53L) := by
  refine of_iterL (step := fun l a => u53_2 sh0 _ l a.1 a.2.1 a.2.2.1 a.2.2.2 some) (fun l => okL53_2 _ l s63) (fun a => a.1.toNat - a.2.1.toNat) ?_
  rintro F _ ⟨n, i, x, y, hn, hi, rfl⟩ ih
  unfold u53_2
  have h63 : prt p61 f61 ((392 : Int), N x, ([] : Rows)) = some (N (lk x)) := k392 x
  simp only [sh0_eq, cond_dec, f53L, Int.toNat_natCast, toD_Q, Q_len, if_true, cQ, h63, Option.bind_some, pkN, cdN, Option.bind_fun_some, succ_w i (by omega)]
  by_cases h : i < n
  · rw [if_pos (by omega), ih ((n : Int), ((i + 1 : Nat) : Int), Q (lk x), Q y) ⟨n, i + 1, _, y, hn, by omega, rfl⟩ (by simp only [Int.toNat_natCast]; omega)]
    simp only [f53L, Int.toNat_natCast, toD_Q]
    rw [show n - i = (n - (i + 1)) + 1 by omega]
    rfl
  · rw [if_neg (by omega), show n - i = 0 by omega]
    rfl
theorem s53 : Sd53 (prt p51 f51) := by
  refine of_prt (ok53 _ s53L) ?_
  rintro ⟨a, n⟩ ⟨ha, h0, h1⟩
  obtain ⟨x, hx⟩ := ex_D ha
  simp only at hx h0 h1
  subst hx
  obtain ⟨n, rfl⟩ := Int.eq_ofNat_of_zero_le h0
  unfold t53
  have e : prt p53L f53L ((n : Int), (0 : Int), Q x, Q zD) = some (Q (wk n x), Q zD) := by
    rw [prt_eq (by exact ⟨n, 0, x, zD, by omega, by omega, rfl⟩)]
    simp [f53L, toD_Q]
  simp only [sh0_eq, cond_dec, repQ, pkN, cdN, e, Option.bind_some, Q_len, if_true, cQ, f51, toN_N, Int.toNat_natCast]

/-! ### Leaves -/
def flat (ds : List D) : List By := ds.flatMap fun d => d.1
theorem flat_len (ds : List D) : (flat ds).length = 32 * ds.length := by
  induction ds with
  | nil => rfl
  | cons d r ih =>
    have := d.2
    simp only [flat, List.flatMap_cons, List.length_append, List.length_cons] at ih ⊢; omega
def lf (ds : List D) : D := sumD 393 (flat ds)
def p52L (a : iL52_3) : Prop := ∃ (ds : List D) (i : Nat) (z : D) (out : List By), ds.length ≤ 100 ∧ i ≤ ds.length ∧ out.length ≤ 32 * i ∧ a = (DR ds, (i : Int), Q z, R out)
def f52L (a : iL52_3) : oL52_3 := (a.2.2.1, R (byOf a.2.2.2 ++ flat ((toDs a.1).drop a.2.1.toNat)))
theorem s52L : SdL52_3 (prt p52L f52L) := by
  refine of_iterL (step := fun l a => u52_3 sh0 l a.1 a.2.1 a.2.2.1 a.2.2.2 some) okL52_3 (fun a => a.1.length - a.2.1.toNat) ?_
  rintro F _ ⟨ds, i, z, out, hb, hi, ho, rfl⟩ ih
  unfold u52_3
  simp only [sh0_eq, cond_dec, f52L, Int.toNat_natCast, toDs_DR, byOf_R, DR_len, succ_w i (by omega), R_len, Option.bind_fun_some]
  by_cases h : i < ds.length
  · rw [if_pos (by omega), if_pos (by omega), rowDR ds i h, cdN, Q_len, room5 (by omega), cond_true, show R out ++ Q (gd ds i) = R (out ++ (gd ds i).1) from R_app _ _]
    have hg := (gd ds i).2
    rw [ih (DR ds, ((i + 1 : Nat) : Int), Q z, R (out ++ (gd ds i).1)) ⟨ds, i + 1, z, _, hb, by omega, by rw [List.length_append]; omega, rfl⟩ (by simp only [Int.toNat_natCast, DR_len]; omega)]
    simp only [f52L, Int.toNat_natCast, toDs_DR, byOf_R]
    rw [drop_gd ds i h]
    simp [flat]
  · rw [if_neg (by omega), List.drop_of_length_le (by omega)]
    simp [flat]
def isDs (a : Rows) : Prop := ∃ ds : List D, a = DR ds ∧ ds.length ≤ 100
def f52 (a : i52) : o52 := N (lf (toDs a))
theorem s52 : Sd52 (prt isDs f52) := by
  refine of_prt (ok52 _ _ s47 s52L) ?_
  rintro _ ⟨ds, rfl, hb⟩
  unfold t52
  have e : prt p52L f52L (DR ds, (0 : Int), Q zD, ([] : Rows)) = some (Q zD, R (flat ds)) := by
    rw [prt_eq (by exact ⟨ds, 0, zD, [], hb, by omega, by simp, rfl⟩)]
    simp only [f52L, toDs_DR, Int.toNat_zero, List.drop_zero]
    rfl
  have h := k47 393 (flat ds) (by rw [flat_len]; omega)
  rw [show w 393 = 393 from rfl] at h
  simp only [sh0_eq, cond_dec, repQ, e, Option.bind_some, h, Q_len, if_true, pkN, cdN, cQ, f52, toDs_DR, lf]
theorem k52 (ds : List D) (h : ds.length ≤ 100) : prt isDs f52 (DR ds) = some (N (lf ds)) := by
  rw [prt_eq (by exact ⟨ds, rfl, h⟩)]
  simp only [f52, toDs_DR]
def f55L (a : iL55_3) : oL55_3 := (a.2.2.1, R (byOf a.2.2.2 ++ flat ((toDs a.1).drop a.2.1.toNat)))
theorem s55L : SdL55_3 (prt p52L f55L) := by
  refine of_iterL (step := fun l a => u55_3 sh0 _ l a.1 a.2.1 a.2.2.1 a.2.2.2 some) (fun l => okL55_3 _ l s71) (fun a => a.1.length - a.2.1.toNat) ?_
  rintro F _ ⟨ds, i, z, out, hb, hi, ho, rfl⟩ ih
  unfold u55_3
  simp only [sh0_eq, cond_dec, f55L, Int.toNat_natCast, toDs_DR, byOf_R, DR_len, succ_w i (by omega), R_len, Option.bind_fun_some]
  by_cases h : i < ds.length
  · rw [if_pos (by omega), if_pos (by omega), rowDR ds i h, k71, Option.bind_some, Q_len, room5 (by omega), cond_true, show R out ++ Q (gd ds i) = R (out ++ (gd ds i).1) from R_app _ _]
    have hg := (gd ds i).2
    rw [ih (DR ds, ((i + 1 : Nat) : Int), Q z, R (out ++ (gd ds i).1)) ⟨ds, i + 1, z, _, hb, by omega, by rw [List.length_append]; omega, rfl⟩ (by simp only [Int.toNat_natCast, DR_len]; omega)]
    simp only [f55L, Int.toNat_natCast, toDs_DR, byOf_R]
    rw [drop_gd ds i h]
    simp [flat]
  · rw [if_neg (by omega), List.drop_of_length_le (by omega)]
    simp [flat]
theorem s55 : Sd55 (prt isDs f52) := by
  refine of_prt (ok55 _ _ s50 s55L) ?_
  rintro _ ⟨ds, rfl, hb⟩
  unfold t55
  have e : prt p52L f55L (DR ds, (0 : Int), Q zD, ([] : Rows)) = some (Q zD, R (flat ds)) := by
    rw [prt_eq (by exact ⟨ds, 0, zD, [], hb, by omega, by simp, rfl⟩)]
    simp only [f55L, toDs_DR, Int.toNat_zero, List.drop_zero]
    rfl
  have h := k47 393 (flat ds) (by rw [flat_len]; omega)
  rw [show w 393 = 393 from rfl] at h
  have h' : prt isB f47 ((393 : Int), R (flat ds)) = some (N (sumD 393 (flat ds))) := h
  simp only [sh0_eq, cond_dec, repQ, e, Option.bind_some, h', Q_len, if_true, pkN, cdN, cQ, f52, toDs_DR, lf]

/-! ### Verify -/
def ends : List D → List Int → List D
  | p :: ps, d :: ds => wk (15 - d).toNat p :: ends ps ds
  | _, _ => []
theorem ends_len : ∀ (ps : List D) (ds : List Int), ps.length = ds.length → (ends ps ds).length = ps.length
  | [], _, _ => by simp [ends]
  | p :: ps, d :: ds, h => by simp only [ends, List.length_cons, ends_len ps ds (by simpa using h)]
def p32L (a : iL32_6) : Prop := ∃ (ds : List Int) (i : Nat) (x3 : Rows) (x4 : Int) (ps : List D) (x6 x7 : Int) (x8 : Rows) (out : List D), ds.length = 35 ∧ (∀ x ∈ ds, 0 ≤ x ∧ x ≤ 15) ∧ ps.length = 35 ∧ i ≤ 35 ∧ out.length ≤ i ∧ a = (IR ds, (i : Int), x3, x4, DR ps, x6, x7, x8, DR out)
def f32L (a : iL32_6) : oL32_6 := (a.2.2.1, a.2.2.2.1, a.2.2.2.2.1, a.2.2.2.2.2.1, a.2.2.2.2.2.2.1, a.2.2.2.2.2.2.2.1, DR (toDs a.2.2.2.2.2.2.2.2 ++ ends ((toDs a.2.2.2.2.1).drop a.2.1.toNat) ((unI a.1).drop a.2.1.toNat)))
theorem s32L : SdL32_6 (prt p32L f32L) := by
  refine of_iterL (step := fun l a => u32_6 sh0 _ l a.1 a.2.1 a.2.2.1 a.2.2.2.1 a.2.2.2.2.1 a.2.2.2.2.2.1 a.2.2.2.2.2.2.1 a.2.2.2.2.2.2.2.1 a.2.2.2.2.2.2.2.2 some) (fun l => okL32_6 _ l s51) (fun a => 35 - a.2.1.toNat) ?_
  rintro F _ ⟨ds, i, x3, x4, ps, x6, x7, x8, out, hd, hx, hp, hi, ho, rfl⟩ ih
  unfold u32_6
  simp only [sh0_eq, cond_dec, f32L, Int.toNat_natCast, toDs_DR, unI_IR, DR_len, IR_len, succ_w i (by omega), Option.bind_fun_some, cIR]
  by_cases h : i < 35
  · have hb := hx _ (ni_mem ds i (by omega))
    obtain ⟨k, hk⟩ := Int.eq_ofNat_of_zero_le (show 0 ≤ 15 - ni ds i by omega)
    have hw : IntKind.i64.wrap (15 - ni ds i) = (k : Int) := by rw [wrap_i64 (by omega) (by omega), hk]
    rw [if_pos (by omega), if_pos (by omega), if_pos (by omega), rowDR ps i (by omega), hw, k51 _ k (by omega), Option.bind_some, pkN, DR_one]
    simp only [DR_len, DR_app, List.length_singleton]
    rw [room25 (by omega), cond_true, ih (IR ds, ((i + 1 : Nat) : Int), x3, x4, DR ps, x6, x7, x8, DR (out ++ [wk k (gd ps i)])) ⟨ds, i + 1, x3, x4, ps, x6, x7, x8, _, hd, hx, hp, by omega, by simp; omega, rfl⟩ (by simp only [Int.toNat_natCast]; omega)]
    simp only [f32L, Int.toNat_natCast, toDs_DR, unI_IR]
    rw [drop_gd ps i (by omega), drop_ni ds i (by omega), ends, hk]
    simp
  · rw [if_neg (by omega), List.drop_of_length_le (by omega)]
    simp [ends]
/-- What Verify answers. -/
def sver (root : D) (m : List By) (ix : Int) (ps : List D) (i n : Int) (ss : List D) : Bool :=
  decide (ps.length = 35 ∧ i = ix ∧ n = 4) && ver root (lf (ends ps (dg m))) i n ss
def p32 (a : i32) : Prop := ∃ (r : D) (m : List By) (ix : Int) (ps : List D) (i n : Int) (ss : List D), m.length ≤ 1000 ∧ ps.length ≤ 100000 ∧ ss.length ≤ 100000 ∧ a = (N r, R m, ix, DR ps, i, n, DR ss)
def f32 (a : i32) : o32 := sver (toN a.1) (byOf a.2.1) a.2.2.1 (toDs a.2.2.2.1) a.2.2.2.2.1 a.2.2.2.2.2.1 (toDs a.2.2.2.2.2.2)
theorem s32 : Sd32 (prt p32 f32) := by
  refine of_prt (ok32 _ _ _ _ s29 s52 s27 s32L) ?_
  rintro _ ⟨r, m, ix, ps, i, n, ss, hm, hp, hs, rfl⟩
  unfold t32
  simp only [sh0_eq, DR_len, pkN, cdN, f32, toN_N, byOf_R, toDs_DR, sver]
  by_cases h1 : ps.length = 35
  · rw [show (((ps.length : Nat) : Int) != 35) = false by simp [h1], cond_false]
    by_cases h2 : i = ix
    · rw [show (i != ix) = false by simp [h2], cond_false]
      by_cases h3 : n = 4
      · have e : prt p32L f32L (IR (dg m), (0 : Int), Q r, ix, DR ps, i, n, DR ss, ([] : Rows)) = some (Q r, ix, DR ps, i, n, DR ss, DR (ends ps (dg m))) := by
          rw [prt_eq (by exact ⟨dg m, 0, Q r, ix, ps, i, n, DR ss, [], dg_len m, dg_bd m, h1, by omega, by simp, rfl⟩)]
          simp only [f32L, toDs_DR, unI_IR, Int.toNat_zero, List.drop_zero]
          rfl
        rw [show (n != 4) = false by simp [h3], cond_false, e29 m hm, Option.bind_some, e, Option.bind_some, decide_eq_true (show ps.length = 35 ∧ i = ix ∧ n = 4 from ⟨h1, h2, h3⟩)]
        simp only [Q_len, decide_true, cond_true, cQ, k52 _ (show (ends ps (dg m)).length ≤ 100 by rw [ends_len _ _ (by rw [dg_len, h1])]; omega), Option.bind_some, pkN, k27 _ _ _ _ _ hs, Bool.true_and]
      · rw [show (n != 4) = true by simp [h3], cond_true, decide_eq_false (fun h => h3 h.2.2)]
        rfl
    · rw [show (i != ix) = true by simp [h2], cond_true, decide_eq_false (fun h => h2 h.2.1)]
      rfl
  · rw [show (((ps.length : Nat) : Int) != 35) = true by simp; omega, cond_true, decide_eq_false (fun h => h1 h.1)]
    rfl
def f33L (a : iL33_6) : oL33_6 := (a.2.2.1, a.2.2.2.1, a.2.2.2.2.1, a.2.2.2.2.2.1, a.2.2.2.2.2.2.1, a.2.2.2.2.2.2.2.1, DR (toDs a.2.2.2.2.2.2.2.2 ++ ends ((toDs a.2.2.2.2.1).drop a.2.1.toNat) ((unI a.1).drop a.2.1.toNat)))
theorem s33L : SdL33_6 (prt p32L f33L) := by
  refine of_iterL (step := fun l a => u33_6 sh0 _ l a.1 a.2.1 a.2.2.1 a.2.2.2.1 a.2.2.2.2.1 a.2.2.2.2.2.1 a.2.2.2.2.2.2.1 a.2.2.2.2.2.2.2.1 a.2.2.2.2.2.2.2.2 some) (fun l => okL33_6 _ l s53) (fun a => 35 - a.2.1.toNat) ?_
  rintro F _ ⟨ds, i, x3, x4, ps, x6, x7, x8, out, hd, hx, hp, hi, ho, rfl⟩ ih
  unfold u33_6
  simp only [sh0_eq, cond_dec, f33L, Int.toNat_natCast, toDs_DR, unI_IR, DR_len, IR_len, succ_w i (by omega), Option.bind_fun_some, cIR]
  by_cases h : i < 35
  · have hb := hx _ (ni_mem ds i (by omega))
    obtain ⟨k, hk⟩ := Int.eq_ofNat_of_zero_le (show 0 ≤ 15 - ni ds i by omega)
    have hw : IntKind.i64.wrap (15 - ni ds i) = (k : Int) := by rw [wrap_i64 (by omega) (by omega), hk]
    have h53 : prt p51 f51 (N (gd ps i), (k : Int)) = some (N (wk k (gd ps i))) := k51 _ k (by omega)
    rw [if_pos (by omega), if_pos (by omega), if_pos (by omega), rowDR ps i (by omega), hw, h53, Option.bind_some, pkN, DR_one]
    simp only [DR_len, DR_app, List.length_singleton]
    rw [room25 (by omega), cond_true, ih (IR ds, ((i + 1 : Nat) : Int), x3, x4, DR ps, x6, x7, x8, DR (out ++ [wk k (gd ps i)])) ⟨ds, i + 1, x3, x4, ps, x6, x7, x8, _, hd, hx, hp, by omega, by simp; omega, rfl⟩ (by simp only [Int.toNat_natCast]; omega)]
    simp only [f33L, Int.toNat_natCast, toDs_DR, unI_IR]
    rw [drop_gd ps i (by omega), drop_ni ds i (by omega), ends, hk]
    simp
  · rw [if_neg (by omega), List.drop_of_length_le (by omega)]
    simp [ends]
theorem s33 : Sd33 (prt p32 f32) := by
  refine of_prt (ok33 _ _ _ _ s31 s55 s54 s33L) ?_
  rintro _ ⟨r, m, ix, ps, i, n, ss, hm, hp, hs, rfl⟩
  unfold t33
  simp only [sh0_eq, DR_len, pkN, cdN, f32, toN_N, byOf_R, toDs_DR, sver]
  by_cases h1 : ps.length = 35
  · rw [show (((ps.length : Nat) : Int) != 35) = false by simp [h1], cond_false]
    by_cases h2 : i = ix
    · rw [show (i != ix) = false by simp [h2], cond_false]
      by_cases h3 : n = 4
      · have e : prt p32L f33L (IR (dg m), (0 : Int), Q r, ix, DR ps, i, n, DR ss, ([] : Rows)) = some (Q r, ix, DR ps, i, n, DR ss, DR (ends ps (dg m))) := by
          rw [prt_eq (by exact ⟨dg m, 0, Q r, ix, ps, i, n, DR ss, [], dg_len m, dg_bd m, h1, by omega, by simp, rfl⟩)]
          simp only [f33L, toDs_DR, unI_IR, Int.toNat_zero, List.drop_zero]
          rfl
        have h31 : prt isM f29 (R m) = some (IR (dg m)) := e29 m hm
        have h55 : prt isDs f52 (DR (ends ps (dg m))) = some (N (lf (ends ps (dg m)))) := k52 _ (show (ends ps (dg m)).length ≤ 100 by rw [ends_len _ _ (by rw [dg_len, h1])]; omega)
        have h54 : prt p27 f27 (N r, N (lf (ends ps (dg m))), i, n, DR ss) = _ := k27 _ _ _ _ _ hs
        rw [show (n != 4) = false by simp [h3], cond_false, h31, Option.bind_some, e, Option.bind_some, decide_eq_true (show ps.length = 35 ∧ i = ix ∧ n = 4 from ⟨h1, h2, h3⟩)]
        simp only [Q_len, decide_true, cond_true, cQ, h55, Option.bind_some, pkN, h54, Bool.true_and]
      · rw [show (n != 4) = true by simp [h3], cond_true, decide_eq_false (fun h => h3 h.2.2)]
        rfl
    · rw [show (i != ix) = true by simp [h2], cond_true, decide_eq_false (fun h => h2 h.2.1)]
      rfl
  · rw [show (((ps.length : Nat) : Int) != 35) = true by simp; omega, cond_true, decide_eq_false (fun h => h1 h.1)]
    rfl

end Go.Proofs.Dig

namespace Go.Proofs.Dig
open Go Go.Ev Go.Proofs.SmG Go.Proofs.Mrk

theorem rwf_DR {P : Program} {S : Nat → Prop} {V : TypeId → Nat → Prop} {ks : List CK} (hks : ks = List.replicate 32 (.int .u8)) : ∀ {xs : List (List DL)}, RWf P S V ks xs → ∃ ds : List D, xs = DR ds := by
  subst hks
  intro xs
  induction xs with
  | nil => intro _; exact ⟨[], rfl⟩
  | cons x xs ih =>
    intro h
    obtain ⟨ds, hds⟩ := ih fun y hy => h y (List.mem_cons_of_mem _ hy)
    obtain ⟨hl, hx⟩ := h x (List.mem_cons_self ..)
    have hl : x.length = 32 := by simpa using hl
    have key : ∀ (y : List DL), (∀ c ∈ y, ∃ n : Int, c = .int .u8 n ∧ 0 ≤ n ∧ n ≤ 255) → ∃ bs : List By, y = mapD .u8 (nI bs) ∧ bs.length = y.length := by
      intro y
      induction y with
      | nil => intro _; exact ⟨[], rfl, rfl⟩
      | cons c y ihy =>
        intro hc
        obtain ⟨bs, hbs, hbl⟩ := ihy fun d hd => hc d (List.mem_cons_of_mem _ hd)
        obtain ⟨n, rfl, h0, h1⟩ := hc c (List.mem_cons_self ..)
        obtain ⟨k, rfl⟩ := Int.eq_ofNat_of_zero_le h0
        refine ⟨BitVec.ofNat 8 k :: bs, ?_, by simp [hbl]⟩
        rw [hbs]
        show _ = DL.int .u8 ((BitVec.ofNat 8 k).toNat : Int) :: mapD .u8 (nI bs)
        rw [BitVec.toNat_ofNat, Nat.mod_eq_of_lt (by omega)]
    obtain ⟨bs, hb, hbl⟩ := key x fun c hc => by
      obtain ⟨j, hj, rfl⟩ := List.getElem_of_mem hc
      obtain ⟨n, hn, hb⟩ := (hx j (.int .u8) x[j] (by rw [List.getElem?_replicate, if_pos (by omega)]) (List.getElem?_eq_getElem hj)).int_inv
      exact ⟨n, hn, u8I hb⟩
    have hbl : bs.length = 32 := by omega
    refine ⟨⟨bs, hbl⟩ :: ds, ?_⟩
    rw [hds]
    subst hb
    rfl

theorem k32 (r : D) (m : List By) (ix : Int) (ps : List D) (i n : Int) (ss : List D) (hm : m.length ≤ 1000) (hp : ps.length ≤ 100000) (hs : ss.length ≤ 100000) :
    prt p32 f32 (N r, R m, ix, DR ps, i, n, DR ss) = some (sver r m ix ps i n ss) := by
  rw [prt_eq (by exact ⟨r, m, ix, ps, i, n, ss, hm, hp, hs, rfl⟩)]
  simp only [f32, toN_N, byOf_R, toDs_DR]
def p12 (a : i12) : Prop := is32 a.1 ∧ (∃ m : List By, a.2.1 = R m) ∧ (∃ ps : List D, a.2.2.2.1 = DR ps) ∧ ∃ ss : List D, a.2.2.2.2.2.2 = DR ss
theorem s12 : Sd12 (prt p12 fun _ => true) := by
  refine of_prt (ok12 _ _ _ s28 s32 s33) ?_
  rintro ⟨a, mm, ix, pp, i, n, qq⟩ ⟨ha, ⟨m, hm⟩, ⟨ps, hp⟩, ss, hs⟩
  obtain ⟨r, hr⟩ := ex_D ha
  simp only at hr hm hp hs
  subst hr; subst hm; subst hp; subst hs
  unfold t12
  simp only [sh0_eq, pkN, cdN, cQ, Q_len, R_len, DR_len, decide_true, cond_true, cond_dec, e28, Option.bind_some]
  by_cases h1 : (m.length : Int) > 200
  · rw [if_pos h1]
  · rw [if_neg h1]
    by_cases h2 : (ps.length : Int) > 40
    · rw [if_pos h2]
    · rw [if_neg h2]
      by_cases h3 : (ss.length : Int) > 20
      · rw [if_pos h3]
      · rw [if_neg h3]
        have a1 := k32 r m ix ps i n ss (by omega) (by omega) (by omega)
        have a2 : prt p32 f32 (N r, R m, ix, DR ps, i, n, DR ss) = some (sver r m ix ps i n ss) := a1
        simp only [a1, Option.bind_some, a2, beq_self_eq_true, cond_true, if_true]

end Go.Proofs.Dig
