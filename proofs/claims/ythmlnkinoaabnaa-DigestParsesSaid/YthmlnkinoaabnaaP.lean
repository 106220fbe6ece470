/- Digests: plain laws. -/
import Derived.Test.YthmlnkinoaabnaaE3
import Derived.Test.YthmlnkinoaabnaaG
set_option linter.unusedVariables false
set_option linter.unusedSimpArgs false

namespace Go.Proofs.Dig
open Go Go.Ev

abbrev Rows := List (List DL)
abbrev W := BitVec 64
def w (a : W) : Int := (a.toNat : Int)
def isW (n : Int) : Prop := 0 ≤ n ∧ n < 18446744073709551616

theorem wrap_u64 (n : Int) : IntKind.u64.wrap n = n % 18446744073709551616 := by
  simp [IntKind.wrap, IntKind.bits, IntKind.signed]
theorem wrap_u8 (n : Int) : IntKind.u8.wrap n = n % 256 := by
  simp [IntKind.wrap, IntKind.bits, IntKind.signed]
theorem isW_w (a : W) : isW (w a) := by
  unfold isW w; have := a.isLt; omega
theorem of_w (a : W) : BitVec.ofInt 64 (w a) = a := by
  unfold w; rw [BitVec.ofInt_natCast]; simp
theorem w_of {n : Int} (h : isW n) : w (BitVec.ofInt 64 n) = n := by
  obtain ⟨k, rfl⟩ := Int.eq_ofNat_of_zero_le h.1
  have := h.2
  unfold w; rw [BitVec.ofInt_natCast, BitVec.toNat_ofNat, Nat.mod_eq_of_lt (by omega)]
theorem ex_w {n : Int} (h : isW n) : ∃ a : W, n = w a := ⟨_, (w_of h).symm⟩
theorem w_inj {a b : W} (h : w a = w b) : a = b := by rw [← of_w a, h, of_w]
theorem wrap_w (a : W) : IntKind.u64.wrap (a.toNat : Int) = w a := by
  rw [wrap_u64]; unfold w; have := a.isLt; omega

theorem wxor (a b : W) : IntKind.u64.wrap (((BitVec.ofInt 64 (w a) ^^^ BitVec.ofInt 64 (w b)).toNat : Nat) : Int) = w (a ^^^ b) := by
  rw [of_w, of_w, wrap_w]
theorem wand (a b : W) : IntKind.u64.wrap (((BitVec.ofInt 64 (w a) &&& BitVec.ofInt 64 (w b)).toNat : Nat) : Int) = w (a &&& b) := by
  rw [of_w, of_w, wrap_w]
theorem wor (a b : W) : IntKind.u64.wrap (((BitVec.ofInt 64 (w a) ||| BitVec.ofInt 64 (w b)).toNat : Nat) : Int) = w (a ||| b) := by
  rw [of_w, of_w, wrap_w]
theorem wnot (a : W) : IntKind.u64.wrap (((BitVec.ofInt 64 (18446744073709551615 : Int) ^^^ BitVec.ofInt 64 (w a)).toNat : Nat) : Int) = w (~~~a) := by
  rw [of_w, wrap_w, show BitVec.ofInt 64 (18446744073709551615 : Int) = BitVec.allOnes 64 from by decide, BitVec.allOnes_xor]
theorem wshr (a : W) (n : Nat) : (w a).fdiv (2 ^ n) = w (a >>> n) := by
  unfold w
  rw [BitVec.toNat_ushiftRight, Nat.shiftRight_eq_div_pow]
  rw [show (2 : Int) ^ n = ((2 ^ n : Nat) : Int) by simp, Int.fdiv_eq_ediv_of_nonneg _ (Int.natCast_nonneg _), ← Int.natCast_ediv]
theorem wshl (a : W) (n : Nat) : IntKind.u64.wrap (w a * 2 ^ n) = w (a <<< n) := by
  unfold w
  rw [wrap_u64, BitVec.toNat_shiftLeft, Nat.shiftLeft_eq]
  rw [show (2 : Int) ^ n = ((2 ^ n : Nat) : Int) by simp, ← Int.natCast_mul, Int.natCast_emod]
  rfl

structure S where
  a : W
  b : W
  c : W
  d : W
  e : W
  deriving DecidableEq

abbrev I5 := Int × Int × Int × Int × Int
def wS (s : S) : I5 := (w s.a, w s.b, w s.c, w s.d, w s.e)
def ofS (x : I5) : S := ⟨BitVec.ofInt 64 x.1, BitVec.ofInt 64 x.2.1, BitVec.ofInt 64 x.2.2.1, BitVec.ofInt 64 x.2.2.2.1, BitVec.ofInt 64 x.2.2.2.2⟩
def isS (x : I5) : Prop := isW x.1 ∧ isW x.2.1 ∧ isW x.2.2.1 ∧ isW x.2.2.2.1 ∧ isW x.2.2.2.2
theorem ofS_wS (s : S) : ofS (wS s) = s := by simp [ofS, wS, of_w]
theorem ex_S {x : I5} (h : isS x) : ∃ s : S, x = wS s := by
  obtain ⟨x1, x2, x3, x4, x5⟩ := x
  obtain ⟨h1, h2, h3, h4, h5⟩ := h
  obtain ⟨a, rfl⟩ := ex_w h1
  obtain ⟨b, rfl⟩ := ex_w h2
  obtain ⟨c, rfl⟩ := ex_w h3
  obtain ⟨d, rfl⟩ := ex_w h4
  obtain ⟨e, rfl⟩ := ex_w h5
  exact ⟨⟨a, b, c, d, e⟩, rfl⟩
theorem isS_wS (s : S) : isS (wS s) := ⟨isW_w _, isW_w _, isW_w _, isW_w _, isW_w _⟩

def rot (x : W) (n : Nat) : W := (x >>> n) ||| (x <<< (64 - n))
def lin (x : W) (i j : Nat) : W := x ^^^ (rot x i ^^^ rot x j)

/-- What comes ahead of the linear layer. -/
def sub (r : Nat) (s : S) : S :=
  let c := (s.c ^^^ BitVec.ofNat 64 (240 - 15 * r)) ^^^ s.b
  let a := s.a ^^^ s.e
  let e := s.e ^^^ s.d
  let a' := a ^^^ (~~~s.b &&& c)
  let b' := s.b ^^^ (~~~c &&& s.d)
  let c' := c ^^^ (~~~s.d &&& e)
  let d' := s.d ^^^ (~~~e &&& a)
  let e' := e ^^^ (~~~a &&& s.b)
  ⟨a' ^^^ e', b' ^^^ a', ~~~c', d' ^^^ c', e'⟩
def lay (s : S) : S := ⟨lin s.a 19 28, lin s.b 61 39, lin s.c 1 6, lin s.d 10 17, lin s.e 7 41⟩
def rnd (r : Nat) (s : S) : S := lay (sub r s)
def rounds : Nat → Nat → S → S
  | 0, _, s => s
  | n + 1, r, s => rounds n (r + 1) (rnd r s)
def perm (s : S) : S := rounds 12 0 s

end Go.Proofs.Dig

namespace Go.Proofs.Dig
open Go Go.Ev Go.Proofs.DgG

theorem i64_eq {n : Int} (h1 : -9223372036854775808 ≤ n) (h2 : n ≤ 9223372036854775807) : IntKind.i64.wrap n = n := wrap_i64 h1 h2

/-! 28, 29: rotate -/
def f28 (a : i28) : o28 := w (rot (BitVec.ofInt 64 a.1) a.2.toNat)
def p28 (a : i28) : Prop := isW a.1 ∧ 0 ≤ a.2 ∧ a.2 ≤ 64
theorem s28 : Sd28 (prt p28 f28) := by
  refine of_prt ok28 ?_
  rintro ⟨x, n⟩ ⟨hx, h0, h1⟩
  obtain ⟨a, rfl⟩ := ex_w hx
  obtain ⟨k, rfl⟩ := Int.eq_ofNat_of_zero_le h0
  simp only at h1
  have hw : IntKind.u64.wrap (64 - (k : Int)) = ((64 - k : Nat) : Int) := by rw [wrap_u64]; omega
  simp only [t28, sh0, cond_dec, hw]
  rw [if_pos (Int.natCast_nonneg _), if_pos (Int.natCast_nonneg _)]
  simp only [Int.toNat_natCast, f28, of_w, rot]
  rw [Nat.min_eq_left (by omega), Nat.min_eq_left (by omega), wshr, wshl, wor]

def f29 (a : i29) : o29 := w (rot (BitVec.ofInt 64 a.1) a.2.toNat)
def p29 (a : i29) : Prop := isW a.1 ∧ 0 ≤ a.2 ∧ a.2 ≤ 64
theorem s29 : Sd29 (prt p29 f29) := by
  refine of_prt ok29 ?_
  rintro ⟨x, n⟩ ⟨hx, h0, h1⟩
  obtain ⟨a, rfl⟩ := ex_w hx
  obtain ⟨k, rfl⟩ := Int.eq_ofNat_of_zero_le h0
  simp only at h1
  have hw : IntKind.i64.wrap (64 - (k : Int)) = ((64 - k : Nat) : Int) := by rw [wrap_i64 (by omega) (by omega)]; omega
  simp only [t29, sh0, cond_dec, hw]
  rw [if_pos (Int.natCast_nonneg _), if_pos (Int.natCast_nonneg _)]
  simp only [Int.toNat_natCast, f29, of_w, rot]
  rw [Nat.min_eq_left (by omega), Nat.min_eq_left (by omega), wshr, wshl, wor]

theorem e28 (a : W) (n : Nat) (h : n ≤ 64) : prt p28 f28 (w a, (n : Int)) = some (w (rot a n)) := by
  rw [prt_eq (by exact ⟨isW_w a, by simp, by simp; omega⟩)]
  simp [f28, of_w]
theorem e29 (a : W) (n : Nat) (h : n ≤ 64) : prt p29 f29 (w a, (n : Int)) = some (w (rot a n)) := by
  rw [prt_eq (by exact ⟨isW_w a, by simp, by simp; omega⟩)]
  simp [f29, of_w]

theorem cst {r : Nat} (h : r < 12) : IntKind.u64.wrap ((240 : Int) - IntKind.u64.wrap ((15 : Int) * (r : Int))) = w (BitVec.ofNat 64 (240 - 15 * r)) := by
  unfold w
  rw [wrap_u64, wrap_u64, BitVec.toNat_ofNat]
  have : (2 : Nat) ^ 64 = 18446744073709551616 := by decide
  omega
theorem cst' {r : Nat} (h : r < 12) : IntKind.u64.wrap (IntKind.i64.wrap ((240 : Int) - IntKind.i64.wrap ((15 : Int) * (r : Int)))) = w (BitVec.ofNat 64 (240 - 15 * r)) := by
  unfold w
  rw [wrap_i64 (n := 15 * (r : Int)) (by omega) (by omega), wrap_i64 (by omega) (by omega), wrap_u64, BitVec.toNat_ofNat]
  have : (2 : Nat) ^ 64 = 18446744073709551616 := by decide
  omega

theorem sh0_eq {α R : Type} (x : α) (K : α → Option R) : (sh0 : Sh) x K = K x := rfl

/-! 12: Permute -/
def p12L (a : iL12_2) : Prop := ∃ (r : Nat) (s : S) (j1 j2 j3 j4 j5 : Int), r ≤ 12 ∧ a = ((r : Int), w s.a, w s.b, w s.c, w s.d, w s.e, j1, j2, j3, j4, j5)
def f12L (a : iL12_2) : oL12_2 :=
  let s := rounds (12 - a.1.toNat) a.1.toNat (ofS (a.2.1, a.2.2.1, a.2.2.2.1, a.2.2.2.2.1, a.2.2.2.2.2.1))
  (w s.a, w s.b, w s.c, w s.d, w s.e, a.2.2.2.2.2.2)
theorem f12L_m (r : Nat) (s : S) (j1 j2 j3 j4 j5 : Int) : f12L ((r : Int), w s.a, w s.b, w s.c, w s.d, w s.e, j1, j2, j3, j4, j5) = (w (rounds (12 - r) r s).a, w (rounds (12 - r) r s).b, w (rounds (12 - r) r s).c, w (rounds (12 - r) r s).d, w (rounds (12 - r) r s).e, j1, j2, j3, j4, j5) := by
  unfold f12L
  simp only [Int.toNat_natCast, ofS, of_w]

theorem e28' {n : Int} (a : W) (k : Nat) (hn : n = (k : Int)) (h : k ≤ 64) : prt p28 f28 (w a, n) = some (w (rot a k)) := by
  subst hn; exact e28 a k h
theorem e29' {n : Int} (a : W) (k : Nat) (hn : n = (k : Int)) (h : k ≤ 64) : prt p29 f29 (w a, n) = some (w (rot a k)) := by
  subst hn; exact e29 a k h

theorem g19 (a : W) : prt p28 f28 (w a, 19) = some (w (rot a 19)) := e28' a 19 rfl (by omega)
theorem h19 (a : W) : prt p29 f29 (w a, 19) = some (w (rot a 19)) := e29' a 19 rfl (by omega)
theorem g28 (a : W) : prt p28 f28 (w a, 28) = some (w (rot a 28)) := e28' a 28 rfl (by omega)
theorem h28 (a : W) : prt p29 f29 (w a, 28) = some (w (rot a 28)) := e29' a 28 rfl (by omega)
theorem g61 (a : W) : prt p28 f28 (w a, 61) = some (w (rot a 61)) := e28' a 61 rfl (by omega)
theorem h61 (a : W) : prt p29 f29 (w a, 61) = some (w (rot a 61)) := e29' a 61 rfl (by omega)
theorem g39 (a : W) : prt p28 f28 (w a, 39) = some (w (rot a 39)) := e28' a 39 rfl (by omega)
theorem h39 (a : W) : prt p29 f29 (w a, 39) = some (w (rot a 39)) := e29' a 39 rfl (by omega)
theorem g1 (a : W) : prt p28 f28 (w a, 1) = some (w (rot a 1)) := e28' a 1 rfl (by omega)
theorem h1 (a : W) : prt p29 f29 (w a, 1) = some (w (rot a 1)) := e29' a 1 rfl (by omega)
theorem g6 (a : W) : prt p28 f28 (w a, 6) = some (w (rot a 6)) := e28' a 6 rfl (by omega)
theorem h6 (a : W) : prt p29 f29 (w a, 6) = some (w (rot a 6)) := e29' a 6 rfl (by omega)
theorem g10 (a : W) : prt p28 f28 (w a, 10) = some (w (rot a 10)) := e28' a 10 rfl (by omega)
theorem h10 (a : W) : prt p29 f29 (w a, 10) = some (w (rot a 10)) := e29' a 10 rfl (by omega)
theorem g17 (a : W) : prt p28 f28 (w a, 17) = some (w (rot a 17)) := e28' a 17 rfl (by omega)
theorem h17 (a : W) : prt p29 f29 (w a, 17) = some (w (rot a 17)) := e29' a 17 rfl (by omega)
theorem g7 (a : W) : prt p28 f28 (w a, 7) = some (w (rot a 7)) := e28' a 7 rfl (by omega)
theorem h7 (a : W) : prt p29 f29 (w a, 7) = some (w (rot a 7)) := e29' a 7 rfl (by omega)
theorem g41 (a : W) : prt p28 f28 (w a, 41) = some (w (rot a 41)) := e28' a 41 rfl (by omega)
theorem h41 (a : W) : prt p29 f29 (w a, 41) = some (w (rot a 41)) := e29' a 41 rfl (by omega)

theorem s12L : SdL12_2 (prt p12L f12L) := by
  refine of_iterL (step := fun l a => u12_2 sh0 _ l a.1 a.2.1 a.2.2.1 a.2.2.2.1 a.2.2.2.2.1 a.2.2.2.2.2.1 a.2.2.2.2.2.2.1 a.2.2.2.2.2.2.2.1 a.2.2.2.2.2.2.2.2.1 a.2.2.2.2.2.2.2.2.2.1 a.2.2.2.2.2.2.2.2.2.2 some) (fun l => okL12_2 _ l s28) (fun a => 12 - a.1.toNat) ?_
  rintro F _ ⟨r, s, j1, j2, j3, j4, j5, hr, rfl⟩ ih
  rw [f12L_m]
  unfold u12_2
  rw [cond_dec]
  by_cases hlt : r < 12
  · rw [if_pos (by simp only; omega)]
    have hF := ih ((((r + 1 : Nat) : Int)), w (rnd r s).a, w (rnd r s).b, w (rnd r s).c, w (rnd r s).d, w (rnd r s).e, j1, j2, j3, j4, j5) ⟨r + 1, _, j1, j2, j3, j4, j5, by omega, rfl⟩ (by simp only [Int.toNat_natCast]; omega)
    rw [f12L_m] at hF
    have hro : rounds (12 - r) r s = rounds (12 - (r + 1)) (r + 1) (rnd r s) := by
      rw [show 12 - r = (12 - (r + 1)) + 1 by omega]; rfl
    rw [hro, ← hF]
    have hw : IntKind.u64.wrap ((r : Int) + 1) = ((r + 1 : Nat) : Int) := by rw [wrap_u64]; omega
    simp only [sh0_eq, cst hlt, wxor, wand, wnot, hw, g19, g28, g61, g39, g1, g6, g10, g17, g7, g41, Option.bind_some, Option.bind_fun_some]
    rfl
  · have : r = 12 := by omega
    subst this
    rw [if_neg (by simp)]
    rfl

theorem perm_eq (s : S) : rounds 12 0 s = perm s := rfl
theorem ofS_wS' (s : S) : ofS (w s.a, w s.b, w s.c, w s.d, w s.e) = s := ofS_wS s
theorem f12_ini (p : iL12_2 → Prop) (hp : ∀ s : S, p ((0 : Int), w s.a, w s.b, w s.c, w s.d, w s.e, (0 : Int), (0 : Int), (0 : Int), (0 : Int), (0 : Int))) (s : S) :
    prt p f12L ((0 : Int), w s.a, w s.b, w s.c, w s.d, w s.e, (0 : Int), (0 : Int), (0 : Int), (0 : Int), (0 : Int)) = some (w (perm s).a, w (perm s).b, w (perm s).c, w (perm s).d, w (perm s).e, (0 : Int), (0 : Int), (0 : Int), (0 : Int), (0 : Int)) := by
  rw [prt_eq (hp s)]
  have := f12L_m 0 s 0 0 0 0 0
  simp only [Nat.sub_zero, perm_eq] at this
  exact congrArg some this
def f12 (a : i12) : o12 := wS (perm (ofS a))
theorem s12 : Sd12 (prt isS f12) := by
  refine of_prt (ok12 _ s12L) ?_
  intro a ha
  obtain ⟨s, rfl⟩ := ex_S ha
  have e := f12_ini p12L (fun s => ⟨0, s, 0, 0, 0, 0, 0, by omega, rfl⟩) s
  unfold t12
  simp only [wS]
  rw [e, Option.bind_some]
  simp only [f12, ofS_wS']
  rfl

theorem lin_l (x : W) (i j : Nat) : (x ^^^ rot x i) ^^^ rot x j = lin x i j := by rw [lin, BitVec.xor_assoc]

/-! 13: the reference's -/
def p13L (a : iL13_2) : Prop := ∃ (r : Nat) (s : S) (j1 j2 j3 j4 j5 : Int), r ≤ 12 ∧ a = ((r : Int), w s.a, w s.b, w s.c, w s.d, w s.e, j1, j2, j3, j4, j5)
theorem s13L : SdL13_2 (prt p13L f12L) := by
  refine of_iterL (step := fun l a => u13_2 sh0 _ l a.1 a.2.1 a.2.2.1 a.2.2.2.1 a.2.2.2.2.1 a.2.2.2.2.2.1 a.2.2.2.2.2.2.1 a.2.2.2.2.2.2.2.1 a.2.2.2.2.2.2.2.2.1 a.2.2.2.2.2.2.2.2.2.1 a.2.2.2.2.2.2.2.2.2.2 some) (fun l => okL13_2 _ l s29) (fun a => 12 - a.1.toNat) ?_
  rintro F _ ⟨r, s, j1, j2, j3, j4, j5, hr, rfl⟩ ih
  rw [f12L_m]
  unfold u13_2
  rw [cond_dec]
  by_cases hlt : r < 12
  · rw [if_pos (by simp only; omega)]
    have hF := ih ((((r + 1 : Nat) : Int)), w (rnd r s).a, w (rnd r s).b, w (rnd r s).c, w (rnd r s).d, w (rnd r s).e, j1, j2, j3, j4, j5) ⟨r + 1, _, j1, j2, j3, j4, j5, by omega, rfl⟩ (by simp only [Int.toNat_natCast]; omega)
    rw [f12L_m] at hF
    have hro : rounds (12 - r) r s = rounds (12 - (r + 1)) (r + 1) (rnd r s) := by
      rw [show 12 - r = (12 - (r + 1)) + 1 by omega]; rfl
    rw [hro, ← hF]
    have hw : IntKind.i64.wrap ((r : Int) + 1) = ((r + 1 : Nat) : Int) := by rw [wrap_i64 (by omega) (by omega)]; omega
    simp only [sh0_eq, cst' hlt, wxor, wand, wnot, hw, h19, h28, h61, h39, h1, h6, h10, h17, h7, h41, Option.bind_some, Option.bind_fun_some, lin_l]
    rfl
  · have : r = 12 := by omega
    subst this
    rw [if_neg (by simp)]
    rfl
theorem s13 : Sd13 (prt isS f12) := by
  refine of_prt (ok13 _ s13L) ?_
  intro a ha
  obtain ⟨s, rfl⟩ := ex_S ha
  have e := f12_ini p13L (fun s => ⟨0, s, 0, 0, 0, 0, 0, by omega, rfl⟩) s
  unfold t13
  simp only [wS]
  rw [e, Option.bind_some]
  simp only [f12, ofS_wS']
  rfl

end Go.Proofs.Dig

namespace Go.Proofs.Dig
open Go Go.Ev Go.Proofs.DgG

abbrev By := BitVec 8
def bD (b : By) : List DL := [.int .u8 (b.toNat : Int)]
def R (bs : List By) : Rows := bs.map bD
def nb (bs : List By) (i : Nat) : By := match bs, i with
  | [], _ => 0
  | b :: _, 0 => b
  | _ :: r, i + 1 => nb r i
@[simp] theorem R_len (bs : List By) : (R bs).length = bs.length := by simp [R]
theorem R_app (a b : List By) : R a ++ R b = R (a ++ b) := by simp [R]
theorem R_take (a : List By) (n : Nat) : (R a).take n = R (a.take n) := by simp [R, List.map_take]
theorem R_drop (a : List By) (n : Nat) : (R a).drop n = R (a.drop n) := by simp [R, List.map_drop]
theorem R_set (a : List By) (i : Nat) (b : By) : (R a).set i (bD b) = R (a.set i b) := by simp [R, List.map_set]
theorem R_rep (n : Nat) (b : By) : List.replicate n (bD b) = R (List.replicate n b) := by simp [R]
theorem nb_get (bs : List By) (i : Nat) : nb bs i = (bs[i]?).getD 0 := by
  induction bs generalizing i with
  | nil => simp [nb]
  | cons b r ih => cases i with
    | zero => simp [nb]
    | succ i => simp [nb, ih]
theorem cR (bs : List By) (i : Nat) : (cellAt (R bs) i 0).getI = ((nb bs i).toNat : Int) := by
  unfold cellAt
  rw [nb_get]
  simp only [R, List.getD_eq_getElem?_getD, List.getElem?_map]
  cases bs[i]? with
  | none => rfl
  | some b => rfl
def z (b : By) : W := b.setWidth 64
theorem wrap_z (b : By) : IntKind.u64.wrap ((b.toNat : Nat) : Int) = w (z b) := by
  rw [wrap_u64]; unfold w z
  have := b.isLt
  rw [BitVec.toNat_setWidth, Nat.mod_eq_of_lt (by omega)]
  omega

/-! 36: group -/
def gr (bs : List By) : Nat → W → W
  | 0, a => a
  | i + 1, a => gr bs i ((a <<< 8) ||| z (nb bs i))
def grp (bs : List By) : W := gr bs 8 0

def p36L (a : iL36_3) : Prop := ∃ (bs : List By) (v : W) (i : Nat), bs.length = 8 ∧ i ≤ 8 ∧ a = (R bs, w v, (i : Int) - 1)
noncomputable def f36L (a : iL36_3) : oL36_3 := w (gr ((a.1).map fun x => BitVec.ofInt 8 (x.headD default).getI) (a.2.2 + 1).toNat (BitVec.ofInt 64 a.2.1))
theorem unR (bs : List By) : ((R bs).map fun x => BitVec.ofInt 8 (x.headD default).getI) = bs := by
  unfold R
  rw [List.map_map]
  conv => rhs; rw [← List.map_id bs]
  refine List.map_congr_left fun b _ => ?_
  simp [bD, DL.getI, BitVec.ofInt_natCast]
theorem f36L_m (bs : List By) (v : W) (i : Nat) : f36L (R bs, w v, (i : Int) - 1) = w (gr bs i v) := by
  unfold f36L
  simp only [unR, of_w]
  rw [show ((i : Int) - 1 + 1).toNat = i by omega]

theorem mul256 (v : W) : IntKind.u64.wrap (w v * 256) = w (v <<< 8) := by
  have := wshl v 8
  simpa using this

theorem s36L : SdL36_3 (prt p36L f36L) := by
  refine of_iterL (step := fun l a => u36_3 sh0 l a.1 a.2.1 a.2.2 some) okL36_3 (fun a => (a.2.2 + 1).toNat) ?_
  rintro F _ ⟨bs, v, i, hb, hi, rfl⟩ ih
  rw [f36L_m]
  unfold u36_3
  rw [cond_dec]
  cases i with
  | zero =>
    rw [if_neg (by simp)]
    rfl
  | succ i =>
    rw [if_pos (by simp only; omega), cond_dec, if_pos (by simp only [R_len]; omega)]
    have hF := ih (R bs, w ((v <<< 8) ||| z (nb bs i)), (i : Int) - 1) ⟨bs, _, i, hb, by omega, rfl⟩ (by simp only; omega)
    rw [f36L_m] at hF
    have hw : IntKind.i64.wrap (((i + 1 : Nat) : Int) - 1 - 1) = (i : Int) - 1 := by rw [wrap_i64 (by omega) (by omega)]; omega
    have ht : (((i + 1 : Nat) : Int) - 1).toNat = i := by omega
    simp only [sh0_eq, ht, cR, wrap_z, mul256, wor, hw, hF, Option.bind_some]
    rfl

def byOf (rows : Rows) : List By := rows.map fun x => BitVec.ofInt 8 (x.headD default).getI
theorem byOf_R (bs : List By) : byOf (R bs) = bs := unR bs
theorem R_inj {a b : List By} (h : R a = R b) : a = b := by rw [← byOf_R a, h, byOf_R]
def f36 (a : i36) : o36 := w (grp (byOf a))
def is8 (a : Rows) : Prop := ∃ bs : List By, a = R bs ∧ bs.length = 8
theorem s36 : Sd36 (prt is8 f36) := by
  refine of_prt (ok36 _ s36L) ?_
  rintro _ ⟨bs, rfl, hb⟩
  have e : prt p36L f36L (R bs, (0 : Int), (7 : Int)) = some (w (gr bs 8 0)) := by
    rw [prt_eq (by exact ⟨bs, 0, 8, hb, by omega, rfl⟩)]
    exact congrArg some (f36L_m bs 0 8)
  unfold t36
  rw [e, Option.bind_some]
  simp only [f36, byOf_R, grp]

/-! 37: word -/
def wd (bs : List By) : Nat → Nat → W → W
  | 0, _, a => a
  | n + 1, i, a => wd bs n (i + 1) (a ||| (z (nb bs i) <<< (8 * i)))
def p37L (a : iL37_3) : Prop := ∃ (bs : List By) (v : W) (i : Nat), bs.length = 8 ∧ i ≤ 8 ∧ a = (R bs, w v, (i : Int))
def f37L (a : iL37_3) : oL37_3 := w (wd (byOf a.1) (8 - a.2.2.toNat) a.2.2.toNat (BitVec.ofInt 64 a.2.1))
theorem f37L_m (bs : List By) (v : W) (i : Nat) : f37L (R bs, w v, (i : Int)) = w (wd bs (8 - i) i v) := by
  unfold f37L
  simp only [byOf_R, of_w, Int.toNat_natCast]
theorem s37L : SdL37_3 (prt p37L f37L) := by
  refine of_iterL (step := fun l a => u37_3 sh0 l a.1 a.2.1 a.2.2 some) okL37_3 (fun a => 8 - a.2.2.toNat) ?_
  rintro F _ ⟨bs, v, i, hb, hi, rfl⟩ ih
  rw [f37L_m]
  unfold u37_3
  rw [cond_dec]
  by_cases hlt : i < 8
  · rw [if_pos (by simp only; omega), cond_dec, if_pos (by simp only [R_len]; omega)]
    have hF := ih (R bs, w (v ||| (z (nb bs i) <<< (8 * i))), ((i + 1 : Nat) : Int)) ⟨bs, _, i + 1, hb, by omega, rfl⟩ (by simp only [Int.toNat_natCast]; omega)
    rw [f37L_m] at hF
    have hro : wd bs (8 - i) i v = wd bs (8 - (i + 1)) (i + 1) (v ||| (z (nb bs i) <<< (8 * i))) := by
      rw [show 8 - i = (8 - (i + 1)) + 1 by omega]; rfl
    have hw : IntKind.i64.wrap ((i : Int) + 1) = ((i + 1 : Nat) : Int) := by rw [wrap_i64 (by omega) (by omega)]; omega
    have hw2 : IntKind.i64.wrap ((8 : Int) * (i : Int)) = ((8 * i : Nat) : Int) := by rw [wrap_i64 (by omega) (by omega)]; omega
    have hm : Min.min (8 * i) 64 = 8 * i := by omega
    simp only [sh0_eq, Int.toNat_natCast, cR, wrap_z, hw, hw2, cond_dec]
    rw [if_pos (Int.natCast_nonneg _), hm, wshl, wor, hF, hro]
    rfl
  · have : i = 8 := by omega
    subst this
    rw [if_neg (by simp)]
    rfl
theorem wd_grp (bs : List By) : wd bs 8 0 0 = grp bs := by
  have e0 : ((0 : W) <<< 8) = 0#64 := by decide
  have e1 : (0 : W) = 0#64 := rfl
  simp only [wd, grp, gr, e0, e1, BitVec.shiftLeft_or_distrib, ← BitVec.shiftLeft_add, BitVec.zero_or, Nat.mul_zero, BitVec.shiftLeft_zero, Nat.zero_add, Nat.reduceAdd, Nat.reduceMul]
  generalize z (nb bs 0) = v0
  generalize z (nb bs 1) = v1
  generalize z (nb bs 2) = v2
  generalize z (nb bs 3) = v3
  generalize z (nb bs 4) = v4
  generalize z (nb bs 5) = v5
  generalize z (nb bs 6) = v6
  generalize z (nb bs 7) = v7
  generalize v1 <<< 8 = u1
  generalize v2 <<< 16 = u2
  generalize v3 <<< 24 = u3
  generalize v4 <<< 32 = u4
  generalize v5 <<< 40 = u5
  generalize v6 <<< 48 = u6
  generalize v7 <<< 56 = u7
  ac_rfl
theorem s37 : Sd37 (prt is8 f36) := by
  refine of_prt (ok37 _ s37L) ?_
  rintro _ ⟨bs, rfl, hb⟩
  have e : prt p37L f37L (R bs, (0 : Int), (0 : Int)) = some (w (wd bs 8 0 0)) := by
    rw [prt_eq (by exact ⟨bs, 0, 0, hb, by omega, rfl⟩)]
    exact congrArg some (f37L_m bs 0 0)
  unfold t37
  rw [e, Option.bind_some]
  simp only [f36, byOf_R, wd_grp]

end Go.Proofs.Dig

namespace Go.Proofs.Dig
open Go Go.Ev Go.Proofs.DgG

def fed (s : S) (g : W) : S := perm ⟨s.a ^^^ g, s.b, s.c, s.d, s.e⟩
def absN : Nat → S → List By → S
  | 0, s, _ => s
  | n + 1, s, ps => absN n (fed s (grp (ps.take 8))) (ps.drop 8)
def st0 (d : W) : S := perm ⟨d, 1, 2, 3, 4⟩
def tl (bs : List By) : List By := 1 :: List.replicate (7 - bs.length % 8) 0
def absorb (d : W) (bs : List By) : S := absN (bs.length / 8 + 1) (st0 d) (bs ++ tl bs)

theorem absN_snoc (n : Nat) : ∀ (s : S) (ps : List By), absN (n + 1) s ps = fed (absN n s ps) (grp ((ps.drop (8 * n)).take 8)) := by
  induction n with
  | zero => intro s ps; simp [absN]
  | succ n ih =>
    intro s ps
    rw [absN, ih, absN, List.drop_drop, show 8 + 8 * n = 8 * (n + 1) by omega]
theorem absN_app (n : Nat) : ∀ (s : S) (bs t : List By), 8 * n ≤ bs.length → absN n s (bs ++ t) = absN n s bs := by
  induction n with
  | zero => intro s bs t _; rfl
  | succ n ih =>
    intro s bs t h
    rw [absN, absN, List.take_append_of_le_length (by omega), List.drop_append_of_le_length (by omega), ih _ _ _ (by rw [List.length_drop]; omega)]
theorem tl_len (bs : List By) : (bs ++ tl bs).length = 8 * (bs.length / 8 + 1) := by
  simp [tl]; omega
theorem absorb_eq (d : W) (bs : List By) : absorb d bs = fed (absN (bs.length / 8) (st0 d) bs) (grp (bs.drop (8 * (bs.length / 8)) ++ tl bs)) := by
  unfold absorb
  rw [absN_snoc, absN_app _ _ _ _ (by omega), List.drop_append_of_le_length (by omega), List.take_of_length_le]
  simp [tl]; omega

theorem e12 (a b c d e : W) : prt isS f12 (w a, w b, w c, w d, w e) = some (wS (perm ⟨a, b, c, d, e⟩)) := by
  rw [prt_eq (by exact isS_wS ⟨a, b, c, d, e⟩)]
  exact congrArg (fun x => some (wS (perm x))) (ofS_wS ⟨a, b, c, d, e⟩)
theorem e36 (bs : List By) (h : bs.length = 8) : prt is8 f36 (R bs) = some (w (grp bs)) := by
  rw [prt_eq (by exact ⟨bs, rfl, h⟩)]
  simp only [f36, byOf_R]

abbrev O31 := Rows × Int × Int × Int × Int × Int × Int × Int × Int × Int × Int × Int
def p31L (a : iL31_4) : Prop := ∃ (bs : List By) (i : Nat) (s : S) (j1 j2 j3 j4 j5 : Int), bs.length ≤ 1000000 ∧ i ≤ bs.length / 8 ∧ a = (R bs, ((bs.length / 8 : Nat) : Int), (i : Int), j1, j2, j3, j4, j5, w s.a, w s.b, w s.c, w s.d, w s.e)
def f31L (a : iL31_4) : oL31_4 :=
  (a.1, a.2.1, a.2.2.2.1, a.2.2.2.2.1, a.2.2.2.2.2.1, a.2.2.2.2.2.2.1, a.2.2.2.2.2.2.2.1, wS (absN (a.2.1.toNat - a.2.2.1.toNat) (ofS a.2.2.2.2.2.2.2.2) ((byOf a.1).drop (8 * a.2.2.1.toNat))))
theorem f31L_m (bs : List By) (i : Nat) (s : S) (j1 j2 j3 j4 j5 : Int) : f31L (R bs, ((bs.length / 8 : Nat) : Int), (i : Int), j1, j2, j3, j4, j5, w s.a, w s.b, w s.c, w s.d, w s.e) =
    (R bs, ((bs.length / 8 : Nat) : Int), j1, j2, j3, j4, j5, wS (absN (bs.length / 8 - i) s (bs.drop (8 * i)))) := by
  unfold f31L
  simp only [Int.toNat_natCast, byOf_R, ofS_wS']

theorem s31L : SdL31_4 (prt p31L f31L) := by
  refine of_iterL (step := fun l a => u31_4 sh0 _ _ l a.1 a.2.1 a.2.2.1 a.2.2.2.1 a.2.2.2.2.1 a.2.2.2.2.2.1 a.2.2.2.2.2.2.1 a.2.2.2.2.2.2.2.1 a.2.2.2.2.2.2.2.2.1 a.2.2.2.2.2.2.2.2.2.1 a.2.2.2.2.2.2.2.2.2.2.1 a.2.2.2.2.2.2.2.2.2.2.2.1 a.2.2.2.2.2.2.2.2.2.2.2.2 some) (fun l => okL31_4 _ _ l s36 s12) (fun a => a.2.1.toNat - a.2.2.1.toNat) ?_
  rintro F _ ⟨bs, i, s, j1, j2, j3, j4, j5, hb, hi, rfl⟩ ih
  rw [f31L_m]
  unfold u31_4
  rw [cond_dec]
  by_cases hlt : i < bs.length / 8
  · have hw2 : IntKind.i64.wrap ((8 : Int) * (i : Int)) = ((8 * i : Nat) : Int) := by rw [wrap_i64 (by omega) (by omega)]; omega
    have hw3 : IntKind.i64.wrap (((8 * i : Nat) : Int) + 8) = ((8 * i + 8 : Nat) : Int) := by rw [wrap_i64 (by omega) (by omega)]; omega
    have hw : IntKind.i64.wrap ((i : Int) + 1) = ((i + 1 : Nat) : Int) := by rw [wrap_i64 (by omega) (by omega)]; omega
    rw [if_pos (by simp only; omega), cond_dec, if_pos (by simp only [R_len, hw2, hw3]; omega)]
    let s' := fed s (grp ((bs.drop (8 * i)).take 8))
    have hF := ih (R bs, ((bs.length / 8 : Nat) : Int), ((i + 1 : Nat) : Int), j1, j2, j3, j4, j5, w s'.a, w s'.b, w s'.c, w s'.d, w s'.e) ⟨bs, i + 1, _, j1, j2, j3, j4, j5, hb, by omega, rfl⟩ (by simp only [Int.toNat_natCast]; omega)
    rw [f31L_m] at hF
    have hro : absN (bs.length / 8 - i) s (bs.drop (8 * i)) = absN (bs.length / 8 - (i + 1)) s' (bs.drop (8 * (i + 1))) := by
      rw [show bs.length / 8 - i = (bs.length / 8 - (i + 1)) + 1 by omega, absN, List.drop_drop, show 8 * i + 8 = 8 * (i + 1) by omega]
    simp only [hw2, hw3, hw, Int.toNat_natCast, R_drop, R_take, sh0_eq, show 8 * i + 8 - 8 * i = 8 by omega]
    rw [e36 _ (by simp; omega)]
    simp only [Option.bind_some, wxor, e12, wS]
    rw [hro, show (some : oL31_4 → _) = some from rfl, Option.bind_fun_some]
    exact hF
  · have : i = bs.length / 8 := by omega
    subst this
    rw [if_neg (by simp), Nat.sub_self]
    rfl

def isB (a : Int × Rows) : Prop := isW a.1 ∧ ∃ bs : List By, a.2 = R bs ∧ bs.length ≤ 1000
def f31 (a : i31) : o31 := wS (absorb (BitVec.ofInt 64 a.1) (byOf a.2))

theorem last_row (D : List By) (h : D.length < 8) : (R D ++ List.drop D.length (List.replicate 8 [DL.int .u8 0])).set D.length [DL.int .u8 1] = R (D ++ 1 :: List.replicate (7 - D.length) 0) := by
  rw [show ([DL.int .u8 0] : List DL) = bD 0 from rfl, show ([DL.int .u8 1] : List DL) = bD 1 from rfl, R_rep, R_drop, R_app, R_set]
  congr 1
  rw [List.drop_replicate, List.set_append_right _ _ (Nat.le_refl _), Nat.sub_self, show 8 - D.length = (7 - D.length) + 1 by omega, List.replicate_succ, List.set_cons_zero]

theorem s31 : Sd31 (prt isB f31) := by
  refine of_prt (ok31 _ _ _ s12 s36 s31L) ?_
  rintro ⟨d, rows⟩ ⟨hd, bs, hbs, hb⟩
  simp only at hd hbs
  subst hbs
  obtain ⟨d, rfl⟩ := ex_w hd
  have hl : prt p31L f31L (R bs, ((bs.length / 8 : Nat) : Int), (0 : Int), (0 : Int), (0 : Int), (0 : Int), (0 : Int), (0 : Int), w (st0 d).a, w (st0 d).b, w (st0 d).c, w (st0 d).d, w (st0 d).e) = some (R bs, ((bs.length / 8 : Nat) : Int), (0 : Int), (0 : Int), (0 : Int), (0 : Int), (0 : Int), wS (absN (bs.length / 8) (st0 d) bs)) := by
    rw [prt_eq (by exact ⟨bs, 0, st0 d, 0, 0, 0, 0, 0, by omega, by omega, rfl⟩)]
    have := f31L_m bs 0 (st0 d) 0 0 0 0 0
    simp only [Nat.sub_zero, Nat.mul_zero, List.drop_zero] at this
    exact congrArg some this
  have h1 : prt isS f12 (w d, (1 : Int), (2 : Int), (3 : Int), (4 : Int)) = some (wS (st0 d)) := e12 d 1 2 3 4
  have hw : IntKind.i64.wrap (Int.tdiv (bs.length : Int) 8) = ((bs.length / 8 : Nat) : Int) := by
    rw [Int.tdiv_eq_ediv_of_nonneg (by omega), wrap_i64 (by omega) (by omega)]; omega
  have hw2 : IntKind.i64.wrap ((8 : Int) * ((bs.length / 8 : Nat) : Int)) = ((8 * (bs.length / 8) : Nat) : Int) := by rw [wrap_i64 (by omega) (by omega)]; omega
  generalize hq : bs.length / 8 = q at *
  generalize hD : bs.drop (8 * q) = D at *
  have hDl : D.length = bs.length % 8 := by rw [← hD, List.length_drop]; omega
  have hD8 : D.length < 8 := by omega
  unfold t31
  rw [h1, Option.bind_some]
  simp only [sh0_eq, R_len, hw, wS]
  rw [hl, Option.bind_some]
  simp only [hw2, Int.toNat_natCast, R_drop, hD, R_len, List.length_replicate, cond_dec]
  have hm : Min.min D.length 8 = D.length := by omega
  simp only [hm, R_take, List.take_length]
  rw [if_pos trivial, if_pos (by omega), if_pos (by omega)]
  simp only [Int.toNat_natCast, last_row D hD8, R_len]
  rw [if_pos (by simp; omega), if_pos (by simp; omega), e36 _ (by simp; omega)]
  simp only [Option.bind_some, wS]
  simp only [wxor, e12, Option.bind_some]
  simp only [wS, f31, of_w, byOf_R, absorb_eq, hq, hD, tl, hDl]
  rfl

/-! 37, 33: the reference's -/
theorem e37 (bs : List By) (h : bs.length = 8) : prt is8 f36 (R bs) = some (w (grp bs)) := e36 bs h
theorem room5 {n : Nat} (h : n ≤ 1000000) : roomE Try.prog 5 n = true := by
  have h1 : rowOk Try.prog 5 = true := by kernel_rfl
  have h2 : Try.prog.bytesOf 5 = 1 := by kernel_rfl
  unfold roomE
  rw [h1, h2]
  simp; omega

def fill (ps : List By) : List By := ps ++ List.replicate ((8 - ps.length % 8) % 8) 0
def p33a (a : iL33_2) : Prop := ∃ ps : List By, ps.length ≤ 10000 ∧ a.2.2.2.2.2.2 = R ps
def f33a (a : iL33_2) : oL33_2 := (a.1, a.2.1, a.2.2.1, a.2.2.2.1, a.2.2.2.2.1, a.2.2.2.2.2.1, R (fill (byOf a.2.2.2.2.2.2)))
theorem s33a : SdL33_2 (prt p33a f33a) := by
  refine of_iterL (step := fun l a => u33_2 sh0 l a.1 a.2.1 a.2.2.1 a.2.2.2.1 a.2.2.2.2.1 a.2.2.2.2.2.1 a.2.2.2.2.2.2 some) okL33_2 (fun a => (8 - (a.2.2.2.2.2.2).length % 8) % 8) ?_
  rintro F ⟨j1, j2, j3, j4, j5, j6, _⟩ ⟨ps, hb, rfl⟩ ih
  unfold u33_2
  simp only [sh0_eq, R_len, f33a, byOf_R]
  have hm : (Int.tmod (ps.length : Int) 8 != 0) = decide (ps.length % 8 ≠ 0) := by
    rw [Int.tmod_eq_emod_of_nonneg (by omega)]
    by_cases h : ps.length % 8 = 0
    · rw [show ((ps.length : Int) % 8) = 0 by omega]; simp [h]
    · have : ¬ ((ps.length : Int) % 8) = 0 := by omega
      simp [h, this]
  rw [hm, cond_dec]
  by_cases h : ps.length % 8 = 0
  · rw [if_neg (by simp [h])]
    simp [fill, h]
  · rw [if_pos h]
    simp only [List.length_singleton, room5 (n := ps.length + 1) (by omega), cond_true]
    rw [show ([[DL.int .u8 0]] : Rows) = R [0] from rfl, R_app]
    have hF := ih (j1, j2, j3, j4, j5, j6, R (ps ++ [0])) ⟨_, by simp; omega, rfl⟩ (by simp; omega)
    rw [Option.bind_fun_some, hF]
    simp only [f33a, byOf_R]
    have : fill (ps ++ [0]) = fill ps := by
      unfold fill
      rw [List.append_assoc, ← List.replicate_one, List.replicate_append_replicate]
      congr 2
      simp; omega
    rw [this]

def p33b (a : iL33_6) : Prop := ∃ (ps : List By) (i : Nat) (s : S) (j1 j2 j3 j4 j5 : Int), ps.length ≤ 10000 ∧ ps.length % 8 = 0 ∧ 8 * i ≤ ps.length ∧ a = (((8 * i : Nat) : Int), j1, j2, j3, j4, j5, R ps, w s.a, w s.b, w s.c, w s.d, w s.e)
def f33b (a : iL33_6) : oL33_6 :=
  (a.2.1, a.2.2.1, a.2.2.2.1, a.2.2.2.2.1, a.2.2.2.2.2.1, wS (absN ((a.2.2.2.2.2.2.1.length - a.1.toNat) / 8) (ofS a.2.2.2.2.2.2.2) ((byOf a.2.2.2.2.2.2.1).drop a.1.toNat)))
theorem f33b_m (ps : List By) (i : Nat) (s : S) (j1 j2 j3 j4 j5 : Int) : f33b (((8 * i : Nat) : Int), j1, j2, j3, j4, j5, R ps, w s.a, w s.b, w s.c, w s.d, w s.e) = (j1, j2, j3, j4, j5, wS (absN ((ps.length - 8 * i) / 8) s (ps.drop (8 * i)))) := by
  unfold f33b
  simp only [Int.toNat_natCast, byOf_R, ofS_wS', R_len]
theorem s33b : SdL33_6 (prt p33b f33b) := by
  refine of_iterL (step := fun l a => u33_6 sh0 _ _ l a.1 a.2.1 a.2.2.1 a.2.2.2.1 a.2.2.2.2.1 a.2.2.2.2.2.1 a.2.2.2.2.2.2.1 a.2.2.2.2.2.2.2.1 a.2.2.2.2.2.2.2.2.1 a.2.2.2.2.2.2.2.2.2.1 a.2.2.2.2.2.2.2.2.2.2.1 a.2.2.2.2.2.2.2.2.2.2.2 some) (fun l => okL33_6 _ _ l s37 s13) (fun a => a.2.2.2.2.2.2.1.length - a.1.toNat) ?_
  rintro F _ ⟨ps, i, s, j1, j2, j3, j4, j5, hb, h8, hi, rfl⟩ ih
  rw [f33b_m]
  unfold u33_6
  simp only [sh0_eq, R_len]
  rw [cond_dec]
  by_cases hlt : 8 * i < ps.length
  · have hw3 : IntKind.i64.wrap (((8 * i : Nat) : Int) + 8) = ((8 * (i + 1) : Nat) : Int) := by rw [wrap_i64 (by omega) (by omega)]; omega
    rw [if_pos (by omega), cond_dec, if_pos (by rw [hw3]; omega)]
    let s' := fed s (grp ((ps.drop (8 * i)).take 8))
    have hF := ih (((8 * (i + 1) : Nat) : Int), j1, j2, j3, j4, j5, R ps, w s'.a, w s'.b, w s'.c, w s'.d, w s'.e) ⟨ps, i + 1, _, j1, j2, j3, j4, j5, hb, h8, by omega, rfl⟩ (by simp only [Int.toNat_natCast, R_len]; omega)
    rw [f33b_m] at hF
    have hro : absN ((ps.length - 8 * i) / 8) s (ps.drop (8 * i)) = absN ((ps.length - 8 * (i + 1)) / 8) s' (ps.drop (8 * (i + 1))) := by
      rw [show (ps.length - 8 * i) / 8 = (ps.length - 8 * (i + 1)) / 8 + 1 by omega, absN, List.drop_drop, show 8 * i + 8 = 8 * (i + 1) by omega]
    simp only [hw3, Int.toNat_natCast, R_drop, R_take, show 8 * (i + 1) - 8 * i = 8 by omega]
    rw [e37 _ (by simp; omega)]
    simp only [Option.bind_some, wxor, e12, wS]
    rw [hro, show (some : oL33_6 → _) = some from rfl, Option.bind_fun_some]
    exact hF
  · rw [if_neg (by omega), show (ps.length - 8 * i) / 8 = 0 by omega]
    rfl

theorem s33 : Sd33 (prt isB f31) := by
  refine of_prt (ok33 _ _ _ s13 s33a s33b) ?_
  rintro ⟨d, rows⟩ ⟨hd, bs, hbs, hb⟩
  simp only at hd hbs
  subst hbs
  obtain ⟨d, rfl⟩ := ex_w hd
  unfold t33
  simp only [sh0_eq, List.length_nil, R_len, Nat.zero_add, List.nil_append, room5 (n := bs.length) (by omega), cond_true, List.length_singleton, room5 (n := bs.length + 1) (by omega)]
  rw [show ([[DL.int .u8 1]] : Rows) = R [1] from rfl, R_app]
  have h33 : prt p33a f33a (w d, (0 : Int), (0 : Int), (0 : Int), (0 : Int), (0 : Int), R (bs ++ [1])) = some (w d, (0 : Int), (0 : Int), (0 : Int), (0 : Int), (0 : Int), R (bs ++ tl bs)) := by
    rw [prt_eq (by exact ⟨_, by simp; omega, rfl⟩)]
    simp only [f33a, byOf_R]
    have : fill (bs ++ [1]) = bs ++ tl bs := by
      unfold fill tl
      rw [List.append_assoc]
      congr 1
      simp only [List.singleton_append, List.length_append, List.length_singleton]
      congr 2
      omega
    rw [this]
  have h1 : prt isS f12 (w d, (1 : Int), (2 : Int), (3 : Int), (4 : Int)) = some (wS (st0 d)) := e12 d 1 2 3 4
  have hL := tl_len bs
  have h6 : prt p33b f33b ((0 : Int), (0 : Int), (0 : Int), (0 : Int), (0 : Int), (0 : Int), R (bs ++ tl bs), w (st0 d).a, w (st0 d).b, w (st0 d).c, w (st0 d).d, w (st0 d).e) = some ((0 : Int), (0 : Int), (0 : Int), (0 : Int), (0 : Int), wS (absorb d bs)) := by
    rw [prt_eq (by exact ⟨_, 0, st0 d, 0, 0, 0, 0, 0, by omega, by omega, by omega, rfl⟩)]
    have := f33b_m (bs ++ tl bs) 0 (st0 d) 0 0 0 0 0
    rw [show (bs ++ tl bs).length - 8 * 0 = 8 * (bs.length / 8 + 1) by omega, Nat.mul_div_cancel_left _ (by omega : 0 < 8), Nat.mul_zero, List.drop_zero] at this
    exact congrArg some this
  rw [h33, Option.bind_some, h1, Option.bind_some]
  simp only [wS]
  rw [h6, Option.bind_some]
  simp only [f31, of_w, byOf_R]

end Go.Proofs.Dig

namespace Go.Proofs.Dig
open Go Go.Ev Go.Proofs.DgG

def byw (s : S) (j : Nat) : By := (s.a >>> (8 * j)).setWidth 8
def nx (i : Nat) (s : S) : S := if 0 < i ∧ i % 8 = 0 then perm s else s
def go : Nat → Nat → S → List By
  | 0, _, _ => []
  | k + 1, i, s => byw (nx i s) (i % 8) :: go k (i + 1) (nx i s)
def sqz (n : Nat) (s : S) : List By := go n 0 s
def blk (s : S) : List By := [byw s 0, byw s 1, byw s 2, byw s 3, byw s 4, byw s 5, byw s 6, byw s 7]
def blks : Nat → S → List By
  | 0, _ => []
  | k + 1, s => blk s ++ blks k (perm s)

theorem go_len (k : Nat) : ∀ i s, (go k i s).length = k := by
  induction k with
  | zero => intro i s; rfl
  | succ k ih => intro i s; simp [go, ih]
theorem go_mod (k : Nat) : ∀ i s, 0 < i → go k (i + 8) s = go k i s := by
  induction k with
  | zero => intro i s _; rfl
  | succ k ih =>
    intro i s h
    have h1 : nx (i + 8) s = nx i s := by unfold nx; simp [h]
    simp only [go, h1, Nat.add_mod_right]
    rw [show i + 8 + 1 = (i + 1) + 8 by omega, ih _ _ (by omega)]
theorem go_eight (k : Nat) (s : S) : go k 8 s = go k 0 (perm s) := by
  cases k with
  | zero => rfl
  | succ k =>
    have h1 : nx 8 s = perm s := by simp [nx]
    have h2 : nx 0 (perm s) = perm s := by simp [nx]
    simp only [go, h1, h2, Nat.mod_self, Nat.zero_mod, Nat.zero_add]
    rw [show 8 + 1 = 1 + 8 by omega, go_mod _ _ _ (by omega)]
theorem go_blk (k : Nat) (s : S) : go (k + 8) 0 s = blk s ++ go k 8 s := by
  have h : ∀ i, i < 8 → nx i s = s := fun i hi => by unfold nx; rw [if_neg (by omega)]
  simp only [go, blk, h 0 (by omega), h 1 (by omega), h 2 (by omega), h 3 (by omega), h 4 (by omega), h 5 (by omega), h 6 (by omega), h 7 (by omega), Nat.zero_add, Nat.reduceAdd, Nat.reduceMod, List.cons_append, List.nil_append]
theorem go_take (n : Nat) : ∀ j i s, go n i s = (go (n + j) i s).take n := by
  induction n with
  | zero => intro j i s; simp [go]
  | succ n ih =>
    intro j i s
    rw [show n + 1 + j = (n + j) + 1 by omega]
    simp only [go, List.take_succ_cons]
    rw [← ih]
theorem go_blks (m : Nat) : ∀ n s, n ≤ 8 * m → go n 0 s = (blks m s).take n := by
  induction m with
  | zero => intro n s h; rw [show n = 0 by omega]; rfl
  | succ m ih =>
    intro n s h
    by_cases h8 : 8 ≤ n
    · obtain ⟨k, rfl⟩ : ∃ k, n = k + 8 := ⟨n - 8, by omega⟩
      rw [go_blk, go_eight, ih k _ (by omega), blks, List.take_append, show k + 8 - (blk s).length = k by simp [blk], List.take_of_length_le (l := blk s) (by simp [blk])]
    · rw [go_take n (8 - n), show n + (8 - n) = 0 + 8 by omega, go_blk, blks, go]
      rw [List.append_nil, List.take_append_of_le_length (by simp [blk]; omega)]

/-! 30: squeeze -/
theorem shr8 (a : W) (j : Nat) (h : j < 8) : [DL.int .u8 (IntKind.u8.wrap ((w a).fdiv (2 ^ Min.min (8 * j) 64)))] = bD ((a >>> (8 * j)).setWidth 8) := by
  rw [Nat.min_eq_left (by omega), wshr, wrap_u8]
  unfold bD w
  rw [BitVec.toNat_setWidth]
  simp

def p30L (a : iL30_2) : Prop := ∃ (bs : List By) (i : Nat) (s : S), bs.length ≤ 1000000 ∧ i ≤ bs.length ∧ a = ((i : Int), R bs, w s.a, w s.b, w s.c, w s.d, w s.e)
def f30L (a : iL30_2) : oL30_2 := R ((byOf a.2.1).take a.1.toNat ++ go (a.2.1.length - a.1.toNat) a.1.toNat (ofS a.2.2))
theorem f30L_m (bs : List By) (i : Nat) (s : S) : f30L ((i : Int), R bs, w s.a, w s.b, w s.c, w s.d, w s.e) = R (bs.take i ++ go (bs.length - i) i s) := by
  unfold f30L
  simp only [Int.toNat_natCast, byOf_R, ofS_wS', R_len]
theorem take_set (bs : List By) (i : Nat) (b : By) (h : i < bs.length) : (bs.set i b).take (i + 1) = bs.take i ++ [b] := by
  rw [List.take_set, List.take_add_one, List.getElem?_eq_getElem h, Option.toList_some, List.set_append_right _ _ (by simp; omega)]
  simp [Nat.min_eq_left (Nat.le_of_lt h)]

theorem s30L : SdL30_2 (prt p30L f30L) := by
  refine of_iterL (step := fun l a => u30_2 sh0 _ l a.1 a.2.1 a.2.2.1 a.2.2.2.1 a.2.2.2.2.1 a.2.2.2.2.2.1 a.2.2.2.2.2.2 some) (fun l => okL30_2 _ l s12) (fun a => a.2.1.length - a.1.toNat) ?_
  rintro F _ ⟨bs, i, s, hb, hi, rfl⟩ ih
  rw [f30L_m]
  unfold u30_2
  simp only [sh0_eq, R_len]
  rw [cond_dec]
  by_cases hlt : i < bs.length
  · rw [if_pos (by omega)]
    have hm : Int.tmod (i : Int) 8 = ((i % 8 : Nat) : Int) := by rw [Int.tmod_eq_emod_of_nonneg (by omega)]; omega
    have hw1 : IntKind.u64.wrap ((i % 8 : Nat) : Int) = ((i % 8 : Nat) : Int) := by rw [wrap_u64]; omega
    have hw2 : IntKind.u64.wrap ((8 : Int) * ((i % 8 : Nat) : Int)) = ((8 * (i % 8) : Nat) : Int) := by rw [wrap_u64]; omega
    have hw : IntKind.i64.wrap ((i : Int) + 1) = ((i + 1 : Nat) : Int) := by rw [wrap_i64 (by omega) (by omega)]; omega
    have key : ∀ s' : S, s' = nx i s → F (((i + 1 : Nat) : Int), R (bs.set i (byw s' (i % 8))), w s'.a, w s'.b, w s'.c, w s'.d, w s'.e) = some (R (bs.take i ++ go (bs.length - i) i s)) := by
      intro s' hs
      have hF := ih (((i + 1 : Nat) : Int), R (bs.set i (byw s' (i % 8))), w s'.a, w s'.b, w s'.c, w s'.d, w s'.e) ⟨_, i + 1, _, by simpa using hb, by simp; omega, rfl⟩ (by simp; omega)
      rw [hF, f30L_m, List.length_set, take_set _ _ _ hlt, show bs.length - i = (bs.length - (i + 1)) + 1 by omega, go, hs]
      simp
    have set : ∀ s' : S, (R bs).set i [DL.int .u8 (IntKind.u8.wrap ((w s'.a).fdiv (2 ^ Min.min (8 * (i % 8)) 64)))] = R (bs.set i (byw s' (i % 8))) := by
      intro s'
      rw [shr8 _ _ (by omega), R_set]
      rfl
    simp only [hm, hw1, hw2, hw, Int.toNat_natCast, cond_dec]
    have p1 : (0 : Int) ≤ ((8 * (i % 8) : Nat) : Int) := Int.natCast_nonneg _
    have p2 : (0 : Int) ≤ (i : Int) ∧ (i : Int) < (bs.length : Int) := by omega
    by_cases h0 : 0 < i
    · rw [if_pos (by omega)]
      by_cases h1 : i % 8 = 0
      · rw [show (((i % 8 : Nat) : Int) == 0) = true by simp [h1], cond_true, e12, Option.bind_some, if_pos p1, if_pos p2, if_pos hlt]
        simp only [wS, set, Option.bind_fun_some]
        exact key (perm s) (by unfold nx; rw [if_pos ⟨h0, h1⟩])
      · rw [show (((i % 8 : Nat) : Int) == 0) = false by simp; omega, cond_false, if_pos p1, if_pos p2, if_pos hlt]
        simp only [set, Option.bind_fun_some]
        exact key s (by unfold nx; rw [if_neg (by omega)])
    · rw [if_neg (by omega), if_pos p1, if_pos p2, if_pos hlt]
      simp only [set, Option.bind_fun_some]
      exact key s (by unfold nx; rw [if_neg (by omega)])
  · have : i = bs.length := by omega
    subst this
    rw [if_neg (by omega)]
    simp [go]

def isBig (a : Rows) : Prop := ∃ bs : List By, a = R bs ∧ bs.length ≤ 1000000
def p30 (a : i30) : Prop := isS (a.1, a.2.1, a.2.2.1, a.2.2.2.1, a.2.2.2.2.1) ∧ isBig a.2.2.2.2.2
def f30 (a : i30) : o30 := R (sqz a.2.2.2.2.2.length (ofS (a.1, a.2.1, a.2.2.1, a.2.2.2.1, a.2.2.2.2.1)))
theorem s30 : Sd30 (prt p30 f30) := by
  refine of_prt (ok30 _ s30L) ?_
  rintro ⟨x1, x2, x3, x4, x5, rows⟩ ⟨hs, bs, hbs, hb⟩
  simp only at hbs hs
  subst hbs
  obtain ⟨s, hs⟩ := ex_S hs
  simp only [wS, Prod.mk.injEq] at hs
  obtain ⟨rfl, rfl, rfl, rfl, rfl⟩ := hs
  unfold t30
  have e : prt p30L f30L ((0 : Int), R bs, w s.a, w s.b, w s.c, w s.d, w s.e) = some (R (sqz bs.length s)) := by
    rw [prt_eq (by exact ⟨bs, 0, s, hb, by omega, rfl⟩)]
    have := f30L_m bs 0 s
    simp only [Nat.sub_zero, List.take_zero, List.nil_append] at this
    exact congrArg some this
  rw [e, Option.bind_some]
  simp only [f30, R_len, ofS_wS']
theorem e30 (s : S) (bs : List By) (h : bs.length ≤ 1000000) : prt p30 f30 (w s.a, w s.b, w s.c, w s.d, w s.e, R bs) = some (R (sqz bs.length s)) := by
  rw [prt_eq (by exact ⟨isS_wS s, bs, rfl, h⟩)]
  simp only [f30, R_len, ofS_wS']

end Go.Proofs.Dig

namespace Go.Proofs.Dig
open Go Go.Ev Go.Proofs.DgG

theorem e13 (a b c d e : W) : prt isS f12 (w a, w b, w c, w d, w e) = some (wS (perm ⟨a, b, c, d, e⟩)) := e12 a b c d e
theorem blk_drop (s : S) (i : Nat) (h : i < 8) : (blk s).drop i = byw s i :: (blk s).drop (i + 1) := by
  match i, h with
  | 0, _ => rfl
  | 1, _ => rfl
  | 2, _ => rfl
  | 3, _ => rfl
  | 4, _ => rfl
  | 5, _ => rfl
  | 6, _ => rfl
  | 7, _ => rfl
theorem blk_len (s : S) : (blk s).length = 8 := rfl
theorem blks_len (m : Nat) : ∀ s, (blks m s).length = 8 * m := by
  induction m with
  | zero => intro s; rfl
  | succ m ih => intro s; rw [blks, List.length_append, ih, blk_len]; omega

def p32b (a : iL32_4) : Prop := ∃ (n : Int) (i : Nat) (s : S) (ps : List By), ps.length + (8 - i) ≤ 900000 ∧ i ≤ 8 ∧ a = (n, (i : Int), w s.a, w s.b, w s.c, w s.d, w s.e, R ps)
def f32b (a : iL32_4) : oL32_4 := (a.1, a.2.2.1, a.2.2.2.1, a.2.2.2.2.1, a.2.2.2.2.2.1, a.2.2.2.2.2.2.1, R (byOf a.2.2.2.2.2.2.2 ++ (blk (ofS (a.2.2.1, a.2.2.2.1, a.2.2.2.2.1, a.2.2.2.2.2.1, a.2.2.2.2.2.2.1))).drop a.2.1.toNat))
theorem f32b_m (n : Int) (i : Nat) (s : S) (ps : List By) : f32b (n, (i : Int), w s.a, w s.b, w s.c, w s.d, w s.e, R ps) = (n, w s.a, w s.b, w s.c, w s.d, w s.e, R (ps ++ (blk s).drop i)) := by
  unfold f32b
  simp only [Int.toNat_natCast, byOf_R, ofS_wS']
theorem s32b : SdL32_4 (prt p32b f32b) := by
  refine of_iterL (step := fun l a => u32_4 sh0 l a.1 a.2.1 a.2.2.1 a.2.2.2.1 a.2.2.2.2.1 a.2.2.2.2.2.1 a.2.2.2.2.2.2.1 a.2.2.2.2.2.2.2 some) okL32_4 (fun a => 8 - a.2.1.toNat) ?_
  rintro F _ ⟨n, i, s, ps, hl, hi, rfl⟩ ih
  rw [f32b_m]
  unfold u32_4
  rw [cond_dec]
  by_cases hlt : i < 8
  · have hw2 : IntKind.i64.wrap ((8 : Int) * (i : Int)) = ((8 * i : Nat) : Int) := by rw [wrap_i64 (by omega) (by omega)]; omega
    have hw : IntKind.i64.wrap ((i : Int) + 1) = ((i + 1 : Nat) : Int) := by rw [wrap_i64 (by omega) (by omega)]; omega
    rw [if_pos (by simp only; omega)]
    have hF := ih (n, ((i + 1 : Nat) : Int), w s.a, w s.b, w s.c, w s.d, w s.e, R (ps ++ [byw s i])) ⟨n, i + 1, s, _, by simp; omega, by omega, rfl⟩ (by simp only [Int.toNat_natCast]; omega)
    rw [f32b_m] at hF
    have hb : ([[DL.int .u8 (IntKind.u8.wrap ((w s.a).fdiv (2 ^ Min.min (8 * i) 64)))]] : Rows) = R [byw s i] := by
      rw [shr8 _ _ hlt]; rfl
    simp only [hw2, hw, cond_dec, sh0_eq, Int.toNat_natCast, hb, R_len, List.length_singleton, R_app]
    rw [if_pos (Int.natCast_nonneg _), room5 (by omega), cond_true, hF, blk_drop s i hlt]
    simp
  · have : i = 8 := by omega
    subst this
    rw [if_neg (by simp), List.drop_of_length_le (by rw [blk_len]; omega), List.append_nil]

def p32a (a : iL32_2) : Prop := ∃ (n : Nat) (s : S) (ps : List By), n ≤ 100000 ∧ ps.length ≤ 200000 ∧ a = ((n : Int), w s.a, w s.b, w s.c, w s.d, w s.e, R ps)
def f32a (a : iL32_2) : oL32_2 := (a.1, R (byOf a.2.2.2.2.2.2 ++ blks ((a.1.toNat - a.2.2.2.2.2.2.length + 7) / 8) (ofS (a.2.1, a.2.2.1, a.2.2.2.1, a.2.2.2.2.1, a.2.2.2.2.2.1))))
theorem f32a_m (n : Nat) (s : S) (ps : List By) : f32a ((n : Int), w s.a, w s.b, w s.c, w s.d, w s.e, R ps) = ((n : Int), R (ps ++ blks ((n - ps.length + 7) / 8) s)) := by
  unfold f32a
  simp only [Int.toNat_natCast, byOf_R, ofS_wS', R_len]
theorem s32a : SdL32_2 (prt p32a f32a) := by
  refine of_iterL (step := fun l a => u32_2 sh0 _ _ l a.1 a.2.1 a.2.2.1 a.2.2.2.1 a.2.2.2.2.1 a.2.2.2.2.2.1 a.2.2.2.2.2.2 some) (fun l => okL32_2 _ _ l s13 s32b) (fun a => a.1.toNat - a.2.2.2.2.2.2.length) ?_
  rintro F _ ⟨n, s, ps, hn, hp, rfl⟩ ih
  rw [f32a_m]
  unfold u32_2
  simp only [sh0_eq, R_len, cond_dec]
  by_cases hlt : ps.length < n
  · rw [if_pos (by omega)]
    have e : prt p32b f32b ((n : Int), (0 : Int), w s.a, w s.b, w s.c, w s.d, w s.e, R ps) = some ((n : Int), w s.a, w s.b, w s.c, w s.d, w s.e, R (ps ++ blk s)) := by
      rw [prt_eq (by exact ⟨n, 0, s, ps, by omega, by omega, rfl⟩)]
      exact congrArg some (f32b_m n 0 s ps)
    have hF := ih ((n : Int), w (perm s).a, w (perm s).b, w (perm s).c, w (perm s).d, w (perm s).e, R (ps ++ blk s)) ⟨n, perm s, _, hn, by rw [List.length_append, blk_len]; omega, rfl⟩ (by simp only [Int.toNat_natCast, R_len, List.length_append, blk_len]; omega)
    rw [f32a_m] at hF
    rw [e, Option.bind_some]
    simp only [e12, Option.bind_some, wS, Option.bind_fun_some]
    rw [hF, List.length_append, blk_len, show (n - ps.length + 7) / 8 = (n - (ps.length + 8) + 7) / 8 + 1 by omega, blks, List.append_assoc]
  · rw [if_neg (by omega), show (n - ps.length + 7) / 8 = 0 by omega]
    simp [blks]

def p32 (a : i32) : Prop := isS (a.1, a.2.1, a.2.2.1, a.2.2.2.1, a.2.2.2.2.1) ∧ 0 ≤ a.2.2.2.2.2 ∧ a.2.2.2.2.2 ≤ 100000
def f32 (a : i32) : o32 := R (sqz a.2.2.2.2.2.toNat (ofS (a.1, a.2.1, a.2.2.1, a.2.2.2.1, a.2.2.2.2.1)))
theorem s32 : Sd32 (prt p32 f32) := by
  refine of_prt (ok32 _ s32a) ?_
  rintro ⟨x1, x2, x3, x4, x5, n⟩ ⟨hs, h0, hn⟩
  simp only at hs h0 hn
  obtain ⟨n, rfl⟩ := Int.eq_ofNat_of_zero_le h0
  obtain ⟨s, hs⟩ := ex_S hs
  simp only [wS, Prod.mk.injEq] at hs
  obtain ⟨rfl, rfl, rfl, rfl, rfl⟩ := hs
  unfold t32
  have e : prt p32a f32a ((n : Int), w s.a, w s.b, w s.c, w s.d, w s.e, ([] : Rows)) = some ((n : Int), R (blks ((n + 7) / 8) s)) := by
    rw [prt_eq (by exact ⟨n, s, [], by omega, by simp, rfl⟩)]
    exact congrArg some (f32a_m n s [])
  simp only [sh0_eq]
  rw [e, Option.bind_some]
  simp only [R_len, blks_len, cond_dec]
  rw [if_pos (by omega)]
  simp only [f32, Int.toNat_natCast, ofS_wS', Nat.sub_zero, List.drop_zero, R_take, sqz]
  rw [go_blks ((n + 7) / 8) n s (by omega)]
theorem e32 (s : S) (n : Nat) (h : n ≤ 100000) : prt p32 f32 (w s.a, w s.b, w s.c, w s.d, w s.e, (n : Int)) = some (R (sqz n s)) := by
  rw [prt_eq (by exact ⟨isS_wS s, by simp, by simp; omega⟩)]
  simp only [f32, Int.toNat_natCast, ofS_wS']

/-! ### Packs -/
def nI (bs : List By) : List Int := bs.map fun b => (b.toNat : Int)
theorem nI_nth (bs : List By) : ∀ i, nthI (nI bs) i = ((nb bs i).toNat : Int) := by
  induction bs with
  | nil => intro i; rfl
  | cons b r ih => intro i; cases i with
    | zero => rfl
    | succ i => exact ih i
theorem range_nb (bs : List By) : (List.range bs.length).map (fun i => ((nb bs i).toNat : Int)) = nI bs := by
  refine List.ext_getElem (by simp [nI]) fun i h1 h2 => ?_
  simp only [List.getElem_map, List.getElem_range, nI]
  rw [nb_get, List.getElem?_eq_getElem (by simpa [nI] using h2)]
  rfl
theorem colI_R {bs : List By} {n : Nat} (h : bs.length = n) : colI (R bs) n = nI bs := by
  subst h
  unfold colI
  simp only [cR]
  exact range_nb bs
theorem pkL_nI {bs : List By} {n : Nat} (h : bs.length = n) : pkL (nI bs) n = nI bs := by
  subst h
  unfold pkL
  simp only [nI_nth]
  exact range_nb bs
theorem colD_nI (bs : List By) : colD (mapD .u8 (nI bs)) = R bs := by
  unfold colD mapD nI R
  rw [List.map_map, List.map_map]
  rfl
theorem nI_inj {a b : List By} (h : nI a = nI b) : a = b := R_inj (by rw [← colD_nI, h, colD_nI])
theorem eqI_nI {a b : List By} {n : Nat} (ha : a.length = n) (hb : b.length = n) : eqI (nI a) (nI b) n = decide (a = b) := by
  have key : ∀ (l : List Nat) , (l.foldr (fun i acc => (nthI (nI a) i == nthI (nI b) i) && acc) true) = l.all fun i => nthI (nI a) i == nthI (nI b) i := by
    intro l
    induction l with
    | nil => rfl
    | cons x l ih => simp [ih]
  unfold eqI
  rw [key]
  by_cases h : a = b
  · subst h; simp
  · rw [decide_eq_false h]
    refine Bool.eq_false_iff.2 fun hc => h ?_
    simp only [List.all_eq_true, List.mem_range, beq_iff_eq, nI_nth] at hc
    refine List.ext_getElem (by omega) fun i h1 h2 => ?_
    have := hc i (by omega)
    rw [nb_get, nb_get, List.getElem?_eq_getElem h1, List.getElem?_eq_getElem h2] at this
    simp only [Option.getD_some] at this
    exact BitVec.eq_of_toNat_eq (by omega)
theorem zeroI (n : Nat) : (List.replicate n (0 : Int)) = nI (List.replicate n 0) := by simp [nI]

/-! ### Sum -/
def sum (d : W) (bs : List By) : List By := sqz 32 (absorb d bs)
theorem sum_len (d : W) (bs : List By) : (sum d bs).length = 32 := go_len _ _ _
def f15 (a : i15) : o15 := nI (sum (BitVec.ofInt 64 a.1) (byOf a.2))
theorem e31 (d : W) (bs : List By) (h : bs.length ≤ 1000) : prt isB f31 (w d, R bs) = some (wS (absorb d bs)) := by
  rw [prt_eq (by exact ⟨isW_w d, bs, rfl, h⟩)]
  simp only [f31, of_w, byOf_R]

theorem s15 : Sd15 (prt isB f15) := by
  refine of_prt (ok15 _ _ s31 s30) ?_
  rintro ⟨d, rows⟩ ⟨hd, bs, hbs, hb⟩
  simp only at hd hbs
  subst hbs
  obtain ⟨d, rfl⟩ := ex_w hd
  unfold t15
  rw [e31 d bs hb]
  simp only [sh0_eq, Option.bind_some, List.length_replicate, cond_dec, wS]
  rw [show ([DL.int .u8 (0 : Int)] : List DL) = bD 0 from rfl, R_rep, if_pos trivial, e30 _ _ (by simp), Option.bind_some]
  have hl : (sqz 32 (absorb d bs)).length = 32 := sum_len d bs
  simp only [List.length_replicate, R_len, hl]
  rw [if_pos trivial, if_pos trivial, colI_R hl, colD_nI, R_len, hl, if_pos rfl, colI_R hl]
  simp only [f15, of_w, byOf_R, sum]

def p16L (a : iL16_4) : Prop := ∃ (bs ts : List By) (i : Nat) (j : Rows), bs.length = 32 ∧ ts.length = 32 ∧ i ≤ 32 ∧ a = (R bs, (i : Int), j, R ts)
def f16L (a : iL16_4) : oL16_4 := (a.2.2.1, R ((byOf a.2.2.2).take a.2.1.toNat ++ (byOf a.1).drop a.2.1.toNat))
theorem f16L_m (bs ts : List By) (i : Nat) (j : Rows) : f16L (R bs, (i : Int), j, R ts) = (j, R (ts.take i ++ bs.drop i)) := by
  unfold f16L
  simp only [Int.toNat_natCast, byOf_R]
theorem nb_bD (bs : List By) (i : Nat) : ([DL.int .u8 (((nb bs i).toNat : Nat) : Int)] : List DL) = bD (nb bs i) := rfl
theorem s16L : SdL16_4 (prt p16L f16L) := by
  refine of_iterL (step := fun l a => u16_4 sh0 l a.1 a.2.1 a.2.2.1 a.2.2.2 some) okL16_4 (fun a => 32 - a.2.1.toNat) ?_
  rintro F _ ⟨bs, ts, i, j, hb, ht, hi, rfl⟩ ih
  rw [f16L_m]
  unfold u16_4
  simp only [sh0_eq, R_len, cond_dec]
  by_cases hlt : i < 32
  · have hw : IntKind.i64.wrap ((i : Int) + 1) = ((i + 1 : Nat) : Int) := by rw [wrap_i64 (by omega) (by omega)]; omega
    have hF := ih (R bs, ((i + 1 : Nat) : Int), j, R (ts.set i (nb bs i))) ⟨bs, _, i + 1, j, hb, by simpa using ht, by omega, rfl⟩ (by simp only [Int.toNat_natCast]; omega)
    rw [f16L_m, take_set _ _ _ (by omega)] at hF
    rw [if_pos (by omega), if_pos (by omega), if_pos (by omega), Int.toNat_natCast, if_pos (by omega), cR, nb_bD, R_set, hw, Option.bind_fun_some, hF]
    have : bs.drop i = nb bs i :: bs.drop (i + 1) := by
      rw [List.drop_eq_getElem_cons (by omega), nb_get, List.getElem?_eq_getElem (by omega)]
      rfl
    rw [this]
    simp
  · have : i = 32 := by omega
    subst this
    rw [if_neg (by omega), List.drop_of_length_le (by omega), List.take_of_length_le (by omega), List.append_nil]

theorem s16 : Sd16 (prt isB f15) := by
  refine of_prt (ok16 _ _ _ s33 s32 s16L) ?_
  rintro ⟨d, rows⟩ ⟨hd, bs, hbs, hb⟩
  simp only at hd hbs
  subst hbs
  obtain ⟨d, rfl⟩ := ex_w hd
  unfold t16
  rw [e31 d bs hb]
  simp only [sh0_eq, Option.bind_some, cond_dec, wS]
  have hl : (sqz 32 (absorb d bs)).length = 32 := sum_len d bs
  have h32 : prt p32 f32 (w (absorb d bs).a, w (absorb d bs).b, w (absorb d bs).c, w (absorb d bs).d, w (absorb d bs).e, (32 : Int)) = some (R (sqz 32 (absorb d bs))) := e32 (absorb d bs) 32 (by omega)
  rw [h32, Option.bind_some, show ([DL.int .u8 (0 : Int)] : List DL) = bD 0 from rfl, R_rep]
  have e : prt p16L f16L (R (sqz 32 (absorb d bs)), (0 : Int), R (List.replicate 32 0), R (List.replicate 32 0)) = some (R (List.replicate 32 0), R (sqz 32 (absorb d bs))) := by
    rw [prt_eq (by exact ⟨_, _, 0, _, hl, by simp, by omega, rfl⟩)]
    exact congrArg some (f16L_m _ _ 0 _)
  rw [e, Option.bind_some]
  simp only [R_len, hl, List.length_replicate]
  rw [if_pos trivial, if_pos trivial, colI_R hl, colD_nI, R_len, hl, if_pos rfl, colI_R hl]
  simp only [f15, of_w, byOf_R, sum]

end Go.Proofs.Dig

namespace Go.Proofs.Dig
open Go Go.Ev Go.Proofs.DgG

def tbl : List UInt8 := [48, 49, 50, 51, 52, 53, 54, 55, 56, 57, 97, 98, 99, 100, 101, 102]
def hB (n : Nat) : By := (tbl.getD n 0).toBitVec
def hx2 (b : By) : List By := [hB (b.toNat / 16), hB (b.toNat % 16)]
def hex (bs : List By) : List By := bs.flatMap hx2
def S8 (bs : List By) : ByteArray := ⟨(bs.map UInt8.ofBitVec).toArray⟩
theorem S8_R (bs : List By) : strOfBytes (R bs) = S8 bs := by
  unfold strOfBytes S8 R
  rw [List.map_map]
  congr 2
  refine List.map_congr_left fun b _ => ?_
  show UInt8.ofNat ((b.toNat : Int)).toNat = UInt8.ofBitVec b
  rw [Int.toNat_natCast]
  exact UInt8.toBitVec_inj.1 (by simp)
theorem S8_app (a b : List By) : S8 a ++ S8 b = S8 (a ++ b) := by
  apply ByteArray.ext
  simp [S8, ByteArray.data_append]
theorem S8_size (a : List By) : (S8 a).size = a.length := by simp [S8, ByteArray.size]
theorem hex_len (bs : List By) : (hex bs).length = 2 * bs.length := by
  induction bs with
  | nil => rfl
  | cons b r ih => simp only [hex, List.flatMap_cons, List.length_append, List.length_cons] at ih ⊢; simp only [hx2, List.length_cons, List.length_nil] at ih ⊢; omega
theorem drop_nb (bs : List By) (i : Nat) (h : i < bs.length) : bs.drop i = nb bs i :: bs.drop (i + 1) := by
  rw [List.drop_eq_getElem_cons h, nb_get, List.getElem?_eq_getElem h]
  rfl
theorem hB_row (n : Nat) : ([DL.int .u8 (((tbl.getD n 0).toNat : Nat) : Int)] : List DL) = bD (hB n) := rfl

def p17L (a : iL17_3) : Prop := ∃ (bs out : List By) (i : Nat), bs.length = 32 ∧ out.length = 64 ∧ i ≤ 32 ∧ a = ((i : Int), R bs, R out)
def f17L (a : iL17_3) : oL17_3 := R ((byOf a.2.2).take (2 * a.1.toNat) ++ hex ((byOf a.2.1).drop a.1.toNat))
theorem f17L_m (bs out : List By) (i : Nat) : f17L ((i : Int), R bs, R out) = R (out.take (2 * i) ++ hex (bs.drop i)) := by
  unfold f17L
  simp only [Int.toNat_natCast, byOf_R]
theorem low4 (b : By) : IntKind.u8.wrap (((BitVec.ofInt 8 ((b.toNat : Nat) : Int) &&& BitVec.ofInt 8 (15 : Int)).toNat : Nat) : Int) = ((b.toNat % 16 : Nat) : Int) := by
  rw [BitVec.ofInt_natCast, wrap_u8, BitVec.toNat_and, show (BitVec.ofInt 8 (15 : Int)).toNat = 2 ^ 4 - 1 from by decide, Nat.and_two_pow_sub_one_eq_mod, BitVec.toNat_ofNat]
  have := b.isLt
  omega
theorem s17L : SdL17_3 (prt p17L f17L) := by
  refine of_iterL (step := fun l a => u17_3 sh0 l a.1 a.2.1 a.2.2 some) okL17_3 (fun a => 32 - a.1.toNat) ?_
  rintro F _ ⟨bs, out, i, hb, ho, hi, rfl⟩ ih
  rw [f17L_m]
  unfold u17_3
  simp only [sh0_eq, R_len, cond_dec]
  by_cases hlt : i < 32
  · have hw : IntKind.i64.wrap ((i : Int) + 1) = ((i + 1 : Nat) : Int) := by rw [wrap_i64 (by omega) (by omega)]; omega
    have hw2 : IntKind.i64.wrap ((2 : Int) * (i : Int)) = ((2 * i : Nat) : Int) := by rw [wrap_i64 (by omega) (by omega)]; omega
    have hw3 : IntKind.i64.wrap (((2 * i : Nat) : Int) + 1) = ((2 * i + 1 : Nat) : Int) := by rw [wrap_i64 (by omega) (by omega)]; omega
    have hb8 := (nb bs i).isLt
    have hd : Int.fdiv (((nb bs i).toNat : Nat) : Int) 16 = (((nb bs i).toNat / 16 : Nat) : Int) := by
      rw [Int.fdiv_eq_ediv_of_nonneg _ (by omega)]; omega
    have hF := ih (((i + 1 : Nat) : Int), R bs, R ((out.set (2 * i) (hB ((nb bs i).toNat / 16))).set (2 * i + 1) (hB ((nb bs i).toNat % 16)))) ⟨bs, _, i + 1, hb, by simpa using ho, by omega, rfl⟩ (by simp only [Int.toNat_natCast]; omega)
    rw [f17L_m, show 2 * (i + 1) = (2 * i + 1) + 1 by omega, take_set _ _ _ (by simp; omega), take_set _ _ _ (by omega)] at hF
    simp only [cR, Int.toNat_natCast, hd, low4, hw, hw2, hw3]
    simp only [show ([48, 49, 50, 51, 52, 53, 54, 55, 56, 57, 97, 98, 99, 100, 101, 102] : List UInt8) = tbl from rfl, hB_row, R_set, R_len, List.length_set]
    rw [if_pos (by omega), if_pos (by omega), if_pos (by omega), if_pos (by omega), if_pos (by omega), if_pos (by omega), if_pos (by omega), if_pos (by omega), if_pos (by omega), if_pos (by omega), if_pos (by omega), Option.bind_fun_some, hF, drop_nb bs i (by omega)]
    simp [hex, hx2]
  · have : i = 32 := by omega
    subst this
    rw [if_neg (by omega), List.drop_of_length_le (by omega), List.take_of_length_le (by omega)]
    simp [hex]

def is32 (a : List Int) : Prop := ∃ bs : List By, a = nI bs ∧ bs.length = 32
def bI (a : List Int) : List By := a.map fun n => BitVec.ofInt 8 n
theorem bI_nI (bs : List By) : bI (nI bs) = bs := by
  unfold bI nI
  rw [List.map_map]
  conv => rhs; rw [← List.map_id bs]
  refine List.map_congr_left fun b _ => ?_
  simp [BitVec.ofInt_natCast]
def f17 (a : i17) : o17 := S8 (hex (bI a))
theorem s17 : Sd17 (prt is32 f17) := by
  refine of_prt (ok17 _ s17L) ?_
  rintro _ ⟨bs, rfl, hb⟩
  unfold t17
  simp only [sh0_eq, pkL_nI hb, colD_nI, cond_dec]
  rw [show ([DL.int .u8 (0 : Int)] : List DL) = bD 0 from rfl, R_rep]
  have e : prt p17L f17L ((0 : Int), R bs, R (List.replicate 64 0)) = some (R (hex bs)) := by
    rw [prt_eq (by exact ⟨bs, _, 0, hb, by simp, by omega, rfl⟩)]
    exact congrArg some (f17L_m bs _ 0)
  rw [e, Option.bind_some, R_len, hex_len, if_pos (by omega), S8_R]
  simp only [f17, bI_nI]

/-! 19: the reference's -/
theorem ext1 (n : Nat) (h : n < 16) : ByteArray.extract { data := #[48, 49, 50, 51, 52, 53, 54, 55, 56, 57, 97, 98, 99, 100, 101, 102] } n (n + 1) = S8 [hB n] := by
  have : ∀ m : Fin 16, ByteArray.extract { data := #[48, 49, 50, 51, 52, 53, 54, 55, 56, 57, 97, 98, 99, 100, 101, 102] } m.1 (m.1 + 1) = S8 [hB m.1] := by decide
  exact this ⟨n, h⟩
def p19L (a : iL19_3) : Prop := ∃ (cs bs : List By) (i : Nat), bs.length = 32 ∧ cs.length ≤ 2 * i ∧ i ≤ 32 ∧ a = (S8 cs, (i : Int), R bs)
def unS (s : ByteArray) : List By := s.data.toList.map UInt8.toBitVec
theorem unS_S8 (bs : List By) : unS (S8 bs) = bs := by
  unfold unS S8
  rw [List.toList_toArray, List.map_map, show (UInt8.toBitVec ∘ UInt8.ofBitVec) = id from funext fun b => rfl, List.map_id]
def f19L (a : iL19_3) : oL19_3 := S8 (unS a.1 ++ hex ((byOf a.2.2).drop a.2.1.toNat))
theorem f19L_m (cs bs : List By) (i : Nat) : f19L (S8 cs, (i : Int), R bs) = S8 (cs ++ hex (bs.drop i)) := by
  unfold f19L
  simp only [Int.toNat_natCast, byOf_R, unS_S8]
theorem s19L : SdL19_3 (prt p19L f19L) := by
  refine of_iterL (step := fun l a => u19_3 sh0 l a.1 a.2.1 a.2.2 some) okL19_3 (fun a => 32 - a.2.1.toNat) ?_
  rintro F _ ⟨cs, bs, i, hb, hc, hi, rfl⟩ ih
  rw [f19L_m]
  unfold u19_3
  simp only [sh0_eq, R_len, cond_dec]
  by_cases hlt : i < 32
  · have hw : IntKind.i64.wrap ((i : Int) + 1) = ((i + 1 : Nat) : Int) := by rw [wrap_i64 (by omega) (by omega)]; omega
    have hb8 := (nb bs i).isLt
    have hq : IntKind.u8.wrap (Int.tdiv (((nb bs i).toNat : Nat) : Int) 16) = (((nb bs i).toNat / 16 : Nat) : Int) := by
      rw [Int.tdiv_eq_ediv_of_nonneg (by omega), wrap_u8]; omega
    have hq1 : IntKind.u8.wrap ((((nb bs i).toNat / 16 : Nat) : Int) + 1) = (((nb bs i).toNat / 16 + 1 : Nat) : Int) := by
      rw [wrap_u8]; omega
    have hr : Int.tmod (((nb bs i).toNat : Nat) : Int) 16 = (((nb bs i).toNat % 16 : Nat) : Int) := by
      rw [Int.tmod_eq_emod_of_nonneg (by omega)]; omega
    have hr1 : IntKind.u8.wrap ((((nb bs i).toNat % 16 : Nat) : Int) + 1) = (((nb bs i).toNat % 16 + 1 : Nat) : Int) := by
      rw [wrap_u8]; omega
    have hF := ih (S8 (cs ++ [hB ((nb bs i).toNat / 16)] ++ [hB ((nb bs i).toNat % 16)]), ((i + 1 : Nat) : Int), R bs) ⟨_, bs, i + 1, hb, by simp; omega, by omega, rfl⟩ (by simp only [Int.toNat_natCast]; omega)
    rw [f19L_m] at hF
    simp only [cR, Int.toNat_natCast, hq, hq1, hr, hr1, hw, ext1 _ (show (nb bs i).toNat / 16 < 16 by omega), ext1 _ (show (nb bs i).toNat % 16 < 16 by omega), S8_app, S8_size]
    simp only [List.length_append, List.length_singleton]
    rw [if_pos (by omega), if_pos (by omega), if_pos (by omega), if_pos (by omega), if_pos (by omega), if_pos (by omega), if_pos (by omega), if_pos (by omega), if_pos (by omega), Option.bind_fun_some, hF, drop_nb bs i (by omega)]
    simp [hex, hx2]
  · have : i = 32 := by omega
    subst this
    rw [if_neg (by omega), List.drop_of_length_le (by omega)]
    simp [hex]
theorem s19 : Sd19 (prt is32 f17) := by
  refine of_prt (ok19 _ s19L) ?_
  rintro _ ⟨bs, rfl, hb⟩
  unfold t19
  simp only [sh0_eq, pkL_nI hb, colD_nI]
  have e : prt p19L f19L ({ data := #[] }, (0 : Int), R bs) = some (S8 (hex bs)) := by
    rw [prt_eq (by exact ⟨[], bs, 0, hb, by simp, by omega, rfl⟩)]
    exact congrArg some (f19L_m [] bs 0)
  rw [e, Option.bind_some]
  simp only [f17, bI_nI]

end Go.Proofs.Dig

namespace Go.Proofs.Dig
open Go Go.Ev Go.Proofs.DgG

def nib (c : By) : Int :=
  if 48 ≤ c.toNat ∧ c.toNat ≤ 57 then (c.toNat : Int) - 48 else if 97 ≤ c.toNat ∧ c.toNat ≤ 102 then (c.toNat : Int) - 87 else -1
theorem nib_lt (c : By) : nib c < 16 := by unfold nib; split <;> (try split) <;> omega
def isC (a : Int) : Prop := ∃ c : By, a = (c.toNat : Int)
def f34 (a : i34) : o34 := nib (BitVec.ofInt 8 a)
theorem nib_run (c : By) : (if (c.toNat : Int) ≥ 48 then if (c.toNat : Int) ≤ 57 then some (IntKind.i64.wrap (IntKind.u8.wrap ((c.toNat : Int) - 48))) else
      if (c.toNat : Int) ≥ 97 then if (c.toNat : Int) ≤ 102 then some (IntKind.i64.wrap (IntKind.i64.wrap (IntKind.u8.wrap ((c.toNat : Int) - 97)) + 10)) else some (-1) else some (-1)
    else if (c.toNat : Int) ≥ 97 then if (c.toNat : Int) ≤ 102 then some (IntKind.i64.wrap (IntKind.i64.wrap (IntKind.u8.wrap ((c.toNat : Int) - 97)) + 10)) else some (-1) else some (-1))
    = some (if 48 ≤ c.toNat ∧ c.toNat ≤ 57 then (c.toNat : Int) - 48 else if 97 ≤ c.toNat ∧ c.toNat ≤ 102 then (c.toNat : Int) - 87 else -1) := by
  have hc := c.isLt
  have ha : IntKind.i64.wrap (IntKind.u8.wrap ((c.toNat : Int) - 48)) = ((c.toNat : Int) - 48) % 256 := by
    rw [wrap_u8, wrap_i64 (by omega) (by omega)]
  have hb : IntKind.i64.wrap (IntKind.i64.wrap (IntKind.u8.wrap ((c.toNat : Int) - 97)) + 10) = ((c.toNat : Int) - 97) % 256 + 10 := by
    rw [wrap_u8, wrap_i64 (n := ((c.toNat : Int) - 97) % 256) (by omega) (by omega), wrap_i64 (by omega) (by omega)]
  rw [ha, hb]
  repeat' split
  all_goals first
    | rfl
    | (congr 1; omega)
    | omega
theorem s34 : Sd34 (prt isC f34) := by
  refine of_prt ok34 ?_
  rintro _ ⟨c, rfl⟩
  unfold t34
  simp only [cond_dec, f34, BitVec.ofInt_natCast, BitVec.ofNat_toNat, BitVec.setWidth_eq, nib]
  exact nib_run c
theorem s35 : Sd35 (prt isC f34) := by
  refine of_prt ok35 ?_
  rintro _ ⟨c, rfl⟩
  unfold t35
  simp only [cond_dec, f34, BitVec.ofInt_natCast, BitVec.ofNat_toNat, BitVec.setWidth_eq, nib]
  exact nib_run c
theorem e34 (c : By) : prt isC f34 ((c.toNat : Nat) : Int) = some (nib c) := by
  rw [prt_eq (by exact ⟨c, rfl⟩)]
  simp [f34, BitVec.ofInt_natCast]

theorem S8_unS (s : ByteArray) : S8 (unS s) = s := by
  unfold S8 unS
  rw [List.map_map, show (UInt8.ofBitVec ∘ UInt8.toBitVec) = id from funext fun b => rfl, List.map_id]
theorem S8_get (cs : List By) (i : Nat) : ((UInt8.toNat (List.getD (Array.toList (ByteArray.data (S8 cs))) i 0) : Nat) : Int) = ((nb cs i).toNat : Int) := by
  rw [nb_get]
  simp only [S8, List.toList_toArray, List.getD_eq_getElem?_getD, List.getElem?_map]
  cases cs[i]? with
  | none => rfl
  | some b => rfl

/-- One digit more of a byte. -/
def cmb (b : By) (v : Int) : By := BitVec.ofNat 8 (b.toNat * 16 + v.toNat)
theorem cmb_add (b : By) (v : Int) (h0 : 0 ≤ v) (h1 : v < 16) : IntKind.u8.wrap (IntKind.u8.wrap (((b.toNat : Nat) : Int) * 16) + IntKind.u8.wrap v) = (((cmb b v).toNat : Nat) : Int) := by
  unfold cmb
  rw [BitVec.toNat_ofNat, wrap_u8, wrap_u8, wrap_u8]
  have := b.isLt
  omega
theorem cmb_or (b : By) (v : Int) (h0 : 0 ≤ v) (h1 : v < 16) : IntKind.u8.wrap (((BitVec.ofInt 8 (IntKind.u8.wrap (((b.toNat : Nat) : Int) * 16)) ||| BitVec.ofInt 8 (IntKind.u8.wrap v)).toNat : Nat) : Int) = (((cmb b v).toNat : Nat) : Int) := by
  obtain ⟨v, rfl⟩ := Int.eq_ofNat_of_zero_le h0
  have hb := b.isLt
  have e1 : IntKind.u8.wrap (((b.toNat : Nat) : Int) * 16) = (((b.toNat % 16) * 16 : Nat) : Int) := by rw [wrap_u8]; omega
  have e2 : IntKind.u8.wrap ((v : Nat) : Int) = ((v : Nat) : Int) := by rw [wrap_u8]; omega
  rw [e1, e2, BitVec.ofInt_natCast, BitVec.ofInt_natCast, BitVec.toNat_or, BitVec.toNat_ofNat, BitVec.toNat_ofNat, show (b.toNat % 16 * 16) % 2 ^ 8 = b.toNat % 16 * 16 by omega, show v % 2 ^ 8 = v by omega]
  have h2 : (b.toNat % 16) * 16 = (b.toNat % 16) <<< 4 := by rw [Nat.shiftLeft_eq]
  rw [h2, ← Nat.shiftLeft_add_eq_or_of_lt (by omega : v < 2 ^ 4), Nat.shiftLeft_eq, wrap_u8]
  unfold cmb
  rw [BitVec.toNat_ofNat]
  simp only [Int.toNat_natCast]
  omega

def pz : Nat → Nat → List By → List By → Bool × List By
  | 0, _, _, ds => (true, ds)
  | k + 1, i, cs, ds => if nib (nb cs i) < 0 then (false, ds) else pz k (i + 1) cs (ds.set (i / 2) (cmb (nb ds (i / 2)) (nib (nb cs i))))
def zs : List By := List.replicate 32 0

def p18L (a : iL18_5) : Prop := ∃ (cs : List By) (i : Nat) (z ds : List By), cs.length = 64 ∧ i ≤ 64 ∧ z.length = 32 ∧ ds.length = 32 ∧ a = (S8 cs, (i : Int), R z, R ds)
def f18L (a : iL18_5) : oL18_5 :=
  let r := pz (64 - a.2.1.toNat) a.2.1.toNat (unS a.1) (byOf a.2.2.2)
  if r.1 then .inr (a.2.2.1, R r.2) else .inl (2, R zs, R r.2)
theorem f18L_m (cs : List By) (i : Nat) (z ds : List By) : f18L (S8 cs, (i : Int), R z, R ds) = if (pz (64 - i) i cs ds).1 then .inr (R z, R (pz (64 - i) i cs ds).2) else .inl (2, R zs, R (pz (64 - i) i cs ds).2) := by
  unfold f18L
  simp only [Int.toNat_natCast, byOf_R, unS_S8]
theorem nb_row (b : By) : ([DL.int .u8 ((b.toNat : Nat) : Int)] : List DL) = bD b := rfl

theorem s18L : SdL18_5 (prt p18L f18L) := by
  refine of_iterL (step := fun l a => u18_5 sh0 _ l a.1 a.2.1 a.2.2.1 a.2.2.2 some) (fun l => okL18_5 _ l s34) (fun a => 64 - a.2.1.toNat) ?_
  rintro F _ ⟨cs, i, z, ds, hc, hi, hz, hd, rfl⟩ ih
  rw [f18L_m]
  unfold u18_5
  simp only [sh0_eq, R_len, cond_dec, S8_size]
  by_cases hlt : i < 64
  · have hw : IntKind.i64.wrap ((i : Int) + 1) = ((i + 1 : Nat) : Int) := by rw [wrap_i64 (by omega) (by omega)]; omega
    have hh : IntKind.i64.wrap (Int.tdiv (i : Int) 2) = ((i / 2 : Nat) : Int) := by rw [Int.tdiv_eq_ediv_of_nonneg (by omega), wrap_i64 (by omega) (by omega)]; omega
    have hn := nib_lt (nb cs i)
    rw [if_pos (by omega), if_pos (by omega), Int.toNat_natCast, S8_get, e34, Option.bind_some]
    rw [show 64 - i = (64 - (i + 1)) + 1 by omega, pz]
    by_cases hneg : nib (nb cs i) < 0
    · rw [if_pos hneg, if_pos hneg, if_pos hz]
      rfl
    · have hF := ih (S8 cs, ((i + 1 : Nat) : Int), R z, R (ds.set (i / 2) (cmb (nb ds (i / 2)) (nib (nb cs i))))) ⟨cs, i + 1, z, _, hc, by omega, hz, by simpa using hd, rfl⟩ (by simp only [Int.toNat_natCast]; omega)
      rw [f18L_m] at hF
      rw [if_neg hneg, if_neg hneg, hh, Int.toNat_natCast, if_pos (by omega), if_pos (by omega), cR, cmb_or _ _ (by omega) hn, nb_row, R_set, if_pos (by omega), if_pos (by omega), hw, Option.bind_fun_some, hF]
  · have : i = 64 := by omega
    subst this
    rw [if_neg (by omega)]
    rfl

def prs (cs : List By) : List By × Int := if cs.length = 64 ∧ (pz 64 0 cs zs).1 = true then ((pz 64 0 cs zs).2, 0) else (zs, 2)
def f18 (a : i18) : o18 := (nI (prs (unS a)).1, (prs (unS a)).2)
theorem pz_len (k : Nat) : ∀ i cs ds, (pz k i cs ds).2.length = ds.length := by
  induction k with
  | zero => intro i cs ds; rfl
  | succ k ih => intro i cs ds; rw [pz]; split; rfl; rw [ih]; simp
theorem s18 : Sd18 (tot f18) := by
  refine of_tot (ok18 _ s18L) ?_
  intro s
  obtain ⟨cs, rfl⟩ : ∃ cs, s = S8 cs := ⟨unS s, (S8_unS s).symm⟩
  unfold t18
  simp only [sh0_eq, S8_size, cond_dec, f18, unS_S8, prs]
  rw [show ([DL.int .u8 (0 : Int)] : List DL) = bD 0 from rfl, R_rep, R_len, show List.replicate 32 (0 : By) = zs from rfl, show zs.length = 32 from rfl]
  simp only [if_true]
  have hz : colI (R zs) 32 = nI zs := colI_R rfl
  by_cases h : cs.length = 64
  · have e : prt p18L f18L (S8 cs, (0 : Int), R zs, R zs) = some (if (pz 64 0 cs zs).1 then .inr (R zs, R (pz 64 0 cs zs).2) else .inl (2, R zs, R (pz 64 0 cs zs).2)) := by
      rw [prt_eq (by exact ⟨cs, 0, zs, zs, h, by omega, rfl, rfl, rfl⟩)]
      exact congrArg some (f18L_m cs 0 zs zs)
    rw [show (((cs.length : Nat) : Int) != 64) = false by simp [h], cond_false, e, Option.bind_some]
    have hl : (pz 64 0 cs zs).2.length = 32 := pz_len _ _ _ _
    cases hp : (pz 64 0 cs zs).1 with
    | true =>
      rw [if_pos rfl]
      simp only [two, R_len, hl, colI_R hl, colD_nI]
      simp [h, show zs.length = 32 from rfl]
    | false =>
      simp only [two, R_len, hz, Bool.false_eq_true, if_false]
      simp [show zs.length = 32 from rfl]
  · rw [show (((cs.length : Nat) : Int) != 64) = true by simp; omega, cond_true, hz]
    simp [h]

end Go.Proofs.Dig

namespace Go.Proofs.Dig
open Go Go.Ev Go.Proofs.DgG

theorem s20L : SdL20_5 (prt p18L f18L) := by
  refine of_iterL (step := fun l a => u20_5 sh0 _ l a.1 a.2.1 a.2.2.1 a.2.2.2 some) (fun l => okL20_5 _ l s35) (fun a => 64 - a.2.1.toNat) ?_
  rintro F _ ⟨cs, i, z, ds, hc, hi, hz, hd, rfl⟩ ih
  rw [f18L_m]
  unfold u20_5
  simp only [sh0_eq, R_len, cond_dec, S8_size]
  by_cases hlt : i < 64
  · have hw : IntKind.i64.wrap ((i : Int) + 1) = ((i + 1 : Nat) : Int) := by rw [wrap_i64 (by omega) (by omega)]; omega
    have hh : IntKind.i64.wrap (Int.tdiv (i : Int) 2) = ((i / 2 : Nat) : Int) := by rw [Int.tdiv_eq_ediv_of_nonneg (by omega), wrap_i64 (by omega) (by omega)]; omega
    have hn := nib_lt (nb cs i)
    rw [if_pos (by omega), if_pos (by omega), Int.toNat_natCast, S8_get, e34, Option.bind_some]
    rw [show 64 - i = (64 - (i + 1)) + 1 by omega, pz]
    by_cases hneg : nib (nb cs i) < 0
    · rw [if_pos hneg, if_pos hneg, if_pos hz]
      rfl
    · have hF := ih (S8 cs, ((i + 1 : Nat) : Int), R z, R (ds.set (i / 2) (cmb (nb ds (i / 2)) (nib (nb cs i))))) ⟨cs, i + 1, z, _, hc, by omega, hz, by simpa using hd, rfl⟩ (by simp only [Int.toNat_natCast]; omega)
      rw [f18L_m] at hF
      rw [if_neg hneg, if_neg hneg, hh, Int.toNat_natCast, if_pos (by omega), if_pos (by omega), if_pos (by omega), Option.bind_some, cR, cmb_add _ _ (by omega) hn, nb_row, R_set, if_pos (by omega), if_pos (by omega), hw, Option.bind_fun_some, hF]
  · have : i = 64 := by omega
    subst this
    rw [if_neg (by omega)]
    rfl

theorem s20 : Sd20 (tot f18) := by
  refine of_tot (ok20 _ s20L) ?_
  intro s
  obtain ⟨cs, rfl⟩ : ∃ cs, s = S8 cs := ⟨unS s, (S8_unS s).symm⟩
  unfold t20
  simp only [sh0_eq, S8_size, cond_dec, f18, unS_S8, prs]
  have hz : colI (R zs) 32 = nI zs := colI_R rfl
  rw [show ([DL.int .u8 (0 : Int)] : List DL) = bD 0 from rfl, R_rep, R_len, show List.replicate 32 (0 : By) = zs from rfl, show zs.length = 32 from rfl, hz, colD_nI]
  by_cases h : cs.length = 64
  · have e : prt p18L f18L (S8 cs, (0 : Int), R zs, R zs) = some (if (pz 64 0 cs zs).1 then .inr (R zs, R (pz 64 0 cs zs).2) else .inl (2, R zs, R (pz 64 0 cs zs).2)) := by
      rw [prt_eq (by exact ⟨cs, 0, zs, zs, h, by omega, rfl, rfl, rfl⟩)]
      exact congrArg some (f18L_m cs 0 zs zs)
    rw [show (((cs.length : Nat) : Int) != 64) = false by simp [h], cond_false, e, Option.bind_some]
    have hl : (pz 64 0 cs zs).2.length = 32 := pz_len _ _ _ _
    cases hp : (pz 64 0 cs zs).1 with
    | true =>
      rw [if_pos rfl]
      simp only [two, R_len, hl, colI_R hl, colD_nI]
      simp [h, show zs.length = 32 from rfl]
    | false =>
      simp only [two, R_len, hz, Bool.false_eq_true, if_false]
      simp [show zs.length = 32 from rfl]
  · rw [show (((cs.length : Nat) : Int) != 64) = true by simp; omega, cond_true, hz]
    simp [h, show zs.length = 32 from rfl]

/-! ### Back -/
theorem nib_hB (n : Nat) (h : n < 16) : nib (hB n) = (n : Int) := by
  have : ∀ m : Fin 16, nib (hB m.1) = (m.1 : Int) := by decide
  exact this ⟨n, h⟩
theorem nb_app_r (a b : List By) (j : Nat) : nb (a ++ b) (a.length + j) = nb b j := by
  rw [nb_get, nb_get, List.getElem?_append_right (by omega), Nat.add_sub_cancel_left]
theorem hex_nb (bs : List By) : ∀ i, i < bs.length → nb (hex bs) (2 * i) = hB ((nb bs i).toNat / 16) ∧ nb (hex bs) (2 * i + 1) = hB ((nb bs i).toNat % 16) := by
  induction bs with
  | nil => intro i h; simp at h
  | cons b r ih =>
    intro i h
    have e : hex (b :: r) = hB (b.toNat / 16) :: hB (b.toNat % 16) :: hex r := rfl
    cases i with
    | zero => rw [e]; exact ⟨rfl, rfl⟩
    | succ i =>
      have := ih i (by simpa using h)
      rw [e, show 2 * (i + 1) = 2 * i + 1 + 1 by omega]
      exact this
theorem cmb2 (z0 b : By) : cmb (cmb z0 ((b.toNat / 16 : Nat) : Int)) ((b.toNat % 16 : Nat) : Int) = b := by
  have := b.isLt
  unfold cmb
  apply BitVec.eq_of_toNat_eq
  simp only [BitVec.toNat_ofNat, Int.toNat_natCast]
  omega
theorem set_nb (ds : List By) (i : Nat) (x : By) (h : i < ds.length) : nb (ds.set i x) i = x := by
  rw [nb_get, List.getElem?_set_self h]; rfl

theorem pz_hex (bs : List By) (hb : bs.length = 32) : ∀ k i ds, k + i = 32 → ds.length = 32 → pz (2 * k) (2 * i) (hex bs) ds = (true, ds.take i ++ bs.drop i) := by
  intro k
  induction k with
  | zero =>
    intro i ds h hd
    rw [pz, List.take_of_length_le (by omega), List.drop_of_length_le (by omega), List.append_nil]
  | succ k ih =>
    intro i ds h hd
    obtain ⟨h1, h2⟩ := hex_nb bs i (by omega)
    have hlt := (nb bs i).isLt
    rw [show 2 * (k + 1) = (2 * k + 1) + 1 by omega, pz, h1, nib_hB _ (by omega), if_neg (by omega), pz, h2, nib_hB _ (by omega), if_neg (by omega)]
    rw [show 2 * i / 2 = i by omega, show (2 * i + 1) / 2 = i by omega, show 2 * i + 1 + 1 = 2 * (i + 1) by omega, set_nb _ _ _ (by omega), cmb2, List.set_set, ih (i + 1) _ (by omega) (by simpa using hd), take_set _ _ _ (by omega), drop_nb bs i (by omega)]
    simp
theorem prs_hex (bs : List By) (hb : bs.length = 32) : prs (hex bs) = (bs, 0) := by
  have := pz_hex bs hb 32 0 zs rfl rfl
  simp only [Nat.mul_zero, List.take_zero, List.nil_append, List.drop_zero, Nat.reduceMul] at this
  unfold prs
  rw [hex_len, hb, this]
  simp

end Go.Proofs.Dig

namespace Go.Proofs.Dig
open Go Go.Ev Go.Proofs.DgG

theorem sum_hd : (sum 1 []).head? ≠ some 0 := by decide +kernel
theorem sum_ne : sum 1 [] ≠ zs := fun h => sum_hd (by rw [h]; rfl)
theorem e15 (d : W) (bs : List By) (h : bs.length ≤ 1000) : prt isB f15 (w d, R bs) = some (nI (sum d bs)) := by
  rw [prt_eq (by exact ⟨isW_w d, bs, rfl, h⟩)]
  simp only [f15, of_w, byOf_R]
theorem e17 (bs : List By) (h : bs.length = 32) : prt is32 f17 (nI bs) = some (S8 (hex bs)) := by
  rw [prt_eq (by exact ⟨bs, rfl, h⟩)]
  simp only [f17, bI_nI]
theorem e18 (bs : List By) (h : bs.length = 32) : tot f18 (S8 (hex bs)) = some (nI bs, 0) := by
  unfold tot f18
  rw [unS_S8, prs_hex bs h]
theorem rep32 : (List.replicate 32 [DL.int .u8 (0 : Int)] : Rows) = R zs := R_rep 32 0
theorem zs_len : zs.length = 32 := rfl

theorem s14 : Sd14 (tot fun _ => true) := by
  refine of_tot (ok14 _ _ _ _ s15 s17 s18 s16) ?_
  intro a
  have h0 : prt isB f15 ((1 : Int), ([] : Rows)) = some (nI (sum 1 [])) := e15 1 [] (by simp)
  have hl : (sum 1 []).length = 32 := sum_len 1 []
  unfold t14
  have hne := sum_ne
  generalize sum 1 [] = D at h0 hl hne
  rw [h0, Option.bind_some]
  simp only [sh0_eq, rep32, R_len, zs_len, pkL_nI hl, colD_nI, hl, decide_true, cond_true, colI_R hl, e17 D hl, Option.bind_some, e18 D hl, h0, eqI_nI hl hl, zeroI, decide_eq_true_eq]
  rw [eqI_nI hl (show (List.replicate 32 (0 : By)).length = 32 from rfl), decide_eq_false (show ¬ D = List.replicate 32 0 from hne)]
  rfl

/-! ### Bytes, Pair, Keyed -/
def p23L (a : iL23_3) : Prop := ∃ (bs ps : List By) (i : Nat), bs.length = 32 ∧ ps.length ≤ 1000 + i ∧ i ≤ 32 ∧ a = ((i : Int), R bs, R ps)
def f23L (a : iL23_3) : oL23_3 := R (byOf a.2.2 ++ (byOf a.2.1).drop a.1.toNat)
theorem f23L_m (bs ps : List By) (i : Nat) : f23L ((i : Int), R bs, R ps) = R (ps ++ bs.drop i) := by
  unfold f23L
  simp only [Int.toNat_natCast, byOf_R]
theorem s23L : SdL23_3 (prt p23L f23L) := by
  refine of_iterL (step := fun l a => u23_3 sh0 l a.1 a.2.1 a.2.2 some) okL23_3 (fun a => 32 - a.1.toNat) ?_
  rintro F _ ⟨bs, ps, i, hb, hp, hi, rfl⟩ ih
  rw [f23L_m]
  unfold u23_3
  simp only [sh0_eq, R_len, cond_dec]
  by_cases hlt : i < 32
  · have hw : IntKind.i64.wrap ((i : Int) + 1) = ((i + 1 : Nat) : Int) := by rw [wrap_i64 (by omega) (by omega)]; omega
    have hF := ih (((i + 1 : Nat) : Int), R bs, R (ps ++ [nb bs i])) ⟨bs, _, i + 1, hb, by simp; omega, by omega, rfl⟩ (by simp only [Int.toNat_natCast]; omega)
    rw [f23L_m] at hF
    rw [if_pos (by omega), if_pos (by omega), if_pos (by omega), Int.toNat_natCast, cR, List.length_singleton, room5 (by omega), cond_true, show ([[DL.int .u8 (((nb bs i).toNat : Nat) : Int)]] : Rows) = R [nb bs i] from rfl, R_app, hw, Option.bind_fun_some, hF, drop_nb bs i (by omega)]
    simp
  · have : i = 32 := by omega
    subst this
    rw [if_neg (by omega), List.drop_of_length_le (by omega), List.append_nil]
def f23 (a : i23) : o23 := R (bI a)
theorem s23 : Sd23 (prt is32 f23) := by
  refine of_prt (ok23 _ s23L) ?_
  rintro _ ⟨bs, rfl, hb⟩
  unfold t23
  simp only [sh0_eq, pkL_nI hb, colD_nI]
  have e : prt p23L f23L ((0 : Int), R bs, ([] : Rows)) = some (R bs) := by
    rw [prt_eq (by exact ⟨bs, [], 0, hb, by simp, by omega, rfl⟩)]
    exact congrArg some (f23L_m bs [] 0)
  rw [e, Option.bind_some]
  simp only [f23, bI_nI]
theorem e23 (bs : List By) (h : bs.length = 32) : prt is32 f23 (nI bs) = some (R bs) := by
  rw [prt_eq (by exact ⟨bs, rfl, h⟩)]
  simp only [f23, bI_nI]

def p21 (a : i21) : Prop := isW a.1 ∧ is32 a.2.1 ∧ is32 a.2.2
def f21 (a : i21) : o21 := nI (sum (BitVec.ofInt 64 a.1) (bI a.2.1 ++ bI a.2.2))
theorem s21 : Sd21 (prt p21 f21) := by
  refine of_prt (ok21 _ s15) ?_
  rintro ⟨d, x, y⟩ ⟨hd, ⟨a, hx, ha⟩, ⟨b, hy, hb⟩⟩
  simp only at hd hx hy
  subst hx; subst hy
  obtain ⟨d, rfl⟩ := ex_w hd
  unfold t21
  have r64 : (List.replicate 64 [DL.int .u8 (0 : Int)] : Rows) = R (List.replicate 64 0) := R_rep 64 0
  simp only [sh0_eq, pkL_nI ha, pkL_nI hb, colD_nI, rep32, r64, R_len, zs_len, ha, hb, List.length_replicate, Nat.min_self, R_take, R_drop, List.nil_append, R_app, Nat.zero_add]
  have e1 : a.take 32 ++ List.drop 32 (List.replicate 64 (0 : By)) = a ++ List.replicate 32 0 := by
    rw [List.take_of_length_le (by omega), List.drop_replicate]
  have e2 : List.take 32 (a ++ List.replicate 32 (0 : By)) ++ b.take 32 ++ List.drop (32 + 32) (a ++ List.replicate 32 (0 : By)) = a ++ b := by
    rw [List.take_append_of_le_length (by omega), List.take_of_length_le (by omega), List.take_of_length_le (by omega), List.drop_of_length_le (by simp; omega), List.append_nil]
  have hl : (sum d (a ++ b)).length = 32 := sum_len _ _
  simp only [e1, e2, List.length_append, ha, hb, List.length_replicate, e15 d (a ++ b) (by simp; omega), Option.bind_some, pkL_nI hl, colD_nI, R_len, hl, colI_R hl]
  simp only [f21, of_w, bI_nI]
  rfl
theorem s22 : Sd22 (prt p21 f21) := by
  refine of_prt (ok22 _ _ s23 s16) ?_
  rintro ⟨d, x, y⟩ ⟨hd, ⟨a, hx, ha⟩, ⟨b, hy, hb⟩⟩
  simp only at hd hx hy
  subst hx; subst hy
  obtain ⟨d, rfl⟩ := ex_w hd
  unfold t22
  have hl : (sum d (a ++ b)).length = 32 := sum_len _ _
  simp only [sh0_eq, pkL_nI ha, pkL_nI hb, colD_nI, rep32, R_len, zs_len, ha, hb, colI_R ha, colI_R hb, e23 a ha, e23 b hb, Option.bind_some, R_app, room5 (n := 32 + 32) (by omega), e15 d (a ++ b) (by simp; omega), pkL_nI hl, hl, colI_R hl]
  simp only [f21, of_w, bI_nI]
  rfl

def p24 (a : i24) : Prop := isW a.1 ∧ is32 a.2.1 ∧ ∃ bs : List By, a.2.2 = R bs ∧ bs.length ≤ 900
def f24 (a : i24) : o24 := nI (sum (BitVec.ofInt 64 a.1) (bI a.2.1 ++ byOf a.2.2))
theorem s24 : Sd24 (prt p24 f24) := by
  refine of_prt (ok24 _ s15) ?_
  rintro ⟨d, x, y⟩ ⟨hd, ⟨a, hx, ha⟩, ⟨b, hy, hb⟩⟩
  simp only at hd hx hy
  subst hx; subst hy
  obtain ⟨d, rfl⟩ := ex_w hd
  unfold t24
  have hl : (sum d (a ++ b)).length = 32 := sum_len _ _
  have hw : IntKind.i64.wrap ((32 : Int) + (b.length : Int)) = ((32 + b.length : Nat) : Int) := by rw [wrap_i64 (by omega) (by omega)]; omega
  simp only [sh0_eq, pkL_nI ha, colD_nI, rep32, R_len, zs_len, ha, hw, Int.toNat_natCast, room5 (n := 32 + b.length) (by omega), List.length_nil, Nat.zero_add, List.nil_append, room5 (n := 32) (by omega), R_app, e15 d (a ++ b) (by simp; omega), Option.bind_some, pkL_nI hl, hl, colI_R hl]
  rw [decide_eq_true (show (0 : Int) ≤ 0 ∧ (0 : Int) ≤ ((32 + b.length : Nat) : Int) by omega)]
  simp only [f24, of_w, bI_nI, byOf_R]
  rfl
theorem s25 : Sd25 (prt p24 f24) := by
  refine of_prt (ok25 _ _ s23 s16) ?_
  rintro ⟨d, x, y⟩ ⟨hd, ⟨a, hx, ha⟩, ⟨b, hy, hb⟩⟩
  simp only at hd hx hy
  subst hx; subst hy
  obtain ⟨d, rfl⟩ := ex_w hd
  unfold t25
  have hl : (sum d (a ++ b)).length = 32 := sum_len _ _
  simp only [sh0_eq, pkL_nI ha, colD_nI, rep32, R_len, zs_len, ha, colI_R ha, e23 a ha, Option.bind_some, R_app, room5 (n := 32 + b.length) (by omega), e15 d (a ++ b) (by simp; omega), pkL_nI hl, hl, colI_R hl]
  simp only [f24, of_w, bI_nI, byOf_R]
  rfl

end Go.Proofs.Dig

namespace Go.Proofs.Dig
open Go Go.Ev Go.Proofs.DgG

theorem e14 (u : Unit) : (tot fun (_ : i14) => true) u = some true := rfl

theorem s3 : Sd3 (prt isS fun _ => true) := by
  refine of_prt (ok3 _ _ _ s12 s13 s14) ?_
  intro x hx
  obtain ⟨s, rfl⟩ := ex_S hx
  unfold t3
  simp only [wS, e12, Option.bind_some, beq_self_eq_true, Bool.and_self, Bool.true_and, cond_true, tot]

theorem s5 : Sd5 (prt (fun a => isW a.1 ∧ ∃ bs : List By, a.2 = R bs) fun _ => true) := by
  refine of_prt (ok5 _ _ _ s14 s15 s16) ?_
  rintro ⟨d, rows⟩ ⟨hd, bs, hbs⟩
  simp only at hd hbs
  subst hbs
  obtain ⟨d, rfl⟩ := ex_w hd
  unfold t5
  simp only [sh0_eq, R_len, cond_dec]
  by_cases h : (bs.length : Int) > 300
  · rw [if_pos h]; rfl
  · rw [if_neg h]
    have hl : (sum d bs).length = 32 := sum_len _ _
    simp only [e15 d bs (by omega), Option.bind_some, pkL_nI hl, eqI_nI hl hl]
    simp [tot]

theorem strEq_self (s : ByteArray) : strEq s s = true := by simp [strEq]
theorem s6 : Sd6 (prt is32 fun _ => true) := by
  refine of_prt (ok6 _ _ _ _ s17 s18 s19 s14) ?_
  rintro _ ⟨bs, rfl, hb⟩
  unfold t6
  simp only [sh0_eq, pkL_nI hb, colD_nI, R_len, hb, rep32, zs_len, decide_true, cond_true, colI_R hb, e17 bs hb, e18 bs hb, Option.bind_some, strEq_self, eqI_nI hb hb, beq_self_eq_true]
  rfl

end Go.Proofs.Dig

namespace Go.Proofs.Dig
open Go Go.Ev Go.Proofs.DgG

theorem e21 (d : W) (a b : List By) (ha : a.length = 32) (hb : b.length = 32) : prt p21 f21 (w d, nI a, nI b) = some (nI (sum d (a ++ b))) := by
  rw [prt_eq (by exact ⟨isW_w d, ⟨a, rfl, ha⟩, ⟨b, rfl, hb⟩⟩)]
  simp only [f21, of_w, bI_nI]
theorem e24 (d : W) (a b : List By) (ha : a.length = 32) (hb : b.length ≤ 900) : prt p24 f24 (w d, nI a, R b) = some (nI (sum d (a ++ b))) := by
  rw [prt_eq (by exact ⟨isW_w d, ⟨a, rfl, ha⟩, ⟨b, rfl, hb⟩⟩)]
  simp only [f24, of_w, bI_nI, byOf_R]

theorem s8 : Sd8 (prt p21 fun _ => true) := by
  refine of_prt (ok8 _ _ _ _ _ s21 s22 s23 s15 s14) ?_
  rintro ⟨d, x, y⟩ ⟨hd, ⟨a, hx, ha⟩, ⟨b, hy, hb⟩⟩
  simp only at hd hx hy
  subst hx; subst hy
  obtain ⟨d, rfl⟩ := ex_w hd
  unfold t8
  have hl : (sum d (a ++ b)).length = 32 := sum_len _ _
  simp only [sh0_eq, pkL_nI ha, pkL_nI hb, colD_nI, rep32, R_len, zs_len, ha, hb, decide_true, cond_true, colI_R ha, colI_R hb, e21 d a b ha hb, Option.bind_some, pkL_nI hl, hl, colI_R hl, eqI_nI hl hl, e23 a ha, e23 b hb, room5 (n := 32 + 32) (by omega), R_app, e15 d (a ++ b) (by simp; omega)]
  rfl

theorem s9 : Sd9 (prt (fun a => isW a.1 ∧ is32 a.2.1 ∧ ∃ bs : List By, a.2.2 = R bs) fun _ => true) := by
  refine of_prt (ok9 _ _ _ s14 s24 s25) ?_
  rintro ⟨d, x, y⟩ ⟨hd, ⟨a, hx, ha⟩, ⟨b, hy⟩⟩
  simp only at hd hx hy
  subst hx; subst hy
  obtain ⟨d, rfl⟩ := ex_w hd
  unfold t9
  have hl : (sum d (a ++ b)).length = 32 := sum_len _ _
  simp only [sh0_eq, pkL_nI ha, colD_nI, R_len]
  rw [cond_dec]
  by_cases h : (b.length : Int) > 300
  · rw [if_pos h]; rfl
  · rw [if_neg h]
    simp only [ha, decide_true, cond_true, colI_R ha, e24 d a b ha (by omega), Option.bind_some, rep32, R_len, zs_len, pkL_nI hl, colD_nI, hl, colI_R hl, eqI_nI hl hl, strEq_self]
    rfl

/-! ### Expand -/
def xpd (d : W) (a : List By) (n : Int) : Int × List By := if n < 0 ∨ n > 4096 then (1, []) else (0, sqz n.toNat (absorb d a))
def p26 (a : i26) : Prop := isW a.1 ∧ is32 a.2.1
def f26 (a : i26) : o26 := ((xpd (BitVec.ofInt 64 a.1) (bI a.2.1) a.2.2).1, R (xpd (BitVec.ofInt 64 a.1) (bI a.2.1) a.2.2).2)
theorem s26 : Sd26 (prt p26 f26) := by
  refine of_prt (ok26 _ _ s31 s30) ?_
  rintro ⟨d, x, n⟩ ⟨hd, ⟨a, hx, ha⟩⟩
  simp only at hd hx
  subst hx
  obtain ⟨d, rfl⟩ := ex_w hd
  unfold t26
  simp only [sh0_eq, pkL_nI ha, colD_nI, R_len, f26, of_w, bI_nI, xpd]
  rw [cond_dec]
  by_cases h0 : n < 0
  · rw [if_pos h0, if_pos (.inl h0)]; rfl
  · rw [if_neg h0, cond_dec]
    by_cases h1 : n > 4096
    · rw [if_pos h1, if_pos (.inr h1)]; rfl
    · rw [if_neg h1, if_neg (by omega), decide_eq_true (show 0 ≤ n ∧ n ≤ n by omega), room5 (by omega), ha, decide_eq_true rfl, e31 d a (by omega)]
      rw [show ([DL.int .u8 (0 : Int)] : List DL) = bD 0 from rfl, R_rep]
      simp only [Bool.and_self, cond_true, Option.bind_some, wS]
      rw [e30 _ _ (by simp; omega)]
      simp
def f27 (a : i27) : o27 := let r := xpd (BitVec.ofInt 64 a.1) (bI a.2.1) a.2.2; if r.1 = 1 then .inl (1, R r.2) else .inr (R r.2, 0)
theorem s27 : Sd27 (prt p26 f27) := by
  refine of_prt (ok27 _ _ _ s23 s33 s32) ?_
  rintro ⟨d, x, n⟩ ⟨hd, ⟨a, hx, ha⟩⟩
  simp only at hd hx
  subst hx
  obtain ⟨d, rfl⟩ := ex_w hd
  unfold t27
  simp only [sh0_eq, pkL_nI ha, colD_nI, R_len, f27, of_w, bI_nI]
  rw [cond_dec]
  by_cases h0 : n < 0
  · have hx : xpd d a n = (1, []) := by unfold xpd; rw [if_pos (.inl h0)]
    rw [if_pos h0, hx]; rfl
  · rw [if_neg h0, cond_dec]
    by_cases h1 : n > 4096
    · have hx : xpd d a n = (1, []) := by unfold xpd; rw [if_pos (.inr h1)]
      rw [if_pos h1, hx]; rfl
    · obtain ⟨k, rfl⟩ := Int.eq_ofNat_of_zero_le (show 0 ≤ n by omega)
      have hx : xpd d a (k : Int) = (0, sqz k (absorb d a)) := by unfold xpd; rw [if_neg (by omega)]; rfl
      rw [if_neg h1, hx, ha, decide_eq_true rfl, colI_R ha, e23 a ha]
      simp only [cond_true, Option.bind_some, e31 d a (by omega), wS]
      rw [e32 _ _ (by omega)]
      rfl
theorem e26 (d : W) (a : List By) (n : Int) (ha : a.length = 32) : prt p26 f26 (w d, nI a, n) = some ((xpd d a n).1, R (xpd d a n).2) := by
  rw [prt_eq (by exact ⟨isW_w d, ⟨a, rfl, ha⟩⟩)]
  simp only [f26, of_w, bI_nI]
theorem e27 (d : W) (a : List By) (n : Int) (ha : a.length = 32) : prt p26 f27 (w d, nI a, n) = some (if (xpd d a n).1 = 1 then .inl (1, R (xpd d a n).2) else .inr (R (xpd d a n).2, 0)) := by
  rw [prt_eq (by exact ⟨isW_w d, ⟨a, rfl, ha⟩⟩)]
  simp only [f27, of_w, bI_nI]
theorem xpd_e (d : W) (a : List By) (n : Int) : (xpd d a n).1 = 1 ∨ (xpd d a n).1 = 0 := by
  unfold xpd; split
  · exact .inl rfl
  · exact .inr rfl

theorem s10 : Sd10 (prt p26 fun _ => true) := by
  refine of_prt (ok10 _ _ _ s26 s27 s14) ?_
  rintro ⟨d, x, n⟩ ⟨hd, ⟨a, hx, ha⟩⟩
  simp only at hd hx
  subst hx
  obtain ⟨d, rfl⟩ := ex_w hd
  unfold t10
  simp only [sh0_eq, pkL_nI ha, colD_nI, R_len, ha, decide_true, cond_true, colI_R ha, e26 d a n ha, e27 d a n ha, Option.bind_some]
  rcases xpd_e d a n with h | h
  · rw [h, if_pos rfl]
    simp [two, strEq_self, tot]
  · rw [h, if_neg (by omega)]
    simp [two, strEq_self, tot]

theorem s11 : Sd11 (prt p26 fun _ => true) := by
  refine of_prt (ok11 _ _ _ _ s14 s26 s23 s15) ?_
  rintro ⟨d, x, n⟩ ⟨hd, ⟨a, hx, ha⟩⟩
  simp only at hd hx
  subst hx
  obtain ⟨d, rfl⟩ := ex_w hd
  unfold t11
  simp only [sh0_eq, pkL_nI ha, colD_nI, R_len, ha]
  rw [cond_dec]
  by_cases h0 : n < 0
  · rw [if_pos h0]; rfl
  · rw [if_neg h0, cond_dec]
    by_cases h1 : n > 500
    · rw [if_pos h1]; rfl
    · rw [if_neg h1]
      obtain ⟨k, rfl⟩ := Int.eq_ofNat_of_zero_le (show 0 ≤ n by omega)
      have hw : IntKind.i64.wrap ((k : Int) + 32) = ((k + 32 : Nat) : Int) := by rw [wrap_i64 (by omega) (by omega)]; omega
      have x1 : xpd d a (k : Int) = (0, sqz k (absorb d a)) := by unfold xpd; rw [if_neg (by omega)]; rfl
      have x2 : xpd d a ((k + 32 : Nat) : Int) = (0, sqz (k + 32) (absorb d a)) := by unfold xpd; rw [if_neg (by omega)]; rfl
      have hl : (sum d a).length = 32 := sum_len _ _
      have l1 : (sqz k (absorb d a)).length = k := go_len _ _ _
      have l2 : (sqz (k + 32) (absorb d a)).length = k + 32 := go_len _ _ _
      have t1 : (sqz (k + 32) (absorb d a)).take k = sqz k (absorb d a) := (go_take k 32 0 _).symm
      have t2 : (sqz (k + 32) (absorb d a)).take 32 = sum d a := by
        unfold sqz sum sqz
        rw [Nat.add_comm]; exact (go_take 32 k 0 _).symm
      simp only [hw, colI_R ha, e26 d a _ ha, x1, x2, Option.bind_some, e23 a ha, e15 d a (by omega), rep32, R_len, zs_len, pkL_nI hl, colD_nI, hl, l1, l2, decide_true, cond_true, Nat.sub_zero, List.drop_zero, Int.toNat_natCast, R_take, t1, t2, strEq_self, colI_R hl, e23 _ hl, beq_self_eq_true]
      rw [decide_eq_true (show (0 : Int) ≤ (k : Int) ∧ (k : Int) ≤ ((k + 32 : Nat) : Int) by omega), decide_eq_true (show (0 : Int) ≤ 32 ∧ (32 : Int) ≤ ((k + 32 : Nat) : Int) by omega)]
      rfl

end Go.Proofs.Dig

namespace Go.Proofs.Dig
open Go Go.Ev Go.Proofs.DgG

theorem rwf_R {P : Program} {S : Nat → Prop} {V : TypeId → Nat → Prop} : ∀ {xs : List (List DL)}, RWf P S V [.int .u8] xs → ∃ bs : List By, xs = R bs := by
  intro xs
  induction xs with
  | nil => intro _; exact ⟨[], rfl⟩
  | cons x xs ih =>
    intro h
    obtain ⟨bs, hbs⟩ := ih fun y hy => h y (List.mem_cons_of_mem _ hy)
    obtain ⟨hl, hx⟩ := h x (List.mem_cons_self ..)
    match x, hl with
    | [y], _ =>
      obtain ⟨n, rfl, h0, h1⟩ := (hx 0 _ y rfl rfl).int_inv
      have h0' : 0 ≤ n := h0
      have h1' : n ≤ 255 := h1
      refine ⟨BitVec.ofInt 8 n :: bs, ?_⟩
      rw [hbs]
      obtain ⟨k, rfl⟩ := Int.eq_ofNat_of_zero_le h0'
      show _ = bD _ :: R bs
      unfold bD
      rw [BitVec.ofInt_natCast, BitVec.toNat_ofNat, Nat.mod_eq_of_lt (by omega)]
theorem pack_nI : ∀ (l : List Int), (∀ n ∈ l, 0 ≤ n ∧ n ≤ 255) → ∃ bs : List By, l = nI bs ∧ bs.length = l.length := by
  intro l
  induction l with
  | nil => intro _; exact ⟨[], rfl, rfl⟩
  | cons n l ih =>
    intro h
    obtain ⟨bs, hbs, hl⟩ := ih fun y hy => h y (List.mem_cons_of_mem _ hy)
    obtain ⟨h0, h1⟩ := h n (List.mem_cons_self ..)
    obtain ⟨k, rfl⟩ := Int.eq_ofNat_of_zero_le h0
    refine ⟨BitVec.ofNat 8 k :: bs, ?_, by simp [hl]⟩
    rw [hbs]
    show _ = ((BitVec.ofNat 8 k).toNat : Int) :: nI bs
    rw [BitVec.toNat_ofNat, Nat.mod_eq_of_lt (by omega)]
theorem u64W {n : Int} (h : IntKind.u64.min ≤ n ∧ n ≤ IntKind.u64.max) : isW n := by
  have h1 : IntKind.u64.min = 0 := by decide
  have h2 : IntKind.u64.max = 18446744073709551615 := by decide
  unfold isW; omega
theorem u8I {n : Int} (h : IntKind.u8.min ≤ n ∧ n ≤ IntKind.u8.max) : 0 ≤ n ∧ n ≤ 255 := by
  have h1 : IntKind.u8.min = 0 := by decide
  have h2 : IntKind.u8.max = 255 := by decide
  omega

end Go.Proofs.Dig

namespace Go.Proofs.Dig
open Go Go.Ev Go.Proofs.DgG

/-! ### Lines of bits -/
def per (x : W) : Nat → Bool := fun k => x.getLsbD (k % 64)
def M (i j : Nat) (g : Nat → Bool) : Nat → Bool := fun k => Bool.xor (g k) (Bool.xor (g (k + i)) (g (k + j)))
theorem M_two (i j : Nat) (g : Nat → Bool) : M i j (M i j g) = M (2 * i) (2 * j) g := by
  funext k
  unfold M
  rw [show k + i + i = k + 2 * i by omega, show k + j + j = k + 2 * j by omega, show k + j + i = k + i + j by omega]
  generalize g k = a
  generalize g (k + i) = b
  generalize g (k + j) = c
  generalize g (k + 2 * i) = d
  generalize g (k + 2 * j) = e
  generalize g (k + i + j) = f
  revert a b c d e f
  decide
theorem per_inj {x y : W} (h : per x = per y) : x = y := by
  apply BitVec.eq_of_getLsbD_eq
  intro k hk
  have := congrFun h k
  unfold per at this
  rw [Nat.mod_eq_of_lt hk] at this
  exact this
theorem rot_bit (x : W) (n k : Nat) (hn : n ≤ 64) (hk : k < 64) : (rot x n).getLsbD k = x.getLsbD ((k + n) % 64) := by
  unfold rot
  rw [BitVec.getLsbD_or, BitVec.getLsbD_ushiftRight, BitVec.getLsbD_shiftLeft]
  by_cases h : k + n < 64
  · rw [Nat.mod_eq_of_lt h, Nat.add_comm n k]
    rw [show decide (k < 64 - n) = true by simp; omega]
    simp
  · rw [show (k + n) % 64 = k - (64 - n) by omega, BitVec.getLsbD_of_ge x (n + k) (by omega)]
    rw [show decide (k < 64 - n) = false by simp; omega, show decide (k < 64) = true by simp; omega]
    simp
theorem per_lin (x : W) (i j : Nat) (hi : i ≤ 64) (hj : j ≤ 64) : per (lin x i j) = M i j (per x) := by
  funext k
  unfold per M lin
  have hk : k % 64 < 64 := by omega
  rw [BitVec.getLsbD_xor, BitVec.getLsbD_xor, rot_bit _ _ _ hi hk, rot_bit _ _ _ hj hk]
  rw [show (k % 64 + i) % 64 = (k + i) % 64 by omega, show (k % 64 + j) % 64 = (k + j) % 64 by omega]
theorem M_id (x : W) (i j : Nat) : M (64 * i) (64 * j) (per x) = per x := by
  funext k
  unfold M per
  rw [show (k + 64 * i) % 64 = k % 64 by omega, show (k + 64 * j) % 64 = k % 64 by omega]
  simp
theorem M_inj {i j : Nat} {x y : W} (h : M i j (per x) = M i j (per y)) : x = y := by
  have up : ∀ p q : Nat, M p q (per x) = M p q (per y) → M (2 * p) (2 * q) (per x) = M (2 * p) (2 * q) (per y) := fun p q h => by
    rw [← M_two, h, M_two]
  have h6 := up _ _ (up _ _ (up _ _ (up _ _ (up _ _ (up _ _ h)))))
  rw [show 2 * (2 * (2 * (2 * (2 * (2 * i))))) = 64 * i by omega, show 2 * (2 * (2 * (2 * (2 * (2 * j))))) = 64 * j by omega, M_id, M_id] at h6
  exact per_inj h6
theorem lin_inj {x y : W} {i j : Nat} (hi : i ≤ 64) (hj : j ≤ 64) (h : lin x i j = lin y i j) : x = y := by
  refine M_inj (i := i) (j := j) ?_
  rw [← per_lin _ _ _ hi hj, ← per_lin _ _ _ hi hj, h]
theorem lay_inj {s t : S} (h : lay s = lay t) : s = t := by
  obtain ⟨a, b, c, d, e⟩ := s
  obtain ⟨a', b', c', d', e'⟩ := t
  simp only [lay, S.mk.injEq] at h
  obtain ⟨h1, h2, h3, h4, h5⟩ := h
  rw [lin_inj (by omega) (by omega) h1, lin_inj (by omega) (by omega) h2, lin_inj (by omega) (by omega) h3, lin_inj (by omega) (by omega) h4, lin_inj (by omega) (by omega) h5]

abbrev B5 := Bool × Bool × Bool × Bool × Bool
/-- One column. -/
def box (k a b c d e : Bool) : B5 :=
  let c := Bool.xor (Bool.xor c k) b
  let a := Bool.xor a e
  let e := Bool.xor e d
  let a' := Bool.xor a (!b && c)
  let b' := Bool.xor b (!c && d)
  let c' := Bool.xor c (!d && e)
  let d' := Bool.xor d (!e && a)
  let e' := Bool.xor e (!a && b)
  (Bool.xor a' e', Bool.xor b' a', !c', Bool.xor d' c', e')
def bb : List Bool := [false, true]
def all32 : List B5 := bb.flatMap fun a => bb.flatMap fun b => bb.flatMap fun c => bb.flatMap fun d => bb.map fun e => (a, b, c, d, e)
def unbox (k : Bool) (y : B5) : Option B5 := all32.find? fun x => box k x.1 x.2.1 x.2.2.1 x.2.2.2.1 x.2.2.2.2 == y
theorem unbox_box : ∀ k a b c d e : Bool, unbox k (box k a b c d e) = some (a, b, c, d, e) := by decide +kernel
theorem box_inj (k a b c d e a' b' c' d' e' : Bool) (h : box k a b c d e = box k a' b' c' d' e') : a = a' ∧ b = b' ∧ c = c' ∧ d = d' ∧ e = e' := by
  have h1 := unbox_box k a b c d e
  rw [h, unbox_box] at h1
  simp only [Option.some.injEq, Prod.mk.injEq] at h1
  obtain ⟨rfl, rfl, rfl, rfl, rfl⟩ := h1
  exact ⟨rfl, rfl, rfl, rfl, rfl⟩
theorem sub_bit (r : Nat) (s : S) (i : Nat) (hi : i < 64) :
    ((sub r s).a.getLsbD i, (sub r s).b.getLsbD i, (sub r s).c.getLsbD i, (sub r s).d.getLsbD i, (sub r s).e.getLsbD i) = box ((BitVec.ofNat 64 (240 - 15 * r)).getLsbD i) (s.a.getLsbD i) (s.b.getLsbD i) (s.c.getLsbD i) (s.d.getLsbD i) (s.e.getLsbD i) := by
  generalize hc : BitVec.ofNat 64 (240 - 15 * r) = kc
  unfold sub
  rw [hc]
  simp only [BitVec.getLsbD_xor, BitVec.getLsbD_and, BitVec.getLsbD_not, hi, decide_true, Bool.true_and, box]
theorem sub_inj {r : Nat} {s t : S} (h : sub r s = sub r t) : s = t := by
  have key : ∀ i, i < 64 → s.a.getLsbD i = t.a.getLsbD i ∧ s.b.getLsbD i = t.b.getLsbD i ∧ s.c.getLsbD i = t.c.getLsbD i ∧ s.d.getLsbD i = t.d.getLsbD i ∧ s.e.getLsbD i = t.e.getLsbD i := by
    intro i hi
    refine box_inj ((BitVec.ofNat 64 (240 - 15 * r)).getLsbD i) _ _ _ _ _ _ _ _ _ _ ?_
    rw [← sub_bit r s i hi, ← sub_bit r t i hi, h]
  obtain ⟨a, b, c, d, e⟩ := s
  obtain ⟨a', b', c', d', e'⟩ := t
  simp only [S.mk.injEq]
  exact ⟨BitVec.eq_of_getLsbD_eq fun i hi => (key i hi).1, BitVec.eq_of_getLsbD_eq fun i hi => (key i hi).2.1, BitVec.eq_of_getLsbD_eq fun i hi => (key i hi).2.2.1, BitVec.eq_of_getLsbD_eq fun i hi => (key i hi).2.2.2.1, BitVec.eq_of_getLsbD_eq fun i hi => (key i hi).2.2.2.2⟩
theorem rounds_inj : ∀ (n r : Nat) {s t : S}, rounds n r s = rounds n r t → s = t := by
  intro n
  induction n with
  | zero => intro r s t h; exact h
  | succ n ih =>
    intro r s t h
    exact sub_inj (lay_inj (ih (r + 1) h))
theorem perm_inj {s t : S} (h : perm s = perm t) : s = t := rounds_inj 12 0 h
theorem wS_inj {s t : S} (h : wS s = wS t) : s = t := by rw [← ofS_wS s, h, ofS_wS]

theorem b5 (a b c d e a' b' c' d' e' : Int) : (a == a' && (b == b' && (c == c' && (d == d' && (e == e' && true))))) = decide ((a, b, c, d, e) = (a', b', c', d', e')) := by
  rw [Bool.eq_iff_iff]
  simp [Bool.and_eq_true]

def p4 (a : i4) : Prop := isS (a.1, a.2.1, a.2.2.1, a.2.2.2.1, a.2.2.2.2.1) ∧ isS a.2.2.2.2.2
theorem s4 : Sd4 (prt p4 fun _ => true) := by
  refine of_prt (ok4 _ _ s12 s14) ?_
  rintro ⟨x1, x2, x3, x4, x5, y⟩ ⟨hs, ht⟩
  obtain ⟨s, hs⟩ := ex_S hs
  obtain ⟨t, rfl⟩ := ex_S ht
  simp only [wS, Prod.mk.injEq] at hs
  obtain ⟨rfl, rfl, rfl, rfl, rfl⟩ := hs
  unfold t4
  simp only [wS, e12, Option.bind_some, tot, b5]
  by_cases h : s = t
  · subst h; simp
  · have h1 : ¬ (w (perm s).a, w (perm s).b, w (perm s).c, w (perm s).d, w (perm s).e) = (w (perm t).a, w (perm t).b, w (perm t).c, w (perm t).d, w (perm t).e) := fun e => h (perm_inj (wS_inj e))
    have h2 : ¬ (w s.a, w s.b, w s.c, w s.d, w s.e) = (w t.a, w t.b, w t.c, w t.d, w t.e) := fun e => h (wS_inj e)
    rw [decide_eq_false h1, decide_eq_false h2]
    rfl

/-! ### Parse -/
theorem prs_len (cs : List By) : (prs cs).1.length = 32 := by
  unfold prs; split
  · exact pz_len _ _ _ _
  · rfl
theorem f18_eq (s : ByteArray) : tot f18 s = some (nI (prs (unS s)).1, (prs (unS s)).2) := rfl
def p7 (a : i7) : Prop := is32 a.2.1
theorem s7 : Sd7 (prt p7 fun _ => true) := by
  refine of_prt (ok7 _ _ _ _ s14 s18 s20 s19) ?_
  rintro ⟨s, x, n⟩ ⟨bs, hx, hb⟩
  simp only at hx
  subst hx
  unfold t7
  have hh : (S8 (hex bs)).size = 64 := by rw [S8_size, hex_len, hb]
  simp only [sh0_eq, pkL_nI hb, colD_nI, f18_eq, rep32, R_len, zs_len, prs_len, pkL_nI (prs_len _), colI_R (prs_len _), eqI_nI (prs_len _) (prs_len _), colI_R hb, e17 bs hb, Option.bind_some, e14, decide_true, cond_true, Bool.not_true, cond_false, bne_self_eq_false, beq_self_eq_true, hb, hh]
  simp only [cond_dec]
  by_cases h1 : (s.size : Int) > 200
  · rw [if_pos h1]
  · rw [if_neg h1]
    by_cases h2 : n < 0
    · rw [if_pos h2]
    · rw [if_neg h2]
      by_cases h3 : n ≥ 64
      · rw [if_pos h3]
      · rw [if_neg h3]
        cases he : strEq s { data := #[] } with
        | true => rfl
        | false =>
          have hs : 1 ≤ s.size := by
            rcases Nat.eq_zero_or_pos s.size with h0 | h0
            · have : s = { data := #[] } := ByteArray.ext (Array.eq_empty_of_size_eq_zero h0)
              rw [this, strEq_self] at he
              exact absurd he (by simp)
            · exact h0
          have hw : IntKind.i64.wrap (n + 1) = n + 1 := wrap_i64 (by omega) (by omega)
          simp only [cond_false, hw, ByteArray.size_append, ByteArray.size_extract, hh]
          rw [if_pos (by omega), if_pos (by omega), if_pos (by omega), if_pos (by omega), if_pos (by omega)]

end Go.Proofs.Dig
