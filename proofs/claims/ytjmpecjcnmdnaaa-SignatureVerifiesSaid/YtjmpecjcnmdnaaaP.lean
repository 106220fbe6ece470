/- Digests: plain laws. -/
import Derived.Test.YtjmpecjcnmdnaaaE3
import Derived.Test.YtjmpecjcnmdnaaaG1
set_option linter.unusedVariables false
set_option linter.unusedSimpArgs false

namespace Go.Proofs.Dig
open Go Go.Ev

abbrev Rows := List (List DL)
abbrev W := BitVec 64
def w (a : W) : Int := (a.toNat : Int)
def isW (n : Int) : Prop := 0 ≤ n ∧ n < 18446744073709551616

theorem wrap_u64 (n : Int) : IntKind.u64.wrap n = n % 18446744073709551616 := by
  simp [IntKind.wrap, IntKind.bits, IntKind.signed]
theorem wrap_u8 (n : Int) : IntKind.u8.wrap n = n % 256 := by
  simp [IntKind.wrap, IntKind.bits, IntKind.signed]
theorem isW_w (a : W) : isW (w a) := by
  unfold isW w; have := a.isLt; omega
theorem of_w (a : W) : BitVec.ofInt 64 (w a) = a := by
  unfold w; rw [BitVec.ofInt_natCast]; simp
theorem w_of {n : Int} (h : isW n) : w (BitVec.ofInt 64 n) = n := by
  obtain ⟨k, rfl⟩ := Int.eq_ofNat_of_zero_le h.1
  have := h.2
  unfold w; rw [BitVec.ofInt_natCast, BitVec.toNat_ofNat, Nat.mod_eq_of_lt (by omega)]
theorem ex_w {n : Int} (h : isW n) : ∃ a : W, n = w a := ⟨_, (w_of h).symm⟩
theorem w_inj {a b : W} (h : w a = w b) : a = b := by rw [← of_w a, h, of_w]
theorem wrap_w (a : W) : IntKind.u64.wrap (a.toNat : Int) = w a := by
  rw [wrap_u64]; unfold w; have := a.isLt; omega

theorem wxor (a b : W) : IntKind.u64.wrap (((BitVec.ofInt 64 (w a) ^^^ BitVec.ofInt 64 (w b)).toNat : Nat) : Int) = w (a ^^^ b) := by
  rw [of_w, of_w, wrap_w]
theorem wand (a b : W) : IntKind.u64.wrap (((BitVec.ofInt 64 (w a) &&& BitVec.ofInt 64 (w b)).toNat : Nat) : Int) = w (a &&& b) := by
  rw [of_w, of_w, wrap_w]
theorem wor (a b : W) : IntKind.u64.wrap (((BitVec.ofInt 64 (w a) ||| BitVec.ofInt 64 (w b)).toNat : Nat) : Int) = w (a ||| b) := by
  rw [of_w, of_w, wrap_w]
theorem wnot (a : W) : IntKind.u64.wrap (((BitVec.ofInt 64 (18446744073709551615 : Int) ^^^ BitVec.ofInt 64 (w a)).toNat : Nat) : Int) = w (~~~a) := by
  rw [of_w, wrap_w, show BitVec.ofInt 64 (18446744073709551615 : Int) = BitVec.allOnes 64 from by decide, BitVec.allOnes_xor]
theorem wshr (a : W) (n : Nat) : (w a).fdiv (2 ^ n) = w (a >>> n) := by
  unfold w
  rw [BitVec.toNat_ushiftRight, Nat.shiftRight_eq_div_pow]
  rw [show (2 : Int) ^ n = ((2 ^ n : Nat) : Int) by simp, Int.fdiv_eq_ediv_of_nonneg _ (Int.natCast_nonneg _), ← Int.natCast_ediv]
theorem wshl (a : W) (n : Nat) : IntKind.u64.wrap (w a * 2 ^ n) = w (a <<< n) := by
  unfold w
  rw [wrap_u64, BitVec.toNat_shiftLeft, Nat.shiftLeft_eq]
  rw [show (2 : Int) ^ n = ((2 ^ n : Nat) : Int) by simp, ← Int.natCast_mul, Int.natCast_emod]
  rfl

structure S where
  a : W
  b : W
  c : W
  d : W
  e : W
  deriving DecidableEq

abbrev I5 := Int × Int × Int × Int × Int
def wS (s : S) : I5 := (w s.a, w s.b, w s.c, w s.d, w s.e)
def ofS (x : I5) : S := ⟨BitVec.ofInt 64 x.1, BitVec.ofInt 64 x.2.1, BitVec.ofInt 64 x.2.2.1, BitVec.ofInt 64 x.2.2.2.1, BitVec.ofInt 64 x.2.2.2.2⟩
def isS (x : I5) : Prop := isW x.1 ∧ isW x.2.1 ∧ isW x.2.2.1 ∧ isW x.2.2.2.1 ∧ isW x.2.2.2.2
theorem ofS_wS (s : S) : ofS (wS s) = s := by simp [ofS, wS, of_w]
theorem ex_S {x : I5} (h : isS x) : ∃ s : S, x = wS s := by
  obtain ⟨x1, x2, x3, x4, x5⟩ := x
  obtain ⟨h1, h2, h3, h4, h5⟩ := h
  obtain ⟨a, rfl⟩ := ex_w h1
  obtain ⟨b, rfl⟩ := ex_w h2
  obtain ⟨c, rfl⟩ := ex_w h3
  obtain ⟨d, rfl⟩ := ex_w h4
  obtain ⟨e, rfl⟩ := ex_w h5
  exact ⟨⟨a, b, c, d, e⟩, rfl⟩
theorem isS_wS (s : S) : isS (wS s) := ⟨isW_w _, isW_w _, isW_w _, isW_w _, isW_w _⟩

def rot (x : W) (n : Nat) : W := (x >>> n) ||| (x <<< (64 - n))
def lin (x : W) (i j : Nat) : W := x ^^^ (rot x i ^^^ rot x j)

/-- What comes ahead of the linear layer. -/
def sub (r : Nat) (s : S) : S :=
  let c := (s.c ^^^ BitVec.ofNat 64 (240 - 15 * r)) ^^^ s.b
  let a := s.a ^^^ s.e
  let e := s.e ^^^ s.d
  let a' := a ^^^ (~~~s.b &&& c)
  let b' := s.b ^^^ (~~~c &&& s.d)
  let c' := c ^^^ (~~~s.d &&& e)
  let d' := s.d ^^^ (~~~e &&& a)
  let e' := e ^^^ (~~~a &&& s.b)
  ⟨a' ^^^ e', b' ^^^ a', ~~~c', d' ^^^ c', e'⟩
def lay (s : S) : S := ⟨lin s.a 19 28, lin s.b 61 39, lin s.c 1 6, lin s.d 10 17, lin s.e 7 41⟩
def rnd (r : Nat) (s : S) : S := lay (sub r s)
def rounds : Nat → Nat → S → S
  | 0, _, s => s
  | n + 1, r, s => rounds n (r + 1) (rnd r s)
def perm (s : S) : S := rounds 12 0 s

end Go.Proofs.Dig

namespace Go.Proofs.Dig
open Go Go.Ev Go.Proofs.SmG

theorem i64_eq {n : Int} (h1 : -9223372036854775808 ≤ n) (h2 : n ≤ 9223372036854775807) : IntKind.i64.wrap n = n := wrap_i64 h1 h2

/-! 28, 29: rotate -/
def f78 (a : i78) : o78 := w (rot (BitVec.ofInt 64 a.1) a.2.toNat)
def p78 (a : i78) : Prop := isW a.1 ∧ 0 ≤ a.2 ∧ a.2 ≤ 64
theorem s78 : Sd78 (prt p78 f78) := by
  refine of_prt ok78 ?_
  rintro ⟨x, n⟩ ⟨hx, h0, h1⟩
  obtain ⟨a, rfl⟩ := ex_w hx
  obtain ⟨k, rfl⟩ := Int.eq_ofNat_of_zero_le h0
  simp only at h1
  have hw : IntKind.u64.wrap (64 - (k : Int)) = ((64 - k : Nat) : Int) := by rw [wrap_u64]; omega
  simp only [t78, sh0, cond_dec, hw]
  rw [if_pos (Int.natCast_nonneg _), if_pos (Int.natCast_nonneg _)]
  simp only [Int.toNat_natCast, f78, of_w, rot]
  rw [Nat.min_eq_left (by omega), Nat.min_eq_left (by omega), wshr, wshl, wor]

def f79 (a : i79) : o79 := w (rot (BitVec.ofInt 64 a.1) a.2.toNat)
def p79 (a : i79) : Prop := isW a.1 ∧ 0 ≤ a.2 ∧ a.2 ≤ 64
theorem s79 : Sd79 (prt p79 f79) := by
  refine of_prt ok79 ?_
  rintro ⟨x, n⟩ ⟨hx, h0, h1⟩
  obtain ⟨a, rfl⟩ := ex_w hx
  obtain ⟨k, rfl⟩ := Int.eq_ofNat_of_zero_le h0
  simp only at h1
  have hw : IntKind.i64.wrap (64 - (k : Int)) = ((64 - k : Nat) : Int) := by rw [wrap_i64 (by omega) (by omega)]; omega
  simp only [t79, sh0, cond_dec, hw]
  rw [if_pos (Int.natCast_nonneg _), if_pos (Int.natCast_nonneg _)]
  simp only [Int.toNat_natCast, f79, of_w, rot]
  rw [Nat.min_eq_left (by omega), Nat.min_eq_left (by omega), wshr, wshl, wor]

theorem e78 (a : W) (n : Nat) (h : n ≤ 64) : prt p78 f78 (w a, (n : Int)) = some (w (rot a n)) := by
  rw [prt_eq (by exact ⟨isW_w a, by simp, by simp; omega⟩)]
  simp [f78, of_w]
theorem e79 (a : W) (n : Nat) (h : n ≤ 64) : prt p79 f79 (w a, (n : Int)) = some (w (rot a n)) := by
  rw [prt_eq (by exact ⟨isW_w a, by simp, by simp; omega⟩)]
  simp [f79, of_w]

theorem cst {r : Nat} (h : r < 12) : IntKind.u64.wrap ((240 : Int) - IntKind.u64.wrap ((15 : Int) * (r : Int))) = w (BitVec.ofNat 64 (240 - 15 * r)) := by
  unfold w
  rw [wrap_u64, wrap_u64, BitVec.toNat_ofNat]
  have : (2 : Nat) ^ 64 = 18446744073709551616 := by decide
  omega
theorem cst' {r : Nat} (h : r < 12) : IntKind.u64.wrap (IntKind.i64.wrap ((240 : Int) - IntKind.i64.wrap ((15 : Int) * (r : Int)))) = w (BitVec.ofNat 64 (240 - 15 * r)) := by
  unfold w
  rw [wrap_i64 (n := 15 * (r : Int)) (by omega) (by omega), wrap_i64 (by omega) (by omega), wrap_u64, BitVec.toNat_ofNat]
  have : (2 : Nat) ^ 64 = 18446744073709551616 := by decide
  omega

theorem sh0_eq {α R : Type} (x : α) (K : α → Option R) : (sh0 : Sh) x K = K x := rfl

/-! 12: Permute -/
def p74L (a : iL74_2) : Prop := ∃ (r : Nat) (s : S) (j1 j2 j3 j4 j5 : Int), r ≤ 12 ∧ a = ((r : Int), w s.a, w s.b, w s.c, w s.d, w s.e, j1, j2, j3, j4, j5)
def f74L (a : iL74_2) : oL74_2 :=
  let s := rounds (12 - a.1.toNat) a.1.toNat (ofS (a.2.1, a.2.2.1, a.2.2.2.1, a.2.2.2.2.1, a.2.2.2.2.2.1))
  (w s.a, w s.b, w s.c, w s.d, w s.e, a.2.2.2.2.2.2)
theorem f74L_m (r : Nat) (s : S) (j1 j2 j3 j4 j5 : Int) : f74L ((r : Int), w s.a, w s.b, w s.c, w s.d, w s.e, j1, j2, j3, j4, j5) = (w (rounds (12 - r) r s).a, w (rounds (12 - r) r s).b, w (rounds (12 - r) r s).c, w (rounds (12 - r) r s).d, w (rounds (12 - r) r s).e, j1, j2, j3, j4, j5) := by
  unfold f74L
  simp only [Int.toNat_natCast, ofS, of_w]

theorem e78' {n : Int} (a : W) (k : Nat) (hn : n = (k : Int)) (h : k ≤ 64) : prt p78 f78 (w a, n) = some (w (rot a k)) := by
  subst hn; exact e78 a k h
theorem e79' {n : Int} (a : W) (k : Nat) (hn : n = (k : Int)) (h : k ≤ 64) : prt p79 f79 (w a, n) = some (w (rot a k)) := by
  subst hn; exact e79 a k h

theorem g19 (a : W) : prt p78 f78 (w a, 19) = some (w (rot a 19)) := e78' a 19 rfl (by omega)
theorem h19 (a : W) : prt p79 f79 (w a, 19) = some (w (rot a 19)) := e79' a 19 rfl (by omega)
theorem g28 (a : W) : prt p78 f78 (w a, 28) = some (w (rot a 28)) := e78' a 28 rfl (by omega)
theorem h28 (a : W) : prt p79 f79 (w a, 28) = some (w (rot a 28)) := e79' a 28 rfl (by omega)
theorem g61 (a : W) : prt p78 f78 (w a, 61) = some (w (rot a 61)) := e78' a 61 rfl (by omega)
theorem h61 (a : W) : prt p79 f79 (w a, 61) = some (w (rot a 61)) := e79' a 61 rfl (by omega)
theorem g39 (a : W) : prt p78 f78 (w a, 39) = some (w (rot a 39)) := e78' a 39 rfl (by omega)
theorem h39 (a : W) : prt p79 f79 (w a, 39) = some (w (rot a 39)) := e79' a 39 rfl (by omega)
theorem g1 (a : W) : prt p78 f78 (w a, 1) = some (w (rot a 1)) := e78' a 1 rfl (by omega)
theorem h1 (a : W) : prt p79 f79 (w a, 1) = some (w (rot a 1)) := e79' a 1 rfl (by omega)
theorem g6 (a : W) : prt p78 f78 (w a, 6) = some (w (rot a 6)) := e78' a 6 rfl (by omega)
theorem h6 (a : W) : prt p79 f79 (w a, 6) = some (w (rot a 6)) := e79' a 6 rfl (by omega)
theorem g10 (a : W) : prt p78 f78 (w a, 10) = some (w (rot a 10)) := e78' a 10 rfl (by omega)
theorem h10 (a : W) : prt p79 f79 (w a, 10) = some (w (rot a 10)) := e79' a 10 rfl (by omega)
theorem g17 (a : W) : prt p78 f78 (w a, 17) = some (w (rot a 17)) := e78' a 17 rfl (by omega)
theorem h17 (a : W) : prt p79 f79 (w a, 17) = some (w (rot a 17)) := e79' a 17 rfl (by omega)
theorem g7 (a : W) : prt p78 f78 (w a, 7) = some (w (rot a 7)) := e78' a 7 rfl (by omega)
theorem h7 (a : W) : prt p79 f79 (w a, 7) = some (w (rot a 7)) := e79' a 7 rfl (by omega)
theorem g41 (a : W) : prt p78 f78 (w a, 41) = some (w (rot a 41)) := e78' a 41 rfl (by omega)
theorem h41 (a : W) : prt p79 f79 (w a, 41) = some (w (rot a 41)) := e79' a 41 rfl (by omega)

theorem s74L : SdL74_2 (prt p74L f74L) := by
  refine of_iterL (step := fun l a => u74_2 sh0 _ l a.1 a.2.1 a.2.2.1 a.2.2.2.1 a.2.2.2.2.1 a.2.2.2.2.2.1 a.2.2.2.2.2.2.1 a.2.2.2.2.2.2.2.1 a.2.2.2.2.2.2.2.2.1 a.2.2.2.2.2.2.2.2.2.1 a.2.2.2.2.2.2.2.2.2.2 some) (fun l => okL74_2 _ l s78) (fun a => 12 - a.1.toNat) ?_
  rintro F _ ⟨r, s, j1, j2, j3, j4, j5, hr, rfl⟩ ih
  rw [f74L_m]
  unfold u74_2
  rw [cond_dec]
  by_cases hlt : r < 12
  · rw [if_pos (by simp only; omega)]
    have hF := ih ((((r + 1 : Nat) : Int)), w (rnd r s).a, w (rnd r s).b, w (rnd r s).c, w (rnd r s).d, w (rnd r s).e, j1, j2, j3, j4, j5) ⟨r + 1, _, j1, j2, j3, j4, j5, by omega, rfl⟩ (by simp only [Int.toNat_natCast]; omega)
    rw [f74L_m] at hF
    have hro : rounds (12 - r) r s = rounds (12 - (r + 1)) (r + 1) (rnd r s) := by
      rw [show 12 - r = (12 - (r + 1)) + 1 by omega]; rfl
    rw [hro, ← hF]
    have hw : IntKind.u64.wrap ((r : Int) + 1) = ((r + 1 : Nat) : Int) := by rw [wrap_u64]; omega
    simp only [sh0_eq, cst hlt, wxor, wand, wnot, hw, g19, g28, g61, g39, g1, g6, g10, g17, g7, g41, Option.bind_some, Option.bind_fun_some]
    rfl
  · have : r = 12 := by omega
    subst this
    rw [if_neg (by simp)]
    rfl

theorem perm_eq (s : S) : rounds 12 0 s = perm s := rfl
theorem ofS_wS' (s : S) : ofS (w s.a, w s.b, w s.c, w s.d, w s.e) = s := ofS_wS s
theorem f74_ini (p : iL74_2 → Prop) (hp : ∀ s : S, p ((0 : Int), w s.a, w s.b, w s.c, w s.d, w s.e, (0 : Int), (0 : Int), (0 : Int), (0 : Int), (0 : Int))) (s : S) :
    prt p f74L ((0 : Int), w s.a, w s.b, w s.c, w s.d, w s.e, (0 : Int), (0 : Int), (0 : Int), (0 : Int), (0 : Int)) = some (w (perm s).a, w (perm s).b, w (perm s).c, w (perm s).d, w (perm s).e, (0 : Int), (0 : Int), (0 : Int), (0 : Int), (0 : Int)) := by
  rw [prt_eq (hp s)]
  have := f74L_m 0 s 0 0 0 0 0
  simp only [Nat.sub_zero, perm_eq] at this
  exact congrArg some this
def f74 (a : i74) : o74 := wS (perm (ofS a))
theorem s74 : Sd74 (prt isS f74) := by
  refine of_prt (ok74 _ s74L) ?_
  intro a ha
  obtain ⟨s, rfl⟩ := ex_S ha
  have e := f74_ini p74L (fun s => ⟨0, s, 0, 0, 0, 0, 0, by omega, rfl⟩) s
  unfold t74
  simp only [wS]
  rw [e, Option.bind_some]
  simp only [f74, ofS_wS']
  rfl

theorem lin_l (x : W) (i j : Nat) : (x ^^^ rot x i) ^^^ rot x j = lin x i j := by rw [lin, BitVec.xor_assoc]

/-! 13: the reference's -/
def p76L (a : iL76_2) : Prop := ∃ (r : Nat) (s : S) (j1 j2 j3 j4 j5 : Int), r ≤ 12 ∧ a = ((r : Int), w s.a, w s.b, w s.c, w s.d, w s.e, j1, j2, j3, j4, j5)
theorem s76L : SdL76_2 (prt p76L f74L) := by
  refine of_iterL (step := fun l a => u76_2 sh0 _ l a.1 a.2.1 a.2.2.1 a.2.2.2.1 a.2.2.2.2.1 a.2.2.2.2.2.1 a.2.2.2.2.2.2.1 a.2.2.2.2.2.2.2.1 a.2.2.2.2.2.2.2.2.1 a.2.2.2.2.2.2.2.2.2.1 a.2.2.2.2.2.2.2.2.2.2 some) (fun l => okL76_2 _ l s79) (fun a => 12 - a.1.toNat) ?_
  rintro F _ ⟨r, s, j1, j2, j3, j4, j5, hr, rfl⟩ ih
  rw [f74L_m]
  unfold u76_2
  rw [cond_dec]
  by_cases hlt : r < 12
  · rw [if_pos (by simp only; omega)]
    have hF := ih ((((r + 1 : Nat) : Int)), w (rnd r s).a, w (rnd r s).b, w (rnd r s).c, w (rnd r s).d, w (rnd r s).e, j1, j2, j3, j4, j5) ⟨r + 1, _, j1, j2, j3, j4, j5, by omega, rfl⟩ (by simp only [Int.toNat_natCast]; omega)
    rw [f74L_m] at hF
    have hro : rounds (12 - r) r s = rounds (12 - (r + 1)) (r + 1) (rnd r s) := by
      rw [show 12 - r = (12 - (r + 1)) + 1 by omega]; rfl
    rw [hro, ← hF]
    have hw : IntKind.i64.wrap ((r : Int) + 1) = ((r + 1 : Nat) : Int) := by rw [wrap_i64 (by omega) (by omega)]; omega
    simp only [sh0_eq, cst' hlt, wxor, wand, wnot, hw, h19, h28, h61, h39, h1, h6, h10, h17, h7, h41, Option.bind_some, Option.bind_fun_some, lin_l]
    rfl
  · have : r = 12 := by omega
    subst this
    rw [if_neg (by simp)]
    rfl
theorem s76 : Sd76 (prt isS f74) := by
  refine of_prt (ok76 _ s76L) ?_
  intro a ha
  obtain ⟨s, rfl⟩ := ex_S ha
  have e := f74_ini p76L (fun s => ⟨0, s, 0, 0, 0, 0, 0, by omega, rfl⟩) s
  unfold t76
  simp only [wS]
  rw [e, Option.bind_some]
  simp only [f74, ofS_wS']
  rfl

end Go.Proofs.Dig

namespace Go.Proofs.Dig
open Go Go.Ev Go.Proofs.SmG

abbrev By := BitVec 8
def bD (b : By) : List DL := [.int .u8 (b.toNat : Int)]
def R (bs : List By) : Rows := bs.map bD
def nb (bs : List By) (i : Nat) : By := match bs, i with
  | [], _ => 0
  | b :: _, 0 => b
  | _ :: r, i + 1 => nb r i
@[simp] theorem R_len (bs : List By) : (R bs).length = bs.length := by simp [R]
theorem R_app (a b : List By) : R a ++ R b = R (a ++ b) := by simp [R]
theorem R_take (a : List By) (n : Nat) : (R a).take n = R (a.take n) := by simp [R, List.map_take]
theorem R_drop (a : List By) (n : Nat) : (R a).drop n = R (a.drop n) := by simp [R, List.map_drop]
theorem R_set (a : List By) (i : Nat) (b : By) : (R a).set i (bD b) = R (a.set i b) := by simp [R, List.map_set]
theorem R_rep (n : Nat) (b : By) : List.replicate n (bD b) = R (List.replicate n b) := by simp [R]
theorem nb_get (bs : List By) (i : Nat) : nb bs i = (bs[i]?).getD 0 := by
  induction bs generalizing i with
  | nil => simp [nb]
  | cons b r ih => cases i with
    | zero => simp [nb]
    | succ i => simp [nb, ih]
theorem cR (bs : List By) (i : Nat) : (cellAt (R bs) i 0).getI = ((nb bs i).toNat : Int) := by
  unfold cellAt
  rw [nb_get]
  simp only [R, List.getD_eq_getElem?_getD, List.getElem?_map]
  cases bs[i]? with
  | none => rfl
  | some b => rfl
def z (b : By) : W := b.setWidth 64
theorem wrap_z (b : By) : IntKind.u64.wrap ((b.toNat : Nat) : Int) = w (z b) := by
  rw [wrap_u64]; unfold w z
  have := b.isLt
  rw [BitVec.toNat_setWidth, Nat.mod_eq_of_lt (by omega)]
  omega

/-! 36: group -/
def gr (bs : List By) : Nat → W → W
  | 0, a => a
  | i + 1, a => gr bs i ((a <<< 8) ||| z (nb bs i))
def grp (bs : List By) : W := gr bs 8 0

def p75L (a : iL75_3) : Prop := ∃ (bs : List By) (v : W) (i : Nat), bs.length = 8 ∧ i ≤ 8 ∧ a = (R bs, w v, (i : Int) - 1)
noncomputable def f75L (a : iL75_3) : oL75_3 := w (gr ((a.1).map fun x => BitVec.ofInt 8 (x.headD default).getI) (a.2.2 + 1).toNat (BitVec.ofInt 64 a.2.1))
theorem unR (bs : List By) : ((R bs).map fun x => BitVec.ofInt 8 (x.headD default).getI) = bs := by
  unfold R
  rw [List.map_map]
  conv => rhs; rw [← List.map_id bs]
  refine List.map_congr_left fun b _ => ?_
  simp [bD, DL.getI, BitVec.ofInt_natCast]
theorem f75L_m (bs : List By) (v : W) (i : Nat) : f75L (R bs, w v, (i : Int) - 1) = w (gr bs i v) := by
  unfold f75L
  simp only [unR, of_w]
  rw [show ((i : Int) - 1 + 1).toNat = i by omega]

theorem mul256 (v : W) : IntKind.u64.wrap (w v * 256) = w (v <<< 8) := by
  have := wshl v 8
  simpa using this

theorem s75L : SdL75_3 (prt p75L f75L) := by
  refine of_iterL (step := fun l a => u75_3 sh0 l a.1 a.2.1 a.2.2 some) okL75_3 (fun a => (a.2.2 + 1).toNat) ?_
  rintro F _ ⟨bs, v, i, hb, hi, rfl⟩ ih
  rw [f75L_m]
  unfold u75_3
  rw [cond_dec]
  cases i with
  | zero =>
    rw [if_neg (by simp)]
    rfl
  | succ i =>
    rw [if_pos (by simp only; omega), cond_dec, if_pos (by simp only [R_len]; omega)]
    have hF := ih (R bs, w ((v <<< 8) ||| z (nb bs i)), (i : Int) - 1) ⟨bs, _, i, hb, by omega, rfl⟩ (by simp only; omega)
    rw [f75L_m] at hF
    have hw : IntKind.i64.wrap (((i + 1 : Nat) : Int) - 1 - 1) = (i : Int) - 1 := by rw [wrap_i64 (by omega) (by omega)]; omega
    have ht : (((i + 1 : Nat) : Int) - 1).toNat = i := by omega
    simp only [sh0_eq, ht, cR, wrap_z, mul256, wor, hw, hF, Option.bind_some]
    rfl

def byOf (rows : Rows) : List By := rows.map fun x => BitVec.ofInt 8 (x.headD default).getI
theorem byOf_R (bs : List By) : byOf (R bs) = bs := unR bs
theorem R_inj {a b : List By} (h : R a = R b) : a = b := by rw [← byOf_R a, h, byOf_R]
def f75 (a : i75) : o75 := w (grp (byOf a))
def is8 (a : Rows) : Prop := ∃ bs : List By, a = R bs ∧ bs.length = 8
theorem s75 : Sd75 (prt is8 f75) := by
  refine of_prt (ok75 _ s75L) ?_
  rintro _ ⟨bs, rfl, hb⟩
  have e : prt p75L f75L (R bs, (0 : Int), (7 : Int)) = some (w (gr bs 8 0)) := by
    rw [prt_eq (by exact ⟨bs, 0, 8, hb, by omega, rfl⟩)]
    exact congrArg some (f75L_m bs 0 8)
  unfold t75
  rw [e, Option.bind_some]
  simp only [f75, byOf_R, grp]

/-! 37: word -/
def wd (bs : List By) : Nat → Nat → W → W
  | 0, _, a => a
  | n + 1, i, a => wd bs n (i + 1) (a ||| (z (nb bs i) <<< (8 * i)))
def p77L (a : iL77_3) : Prop := ∃ (bs : List By) (v : W) (i : Nat), bs.length = 8 ∧ i ≤ 8 ∧ a = (R bs, w v, (i : Int))
def f77L (a : iL77_3) : oL77_3 := w (wd (byOf a.1) (8 - a.2.2.toNat) a.2.2.toNat (BitVec.ofInt 64 a.2.1))
theorem f77L_m (bs : List By) (v : W) (i : Nat) : f77L (R bs, w v, (i : Int)) = w (wd bs (8 - i) i v) := by
  unfold f77L
  simp only [byOf_R, of_w, Int.toNat_natCast]
theorem s77L : SdL77_3 (prt p77L f77L) := by
  refine of_iterL (step := fun l a => u77_3 sh0 l a.1 a.2.1 a.2.2 some) okL77_3 (fun a => 8 - a.2.2.toNat) ?_
  rintro F _ ⟨bs, v, i, hb, hi, rfl⟩ ih
  rw [f77L_m]
  unfold u77_3
  rw [cond_dec]
  by_cases hlt : i < 8
  · rw [if_pos (by simp only; omega), cond_dec, if_pos (by simp only [R_len]; omega)]
    have hF := ih (R bs, w (v ||| (z (nb bs i) <<< (8 * i))), ((i + 1 : Nat) : Int)) ⟨bs, _, i + 1, hb, by omega, rfl⟩ (by simp only [Int.toNat_natCast]; omega)
    rw [f77L_m] at hF
    have hro : wd bs (8 - i) i v = wd bs (8 - (i + 1)) (i + 1) (v ||| (z (nb bs i) <<< (8 * i))) := by
      rw [show 8 - i = (8 - (i + 1)) + 1 by omega]; rfl
    have hw : IntKind.i64.wrap ((i : Int) + 1) = ((i + 1 : Nat) : Int) := by rw [wrap_i64 (by omega) (by omega)]; omega
    have hw2 : IntKind.i64.wrap ((8 : Int) * (i : Int)) = ((8 * i : Nat) : Int) := by rw [wrap_i64 (by omega) (by omega)]; omega
    have hm : Min.min (8 * i) 64 = 8 * i := by omega
    simp only [sh0_eq, Int.toNat_natCast, cR, wrap_z, hw, hw2, cond_dec]
    rw [if_pos (Int.natCast_nonneg _), hm, wshl, wor, hF, hro]
    rfl
  · have : i = 8 := by omega
    subst this
    rw [if_neg (by simp)]
    rfl
theorem wd_grp (bs : List By) : wd bs 8 0 0 = grp bs := by
  have e0 : ((0 : W) <<< 8) = 0#64 := by decide
  have e1 : (0 : W) = 0#64 := rfl
  simp only [wd, grp, gr, e0, e1, BitVec.shiftLeft_or_distrib, ← BitVec.shiftLeft_add, BitVec.zero_or, Nat.mul_zero, BitVec.shiftLeft_zero, Nat.zero_add, Nat.reduceAdd, Nat.reduceMul]
  generalize z (nb bs 0) = v0
  generalize z (nb bs 1) = v1
  generalize z (nb bs 2) = v2
  generalize z (nb bs 3) = v3
  generalize z (nb bs 4) = v4
  generalize z (nb bs 5) = v5
  generalize z (nb bs 6) = v6
  generalize z (nb bs 7) = v7
  generalize v1 <<< 8 = u1
  generalize v2 <<< 16 = u2
  generalize v3 <<< 24 = u3
  generalize v4 <<< 32 = u4
  generalize v5 <<< 40 = u5
  generalize v6 <<< 48 = u6
  generalize v7 <<< 56 = u7
  ac_rfl
theorem s77 : Sd77 (prt is8 f75) := by
  refine of_prt (ok77 _ s77L) ?_
  rintro _ ⟨bs, rfl, hb⟩
  have e : prt p77L f77L (R bs, (0 : Int), (0 : Int)) = some (w (wd bs 8 0 0)) := by
    rw [prt_eq (by exact ⟨bs, 0, 0, hb, by omega, rfl⟩)]
    exact congrArg some (f77L_m bs 0 0)
  unfold t77
  rw [e, Option.bind_some]
  simp only [f75, byOf_R, wd_grp]

end Go.Proofs.Dig

namespace Go.Proofs.Dig
open Go Go.Ev Go.Proofs.SmG

def fed (s : S) (g : W) : S := perm ⟨s.a ^^^ g, s.b, s.c, s.d, s.e⟩
def absN : Nat → S → List By → S
  | 0, s, _ => s
  | n + 1, s, ps => absN n (fed s (grp (ps.take 8))) (ps.drop 8)
def st0 (d : W) : S := perm ⟨d, 1, 2, 3, 4⟩
def tl (bs : List By) : List By := 1 :: List.replicate (7 - bs.length % 8) 0
def absorb (d : W) (bs : List By) : S := absN (bs.length / 8 + 1) (st0 d) (bs ++ tl bs)

theorem absN_snoc (n : Nat) : ∀ (s : S) (ps : List By), absN (n + 1) s ps = fed (absN n s ps) (grp ((ps.drop (8 * n)).take 8)) := by
  induction n with
  | zero => intro s ps; simp [absN]
  | succ n ih =>
    intro s ps
    rw [absN, ih, absN, List.drop_drop, show 8 + 8 * n = 8 * (n + 1) by omega]
theorem absN_app (n : Nat) : ∀ (s : S) (bs t : List By), 8 * n ≤ bs.length → absN n s (bs ++ t) = absN n s bs := by
  induction n with
  | zero => intro s bs t _; rfl
  | succ n ih =>
    intro s bs t h
    rw [absN, absN, List.take_append_of_le_length (by omega), List.drop_append_of_le_length (by omega), ih _ _ _ (by rw [List.length_drop]; omega)]
theorem tl_len (bs : List By) : (bs ++ tl bs).length = 8 * (bs.length / 8 + 1) := by
  simp [tl]; omega
theorem absorb_eq (d : W) (bs : List By) : absorb d bs = fed (absN (bs.length / 8) (st0 d) bs) (grp (bs.drop (8 * (bs.length / 8)) ++ tl bs)) := by
  unfold absorb
  rw [absN_snoc, absN_app _ _ _ _ (by omega), List.drop_append_of_le_length (by omega), List.take_of_length_le]
  simp [tl]; omega

theorem e74 (a b c d e : W) : prt isS f74 (w a, w b, w c, w d, w e) = some (wS (perm ⟨a, b, c, d, e⟩)) := by
  rw [prt_eq (by exact isS_wS ⟨a, b, c, d, e⟩)]
  exact congrArg (fun x => some (wS (perm x))) (ofS_wS ⟨a, b, c, d, e⟩)
theorem e75 (bs : List By) (h : bs.length = 8) : prt is8 f75 (R bs) = some (w (grp bs)) := by
  rw [prt_eq (by exact ⟨bs, rfl, h⟩)]
  simp only [f75, byOf_R]

abbrev O31 := Rows × Int × Int × Int × Int × Int × Int × Int × Int × Int × Int × Int
def p68L (a : iL68_4) : Prop := ∃ (bs : List By) (i : Nat) (s : S) (j1 j2 j3 j4 j5 : Int), bs.length ≤ 1000000 ∧ i ≤ bs.length / 8 ∧ a = (R bs, ((bs.length / 8 : Nat) : Int), (i : Int), j1, j2, j3, j4, j5, w s.a, w s.b, w s.c, w s.d, w s.e)
def f68L (a : iL68_4) : oL68_4 :=
  (a.1, a.2.1, a.2.2.2.1, a.2.2.2.2.1, a.2.2.2.2.2.1, a.2.2.2.2.2.2.1, a.2.2.2.2.2.2.2.1, wS (absN (a.2.1.toNat - a.2.2.1.toNat) (ofS a.2.2.2.2.2.2.2.2) ((byOf a.1).drop (8 * a.2.2.1.toNat))))
theorem f68L_m (bs : List By) (i : Nat) (s : S) (j1 j2 j3 j4 j5 : Int) : f68L (R bs, ((bs.length / 8 : Nat) : Int), (i : Int), j1, j2, j3, j4, j5, w s.a, w s.b, w s.c, w s.d, w s.e) =
    (R bs, ((bs.length / 8 : Nat) : Int), j1, j2, j3, j4, j5, wS (absN (bs.length / 8 - i) s (bs.drop (8 * i)))) := by
  unfold f68L
  simp only [Int.toNat_natCast, byOf_R, ofS_wS']

theorem s68L : SdL68_4 (prt p68L f68L) := by
  refine of_iterL (step := fun l a => u68_4 sh0 _ _ l a.1 a.2.1 a.2.2.1 a.2.2.2.1 a.2.2.2.2.1 a.2.2.2.2.2.1 a.2.2.2.2.2.2.1 a.2.2.2.2.2.2.2.1 a.2.2.2.2.2.2.2.2.1 a.2.2.2.2.2.2.2.2.2.1 a.2.2.2.2.2.2.2.2.2.2.1 a.2.2.2.2.2.2.2.2.2.2.2.1 a.2.2.2.2.2.2.2.2.2.2.2.2 some) (fun l => okL68_4 _ _ l s75 s74) (fun a => a.2.1.toNat - a.2.2.1.toNat) ?_
  rintro F _ ⟨bs, i, s, j1, j2, j3, j4, j5, hb, hi, rfl⟩ ih
  rw [f68L_m]
  unfold u68_4
  rw [cond_dec]
  by_cases hlt : i < bs.length / 8
  · have hw2 : IntKind.i64.wrap ((8 : Int) * (i : Int)) = ((8 * i : Nat) : Int) := by rw [wrap_i64 (by omega) (by omega)]; omega
    have hw3 : IntKind.i64.wrap (((8 * i : Nat) : Int) + 8) = ((8 * i + 8 : Nat) : Int) := by rw [wrap_i64 (by omega) (by omega)]; omega
    have hw : IntKind.i64.wrap ((i : Int) + 1) = ((i + 1 : Nat) : Int) := by rw [wrap_i64 (by omega) (by omega)]; omega
    rw [if_pos (by simp only; omega), cond_dec, if_pos (by simp only [R_len, hw2, hw3]; omega)]
    let s' := fed s (grp ((bs.drop (8 * i)).take 8))
    have hF := ih (R bs, ((bs.length / 8 : Nat) : Int), ((i + 1 : Nat) : Int), j1, j2, j3, j4, j5, w s'.a, w s'.b, w s'.c, w s'.d, w s'.e) ⟨bs, i + 1, _, j1, j2, j3, j4, j5, hb, by omega, rfl⟩ (by simp only [Int.toNat_natCast]; omega)
    rw [f68L_m] at hF
    have hro : absN (bs.length / 8 - i) s (bs.drop (8 * i)) = absN (bs.length / 8 - (i + 1)) s' (bs.drop (8 * (i + 1))) := by
      rw [show bs.length / 8 - i = (bs.length / 8 - (i + 1)) + 1 by omega, absN, List.drop_drop, show 8 * i + 8 = 8 * (i + 1) by omega]
    simp only [hw2, hw3, hw, Int.toNat_natCast, R_drop, R_take, sh0_eq, show 8 * i + 8 - 8 * i = 8 by omega]
    rw [e75 _ (by simp; omega)]
    simp only [Option.bind_some, wxor, e74, wS]
    rw [hro, show (some : oL68_4 → _) = some from rfl, Option.bind_fun_some]
    exact hF
  · have : i = bs.length / 8 := by omega
    subst this
    rw [if_neg (by simp), Nat.sub_self]
    rfl

def isB (a : Int × Rows) : Prop := isW a.1 ∧ ∃ bs : List By, a.2 = R bs ∧ bs.length ≤ 5000
def f68 (a : i68) : o68 := wS (absorb (BitVec.ofInt 64 a.1) (byOf a.2))

theorem last_row (D : List By) (h : D.length < 8) : (R D ++ List.drop D.length (List.replicate 8 [DL.int .u8 0])).set D.length [DL.int .u8 1] = R (D ++ 1 :: List.replicate (7 - D.length) 0) := by
  rw [show ([DL.int .u8 0] : List DL) = bD 0 from rfl, show ([DL.int .u8 1] : List DL) = bD 1 from rfl, R_rep, R_drop, R_app, R_set]
  congr 1
  rw [List.drop_replicate, List.set_append_right _ _ (Nat.le_refl _), Nat.sub_self, show 8 - D.length = (7 - D.length) + 1 by omega, List.replicate_succ, List.set_cons_zero]

theorem s68 : Sd68 (prt isB f68) := by
  refine of_prt (ok68 _ _ _ s74 s75 s68L) ?_
  rintro ⟨d, rows⟩ ⟨hd, bs, hbs, hb⟩
  simp only at hd hbs
  subst hbs
  obtain ⟨d, rfl⟩ := ex_w hd
  have hl : prt p68L f68L (R bs, ((bs.length / 8 : Nat) : Int), (0 : Int), (0 : Int), (0 : Int), (0 : Int), (0 : Int), (0 : Int), w (st0 d).a, w (st0 d).b, w (st0 d).c, w (st0 d).d, w (st0 d).e) = some (R bs, ((bs.length / 8 : Nat) : Int), (0 : Int), (0 : Int), (0 : Int), (0 : Int), (0 : Int), wS (absN (bs.length / 8) (st0 d) bs)) := by
    rw [prt_eq (by exact ⟨bs, 0, st0 d, 0, 0, 0, 0, 0, by omega, by omega, rfl⟩)]
    have := f68L_m bs 0 (st0 d) 0 0 0 0 0
    simp only [Nat.sub_zero, Nat.mul_zero, List.drop_zero] at this
    exact congrArg some this
  have h1 : prt isS f74 (w d, (1 : Int), (2 : Int), (3 : Int), (4 : Int)) = some (wS (st0 d)) := e74 d 1 2 3 4
  have hw : IntKind.i64.wrap (Int.tdiv (bs.length : Int) 8) = ((bs.length / 8 : Nat) : Int) := by
    rw [Int.tdiv_eq_ediv_of_nonneg (by omega), wrap_i64 (by omega) (by omega)]; omega
  have hw2 : IntKind.i64.wrap ((8 : Int) * ((bs.length / 8 : Nat) : Int)) = ((8 * (bs.length / 8) : Nat) : Int) := by rw [wrap_i64 (by omega) (by omega)]; omega
  generalize hq : bs.length / 8 = q at *
  generalize hD : bs.drop (8 * q) = D at *
  have hDl : D.length = bs.length % 8 := by rw [← hD, List.length_drop]; omega
  have hD8 : D.length < 8 := by omega
  unfold t68
  rw [h1, Option.bind_some]
  simp only [sh0_eq, R_len, hw, wS]
  rw [hl, Option.bind_some]
  simp only [hw2, Int.toNat_natCast, R_drop, hD, R_len, List.length_replicate, cond_dec]
  have hm : Min.min D.length 8 = D.length := by omega
  simp only [hm, R_take, List.take_length]
  rw [if_pos trivial, if_pos (by omega), if_pos (by omega)]
  simp only [Int.toNat_natCast, last_row D hD8, R_len]
  rw [if_pos (by simp; omega), if_pos (by simp; omega), e75 _ (by simp; omega)]
  simp only [Option.bind_some, wS]
  simp only [wxor, e74, Option.bind_some]
  simp only [wS, f68, of_w, byOf_R, absorb_eq, hq, hD, tl, hDl]
  rfl

/-! 37, 33: the reference's -/
theorem e77 (bs : List By) (h : bs.length = 8) : prt is8 f75 (R bs) = some (w (grp bs)) := e75 bs h
theorem room5 {n : Nat} (h : n ≤ 1000000) : roomE Try.prog 5 n = true := by
  have h1 : rowOk Try.prog 5 = true := by kernel_rfl
  have h2 : Try.prog.bytesOf 5 = 1 := by kernel_rfl
  unfold roomE
  rw [h1, h2]
  simp; omega

def fill (ps : List By) : List By := ps ++ List.replicate ((8 - ps.length % 8) % 8) 0
def p70a (a : iL70_2) : Prop := ∃ ps : List By, ps.length ≤ 10000 ∧ a.2.2.2.2.2.2 = R ps
def f70a (a : iL70_2) : oL70_2 := (a.1, a.2.1, a.2.2.1, a.2.2.2.1, a.2.2.2.2.1, a.2.2.2.2.2.1, R (fill (byOf a.2.2.2.2.2.2)))
theorem s70a : SdL70_2 (prt p70a f70a) := by
  refine of_iterL (step := fun l a => u70_2 sh0 l a.1 a.2.1 a.2.2.1 a.2.2.2.1 a.2.2.2.2.1 a.2.2.2.2.2.1 a.2.2.2.2.2.2 some) okL70_2 (fun a => (8 - (a.2.2.2.2.2.2).length % 8) % 8) ?_
  rintro F ⟨j1, j2, j3, j4, j5, j6, _⟩ ⟨ps, hb, rfl⟩ ih
  unfold u70_2
  simp only [sh0_eq, R_len, f70a, byOf_R]
  have hm : (Int.tmod (ps.length : Int) 8 != 0) = decide (ps.length % 8 ≠ 0) := by
    rw [Int.tmod_eq_emod_of_nonneg (by omega)]
    by_cases h : ps.length % 8 = 0
    · rw [show ((ps.length : Int) % 8) = 0 by omega]; simp [h]
    · have : ¬ ((ps.length : Int) % 8) = 0 := by omega
      simp [h, this]
  rw [hm, cond_dec]
  by_cases h : ps.length % 8 = 0
  · rw [if_neg (by simp [h])]
    simp [fill, h]
  · rw [if_pos h]
    simp only [List.length_singleton, room5 (n := ps.length + 1) (by omega), cond_true]
    rw [show ([[DL.int .u8 0]] : Rows) = R [0] from rfl, R_app]
    have hF := ih (j1, j2, j3, j4, j5, j6, R (ps ++ [0])) ⟨_, by simp; omega, rfl⟩ (by simp; omega)
    rw [Option.bind_fun_some, hF]
    simp only [f70a, byOf_R]
    have : fill (ps ++ [0]) = fill ps := by
      unfold fill
      rw [List.append_assoc, ← List.replicate_one, List.replicate_append_replicate]
      congr 2
      simp; omega
    rw [this]

def p70b (a : iL70_6) : Prop := ∃ (ps : List By) (i : Nat) (s : S) (j1 j2 j3 j4 j5 : Int), ps.length ≤ 10000 ∧ ps.length % 8 = 0 ∧ 8 * i ≤ ps.length ∧ a = (((8 * i : Nat) : Int), j1, j2, j3, j4, j5, R ps, w s.a, w s.b, w s.c, w s.d, w s.e)
def f70b (a : iL70_6) : oL70_6 :=
  (a.2.1, a.2.2.1, a.2.2.2.1, a.2.2.2.2.1, a.2.2.2.2.2.1, wS (absN ((a.2.2.2.2.2.2.1.length - a.1.toNat) / 8) (ofS a.2.2.2.2.2.2.2) ((byOf a.2.2.2.2.2.2.1).drop a.1.toNat)))
theorem f70b_m (ps : List By) (i : Nat) (s : S) (j1 j2 j3 j4 j5 : Int) : f70b (((8 * i : Nat) : Int), j1, j2, j3, j4, j5, R ps, w s.a, w s.b, w s.c, w s.d, w s.e) = (j1, j2, j3, j4, j5, wS (absN ((ps.length - 8 * i) / 8) s (ps.drop (8 * i)))) := by
  unfold f70b
  simp only [Int.toNat_natCast, byOf_R, ofS_wS', R_len]
theorem s70b : SdL70_6 (prt p70b f70b) := by
  refine of_iterL (step := fun l a => u70_6 sh0 _ _ l a.1 a.2.1 a.2.2.1 a.2.2.2.1 a.2.2.2.2.1 a.2.2.2.2.2.1 a.2.2.2.2.2.2.1 a.2.2.2.2.2.2.2.1 a.2.2.2.2.2.2.2.2.1 a.2.2.2.2.2.2.2.2.2.1 a.2.2.2.2.2.2.2.2.2.2.1 a.2.2.2.2.2.2.2.2.2.2.2 some) (fun l => okL70_6 _ _ l s77 s76) (fun a => a.2.2.2.2.2.2.1.length - a.1.toNat) ?_
  rintro F _ ⟨ps, i, s, j1, j2, j3, j4, j5, hb, h8, hi, rfl⟩ ih
  rw [f70b_m]
  unfold u70_6
  simp only [sh0_eq, R_len]
  rw [cond_dec]
  by_cases hlt : 8 * i < ps.length
  · have hw3 : IntKind.i64.wrap (((8 * i : Nat) : Int) + 8) = ((8 * (i + 1) : Nat) : Int) := by rw [wrap_i64 (by omega) (by omega)]; omega
    rw [if_pos (by omega), cond_dec, if_pos (by rw [hw3]; omega)]
    let s' := fed s (grp ((ps.drop (8 * i)).take 8))
    have hF := ih (((8 * (i + 1) : Nat) : Int), j1, j2, j3, j4, j5, R ps, w s'.a, w s'.b, w s'.c, w s'.d, w s'.e) ⟨ps, i + 1, _, j1, j2, j3, j4, j5, hb, h8, by omega, rfl⟩ (by simp only [Int.toNat_natCast, R_len]; omega)
    rw [f70b_m] at hF
    have hro : absN ((ps.length - 8 * i) / 8) s (ps.drop (8 * i)) = absN ((ps.length - 8 * (i + 1)) / 8) s' (ps.drop (8 * (i + 1))) := by
      rw [show (ps.length - 8 * i) / 8 = (ps.length - 8 * (i + 1)) / 8 + 1 by omega, absN, List.drop_drop, show 8 * i + 8 = 8 * (i + 1) by omega]
    simp only [hw3, Int.toNat_natCast, R_drop, R_take, show 8 * (i + 1) - 8 * i = 8 by omega]
    rw [e77 _ (by simp; omega)]
    simp only [Option.bind_some, wxor, e74, wS]
    rw [hro, show (some : oL70_6 → _) = some from rfl, Option.bind_fun_some]
    exact hF
  · rw [if_neg (by omega), show (ps.length - 8 * i) / 8 = 0 by omega]
    rfl

theorem s70 : Sd70 (prt isB f68) := by
  refine of_prt (ok70 _ _ _ s76 s70a s70b) ?_
  rintro ⟨d, rows⟩ ⟨hd, bs, hbs, hb⟩
  simp only at hd hbs
  subst hbs
  obtain ⟨d, rfl⟩ := ex_w hd
  unfold t70
  simp only [sh0_eq, List.length_nil, R_len, Nat.zero_add, List.nil_append, room5 (n := bs.length) (by omega), cond_true, List.length_singleton, room5 (n := bs.length + 1) (by omega)]
  rw [show ([[DL.int .u8 1]] : Rows) = R [1] from rfl, R_app]
  have h33 : prt p70a f70a (w d, (0 : Int), (0 : Int), (0 : Int), (0 : Int), (0 : Int), R (bs ++ [1])) = some (w d, (0 : Int), (0 : Int), (0 : Int), (0 : Int), (0 : Int), R (bs ++ tl bs)) := by
    rw [prt_eq (by exact ⟨_, by simp; omega, rfl⟩)]
    simp only [f70a, byOf_R]
    have : fill (bs ++ [1]) = bs ++ tl bs := by
      unfold fill tl
      rw [List.append_assoc]
      congr 1
      simp only [List.singleton_append, List.length_append, List.length_singleton]
      congr 2
      omega
    rw [this]
  have h1 : prt isS f74 (w d, (1 : Int), (2 : Int), (3 : Int), (4 : Int)) = some (wS (st0 d)) := e74 d 1 2 3 4
  have hL := tl_len bs
  have h6 : prt p70b f70b ((0 : Int), (0 : Int), (0 : Int), (0 : Int), (0 : Int), (0 : Int), R (bs ++ tl bs), w (st0 d).a, w (st0 d).b, w (st0 d).c, w (st0 d).d, w (st0 d).e) = some ((0 : Int), (0 : Int), (0 : Int), (0 : Int), (0 : Int), wS (absorb d bs)) := by
    rw [prt_eq (by exact ⟨_, 0, st0 d, 0, 0, 0, 0, 0, by omega, by omega, by omega, rfl⟩)]
    have := f70b_m (bs ++ tl bs) 0 (st0 d) 0 0 0 0 0
    rw [show (bs ++ tl bs).length - 8 * 0 = 8 * (bs.length / 8 + 1) by omega, Nat.mul_div_cancel_left _ (by omega : 0 < 8), Nat.mul_zero, List.drop_zero] at this
    exact congrArg some this
  rw [h33, Option.bind_some, h1, Option.bind_some]
  simp only [wS]
  rw [h6, Option.bind_some]
  simp only [f68, of_w, byOf_R]

end Go.Proofs.Dig

namespace Go.Proofs.Dig
open Go Go.Ev Go.Proofs.SmG

def byw (s : S) (j : Nat) : By := (s.a >>> (8 * j)).setWidth 8
def nx (i : Nat) (s : S) : S := if 0 < i ∧ i % 8 = 0 then perm s else s
def go : Nat → Nat → S → List By
  | 0, _, _ => []
  | k + 1, i, s => byw (nx i s) (i % 8) :: go k (i + 1) (nx i s)
def sqz (n : Nat) (s : S) : List By := go n 0 s
def blk (s : S) : List By := [byw s 0, byw s 1, byw s 2, byw s 3, byw s 4, byw s 5, byw s 6, byw s 7]
def blks : Nat → S → List By
  | 0, _ => []
  | k + 1, s => blk s ++ blks k (perm s)

theorem go_len (k : Nat) : ∀ i s, (go k i s).length = k := by
  induction k with
  | zero => intro i s; rfl
  | succ k ih => intro i s; simp [go, ih]
theorem go_mod (k : Nat) : ∀ i s, 0 < i → go k (i + 8) s = go k i s := by
  induction k with
  | zero => intro i s _; rfl
  | succ k ih =>
    intro i s h
    have h1 : nx (i + 8) s = nx i s := by unfold nx; simp [h]
    simp only [go, h1, Nat.add_mod_right]
    rw [show i + 8 + 1 = (i + 1) + 8 by omega, ih _ _ (by omega)]
theorem go_eight (k : Nat) (s : S) : go k 8 s = go k 0 (perm s) := by
  cases k with
  | zero => rfl
  | succ k =>
    have h1 : nx 8 s = perm s := by simp [nx]
    have h2 : nx 0 (perm s) = perm s := by simp [nx]
    simp only [go, h1, h2, Nat.mod_self, Nat.zero_mod, Nat.zero_add]
    rw [show 8 + 1 = 1 + 8 by omega, go_mod _ _ _ (by omega)]
theorem go_blk (k : Nat) (s : S) : go (k + 8) 0 s = blk s ++ go k 8 s := by
  have h : ∀ i, i < 8 → nx i s = s := fun i hi => by unfold nx; rw [if_neg (by omega)]
  simp only [go, blk, h 0 (by omega), h 1 (by omega), h 2 (by omega), h 3 (by omega), h 4 (by omega), h 5 (by omega), h 6 (by omega), h 7 (by omega), Nat.zero_add, Nat.reduceAdd, Nat.reduceMod, List.cons_append, List.nil_append]
theorem go_take (n : Nat) : ∀ j i s, go n i s = (go (n + j) i s).take n := by
  induction n with
  | zero => intro j i s; simp [go]
  | succ n ih =>
    intro j i s
    rw [show n + 1 + j = (n + j) + 1 by omega]
    simp only [go, List.take_succ_cons]
    rw [← ih]
theorem go_blks (m : Nat) : ∀ n s, n ≤ 8 * m → go n 0 s = (blks m s).take n := by
  induction m with
  | zero => intro n s h; rw [show n = 0 by omega]; rfl
  | succ m ih =>
    intro n s h
    by_cases h8 : 8 ≤ n
    · obtain ⟨k, rfl⟩ : ∃ k, n = k + 8 := ⟨n - 8, by omega⟩
      rw [go_blk, go_eight, ih k _ (by omega), blks, List.take_append, show k + 8 - (blk s).length = k by simp [blk], List.take_of_length_le (l := blk s) (by simp [blk])]
    · rw [go_take n (8 - n), show n + (8 - n) = 0 + 8 by omega, go_blk, blks, go]
      rw [List.append_nil, List.take_append_of_le_length (by simp [blk]; omega)]

/-! 30: squeeze -/
theorem shr8 (a : W) (j : Nat) (h : j < 8) : [DL.int .u8 (IntKind.u8.wrap ((w a).fdiv (2 ^ Min.min (8 * j) 64)))] = bD ((a >>> (8 * j)).setWidth 8) := by
  rw [Nat.min_eq_left (by omega), wshr, wrap_u8]
  unfold bD w
  rw [BitVec.toNat_setWidth]
  simp

def p67L (a : iL67_2) : Prop := ∃ (bs : List By) (i : Nat) (s : S), bs.length ≤ 1000000 ∧ i ≤ bs.length ∧ a = ((i : Int), R bs, w s.a, w s.b, w s.c, w s.d, w s.e)
def f67L (a : iL67_2) : oL67_2 := R ((byOf a.2.1).take a.1.toNat ++ go (a.2.1.length - a.1.toNat) a.1.toNat (ofS a.2.2))
theorem f67L_m (bs : List By) (i : Nat) (s : S) : f67L ((i : Int), R bs, w s.a, w s.b, w s.c, w s.d, w s.e) = R (bs.take i ++ go (bs.length - i) i s) := by
  unfold f67L
  simp only [Int.toNat_natCast, byOf_R, ofS_wS', R_len]
theorem take_set (bs : List By) (i : Nat) (b : By) (h : i < bs.length) : (bs.set i b).take (i + 1) = bs.take i ++ [b] := by
  rw [List.take_set, List.take_add_one, List.getElem?_eq_getElem h, Option.toList_some, List.set_append_right _ _ (by simp; omega)]
  simp [Nat.min_eq_left (Nat.le_of_lt h)]

theorem s67L : SdL67_2 (prt p67L f67L) := by
  refine of_iterL (step := fun l a => u67_2 sh0 _ l a.1 a.2.1 a.2.2.1 a.2.2.2.1 a.2.2.2.2.1 a.2.2.2.2.2.1 a.2.2.2.2.2.2 some) (fun l => okL67_2 _ l s74) (fun a => a.2.1.length - a.1.toNat) ?_
  rintro F _ ⟨bs, i, s, hb, hi, rfl⟩ ih
  rw [f67L_m]
  unfold u67_2
  simp only [sh0_eq, R_len]
  rw [cond_dec]
  by_cases hlt : i < bs.length
  · rw [if_pos (by omega)]
    have hm : Int.tmod (i : Int) 8 = ((i % 8 : Nat) : Int) := by rw [Int.tmod_eq_emod_of_nonneg (by omega)]; omega
    have hw1 : IntKind.u64.wrap ((i % 8 : Nat) : Int) = ((i % 8 : Nat) : Int) := by rw [wrap_u64]; omega
    have hw2 : IntKind.u64.wrap ((8 : Int) * ((i % 8 : Nat) : Int)) = ((8 * (i % 8) : Nat) : Int) := by rw [wrap_u64]; omega
    have hw : IntKind.i64.wrap ((i : Int) + 1) = ((i + 1 : Nat) : Int) := by rw [wrap_i64 (by omega) (by omega)]; omega
    have key : ∀ s' : S, s' = nx i s → F (((i + 1 : Nat) : Int), R (bs.set i (byw s' (i % 8))), w s'.a, w s'.b, w s'.c, w s'.d, w s'.e) = some (R (bs.take i ++ go (bs.length - i) i s)) := by
      intro s' hs
      have hF := ih (((i + 1 : Nat) : Int), R (bs.set i (byw s' (i % 8))), w s'.a, w s'.b, w s'.c, w s'.d, w s'.e) ⟨_, i + 1, _, by simpa using hb, by simp; omega, rfl⟩ (by simp; omega)
      rw [hF, f67L_m, List.length_set, take_set _ _ _ hlt, show bs.length - i = (bs.length - (i + 1)) + 1 by omega, go, hs]
      simp
    have set : ∀ s' : S, (R bs).set i [DL.int .u8 (IntKind.u8.wrap ((w s'.a).fdiv (2 ^ Min.min (8 * (i % 8)) 64)))] = R (bs.set i (byw s' (i % 8))) := by
      intro s'
      rw [shr8 _ _ (by omega), R_set]
      rfl
    simp only [hm, hw1, hw2, hw, Int.toNat_natCast, cond_dec]
    have p1 : (0 : Int) ≤ ((8 * (i % 8) : Nat) : Int) := Int.natCast_nonneg _
    have p2 : (0 : Int) ≤ (i : Int) ∧ (i : Int) < (bs.length : Int) := by omega
    by_cases h0 : 0 < i
    · rw [if_pos (by omega)]
      by_cases h1 : i % 8 = 0
      · rw [show (((i % 8 : Nat) : Int) == 0) = true by simp [h1], cond_true, e74, Option.bind_some, if_pos p1, if_pos p2, if_pos hlt]
        simp only [wS, set, Option.bind_fun_some]
        exact key (perm s) (by unfold nx; rw [if_pos ⟨h0, h1⟩])
      · rw [show (((i % 8 : Nat) : Int) == 0) = false by simp; omega, cond_false, if_pos p1, if_pos p2, if_pos hlt]
        simp only [set, Option.bind_fun_some]
        exact key s (by unfold nx; rw [if_neg (by omega)])
    · rw [if_neg (by omega), if_pos p1, if_pos p2, if_pos hlt]
      simp only [set, Option.bind_fun_some]
      exact key s (by unfold nx; rw [if_neg (by omega)])
  · have : i = bs.length := by omega
    subst this
    rw [if_neg (by omega)]
    simp [go]

def isBig (a : Rows) : Prop := ∃ bs : List By, a = R bs ∧ bs.length ≤ 1000000
def p67 (a : i67) : Prop := isS (a.1, a.2.1, a.2.2.1, a.2.2.2.1, a.2.2.2.2.1) ∧ isBig a.2.2.2.2.2
def f67 (a : i67) : o67 := R (sqz a.2.2.2.2.2.length (ofS (a.1, a.2.1, a.2.2.1, a.2.2.2.1, a.2.2.2.2.1)))
theorem s67 : Sd67 (prt p67 f67) := by
  refine of_prt (ok67 _ s67L) ?_
  rintro ⟨x1, x2, x3, x4, x5, rows⟩ ⟨hs, bs, hbs, hb⟩
  simp only at hbs hs
  subst hbs
  obtain ⟨s, hs⟩ := ex_S hs
  simp only [wS, Prod.mk.injEq] at hs
  obtain ⟨rfl, rfl, rfl, rfl, rfl⟩ := hs
  unfold t67
  have e : prt p67L f67L ((0 : Int), R bs, w s.a, w s.b, w s.c, w s.d, w s.e) = some (R (sqz bs.length s)) := by
    rw [prt_eq (by exact ⟨bs, 0, s, hb, by omega, rfl⟩)]
    have := f67L_m bs 0 s
    simp only [Nat.sub_zero, List.take_zero, List.nil_append] at this
    exact congrArg some this
  rw [e, Option.bind_some]
  simp only [f67, R_len, ofS_wS']
theorem e67 (s : S) (bs : List By) (h : bs.length ≤ 1000000) : prt p67 f67 (w s.a, w s.b, w s.c, w s.d, w s.e, R bs) = some (R (sqz bs.length s)) := by
  rw [prt_eq (by exact ⟨isS_wS s, bs, rfl, h⟩)]
  simp only [f67, R_len, ofS_wS']

end Go.Proofs.Dig

namespace Go.Proofs.Dig
open Go Go.Ev Go.Proofs.SmG

theorem e76 (a b c d e : W) : prt isS f74 (w a, w b, w c, w d, w e) = some (wS (perm ⟨a, b, c, d, e⟩)) := e74 a b c d e
theorem blk_drop (s : S) (i : Nat) (h : i < 8) : (blk s).drop i = byw s i :: (blk s).drop (i + 1) := by
  match i, h with
  | 0, _ => rfl
  | 1, _ => rfl
  | 2, _ => rfl
  | 3, _ => rfl
  | 4, _ => rfl
  | 5, _ => rfl
  | 6, _ => rfl
  | 7, _ => rfl
theorem blk_len (s : S) : (blk s).length = 8 := rfl
theorem blks_len (m : Nat) : ∀ s, (blks m s).length = 8 * m := by
  induction m with
  | zero => intro s; rfl
  | succ m ih => intro s; rw [blks, List.length_append, ih, blk_len]; omega

def p69b (a : iL69_4) : Prop := ∃ (n : Int) (i : Nat) (s : S) (ps : List By), ps.length + (8 - i) ≤ 900000 ∧ i ≤ 8 ∧ a = (n, (i : Int), w s.a, w s.b, w s.c, w s.d, w s.e, R ps)
def f69b (a : iL69_4) : oL69_4 := (a.1, a.2.2.1, a.2.2.2.1, a.2.2.2.2.1, a.2.2.2.2.2.1, a.2.2.2.2.2.2.1, R (byOf a.2.2.2.2.2.2.2 ++ (blk (ofS (a.2.2.1, a.2.2.2.1, a.2.2.2.2.1, a.2.2.2.2.2.1, a.2.2.2.2.2.2.1))).drop a.2.1.toNat))
theorem f69b_m (n : Int) (i : Nat) (s : S) (ps : List By) : f69b (n, (i : Int), w s.a, w s.b, w s.c, w s.d, w s.e, R ps) = (n, w s.a, w s.b, w s.c, w s.d, w s.e, R (ps ++ (blk s).drop i)) := by
  unfold f69b
  simp only [Int.toNat_natCast, byOf_R, ofS_wS']
theorem s69b : SdL69_4 (prt p69b f69b) := by
  refine of_iterL (step := fun l a => u69_4 sh0 l a.1 a.2.1 a.2.2.1 a.2.2.2.1 a.2.2.2.2.1 a.2.2.2.2.2.1 a.2.2.2.2.2.2.1 a.2.2.2.2.2.2.2 some) okL69_4 (fun a => 8 - a.2.1.toNat) ?_
  rintro F _ ⟨n, i, s, ps, hl, hi, rfl⟩ ih
  rw [f69b_m]
  unfold u69_4
  rw [cond_dec]
  by_cases hlt : i < 8
  · have hw2 : IntKind.i64.wrap ((8 : Int) * (i : Int)) = ((8 * i : Nat) : Int) := by rw [wrap_i64 (by omega) (by omega)]; omega
    have hw : IntKind.i64.wrap ((i : Int) + 1) = ((i + 1 : Nat) : Int) := by rw [wrap_i64 (by omega) (by omega)]; omega
    rw [if_pos (by simp only; omega)]
    have hF := ih (n, ((i + 1 : Nat) : Int), w s.a, w s.b, w s.c, w s.d, w s.e, R (ps ++ [byw s i])) ⟨n, i + 1, s, _, by simp; omega, by omega, rfl⟩ (by simp only [Int.toNat_natCast]; omega)
    rw [f69b_m] at hF
    have hb : ([[DL.int .u8 (IntKind.u8.wrap ((w s.a).fdiv (2 ^ Min.min (8 * i) 64)))]] : Rows) = R [byw s i] := by
      rw [shr8 _ _ hlt]; rfl
    simp only [hw2, hw, cond_dec, sh0_eq, Int.toNat_natCast, hb, R_len, List.length_singleton, R_app]
    rw [if_pos (Int.natCast_nonneg _), room5 (by omega), cond_true, hF, blk_drop s i hlt]
    simp
  · have : i = 8 := by omega
    subst this
    rw [if_neg (by simp), List.drop_of_length_le (by rw [blk_len]; omega), List.append_nil]

def p69a (a : iL69_2) : Prop := ∃ (n : Nat) (s : S) (ps : List By), n ≤ 100000 ∧ ps.length ≤ 200000 ∧ a = ((n : Int), w s.a, w s.b, w s.c, w s.d, w s.e, R ps)
def f69a (a : iL69_2) : oL69_2 := (a.1, R (byOf a.2.2.2.2.2.2 ++ blks ((a.1.toNat - a.2.2.2.2.2.2.length + 7) / 8) (ofS (a.2.1, a.2.2.1, a.2.2.2.1, a.2.2.2.2.1, a.2.2.2.2.2.1))))
theorem f69a_m (n : Nat) (s : S) (ps : List By) : f69a ((n : Int), w s.a, w s.b, w s.c, w s.d, w s.e, R ps) = ((n : Int), R (ps ++ blks ((n - ps.length + 7) / 8) s)) := by
  unfold f69a
  simp only [Int.toNat_natCast, byOf_R, ofS_wS', R_len]
theorem s69a : SdL69_2 (prt p69a f69a) := by
  refine of_iterL (step := fun l a => u69_2 sh0 _ _ l a.1 a.2.1 a.2.2.1 a.2.2.2.1 a.2.2.2.2.1 a.2.2.2.2.2.1 a.2.2.2.2.2.2 some) (fun l => okL69_2 _ _ l s76 s69b) (fun a => a.1.toNat - a.2.2.2.2.2.2.length) ?_
  rintro F _ ⟨n, s, ps, hn, hp, rfl⟩ ih
  rw [f69a_m]
  unfold u69_2
  simp only [sh0_eq, R_len, cond_dec]
  by_cases hlt : ps.length < n
  · rw [if_pos (by omega)]
    have e : prt p69b f69b ((n : Int), (0 : Int), w s.a, w s.b, w s.c, w s.d, w s.e, R ps) = some ((n : Int), w s.a, w s.b, w s.c, w s.d, w s.e, R (ps ++ blk s)) := by
      rw [prt_eq (by exact ⟨n, 0, s, ps, by omega, by omega, rfl⟩)]
      exact congrArg some (f69b_m n 0 s ps)
    have hF := ih ((n : Int), w (perm s).a, w (perm s).b, w (perm s).c, w (perm s).d, w (perm s).e, R (ps ++ blk s)) ⟨n, perm s, _, hn, by rw [List.length_append, blk_len]; omega, rfl⟩ (by simp only [Int.toNat_natCast, R_len, List.length_append, blk_len]; omega)
    rw [f69a_m] at hF
    rw [e, Option.bind_some]
    simp only [e74, Option.bind_some, wS, Option.bind_fun_some]
    rw [hF, List.length_append, blk_len, show (n - ps.length + 7) / 8 = (n - (ps.length + 8) + 7) / 8 + 1 by omega, blks, List.append_assoc]
  · rw [if_neg (by omega), show (n - ps.length + 7) / 8 = 0 by omega]
    simp [blks]

def p69 (a : i69) : Prop := isS (a.1, a.2.1, a.2.2.1, a.2.2.2.1, a.2.2.2.2.1) ∧ 0 ≤ a.2.2.2.2.2 ∧ a.2.2.2.2.2 ≤ 100000
def f69 (a : i69) : o69 := R (sqz a.2.2.2.2.2.toNat (ofS (a.1, a.2.1, a.2.2.1, a.2.2.2.1, a.2.2.2.2.1)))
theorem s69 : Sd69 (prt p69 f69) := by
  refine of_prt (ok69 _ s69a) ?_
  rintro ⟨x1, x2, x3, x4, x5, n⟩ ⟨hs, h0, hn⟩
  simp only at hs h0 hn
  obtain ⟨n, rfl⟩ := Int.eq_ofNat_of_zero_le h0
  obtain ⟨s, hs⟩ := ex_S hs
  simp only [wS, Prod.mk.injEq] at hs
  obtain ⟨rfl, rfl, rfl, rfl, rfl⟩ := hs
  unfold t69
  have e : prt p69a f69a ((n : Int), w s.a, w s.b, w s.c, w s.d, w s.e, ([] : Rows)) = some ((n : Int), R (blks ((n + 7) / 8) s)) := by
    rw [prt_eq (by exact ⟨n, s, [], by omega, by simp, rfl⟩)]
    exact congrArg some (f69a_m n s [])
  simp only [sh0_eq]
  rw [e, Option.bind_some]
  simp only [R_len, blks_len, cond_dec]
  rw [if_pos (by omega)]
  simp only [f69, Int.toNat_natCast, ofS_wS', Nat.sub_zero, List.drop_zero, R_take, sqz]
  rw [go_blks ((n + 7) / 8) n s (by omega)]
theorem e69 (s : S) (n : Nat) (h : n ≤ 100000) : prt p69 f69 (w s.a, w s.b, w s.c, w s.d, w s.e, (n : Int)) = some (R (sqz n s)) := by
  rw [prt_eq (by exact ⟨isS_wS s, by simp, by simp; omega⟩)]
  simp only [f69, Int.toNat_natCast, ofS_wS']

/-! ### Packs -/
def nI (bs : List By) : List Int := bs.map fun b => (b.toNat : Int)
theorem nI_nth (bs : List By) : ∀ i, nthI (nI bs) i = ((nb bs i).toNat : Int) := by
  induction bs with
  | nil => intro i; rfl
  | cons b r ih => intro i; cases i with
    | zero => rfl
    | succ i => exact ih i
theorem range_nb (bs : List By) : (List.range bs.length).map (fun i => ((nb bs i).toNat : Int)) = nI bs := by
  refine List.ext_getElem (by simp [nI]) fun i h1 h2 => ?_
  simp only [List.getElem_map, List.getElem_range, nI]
  rw [nb_get, List.getElem?_eq_getElem (by simpa [nI] using h2)]
  rfl
theorem colI_R {bs : List By} {n : Nat} (h : bs.length = n) : colI (R bs) n = nI bs := by
  subst h
  unfold colI
  simp only [cR]
  exact range_nb bs
theorem pkL_nI {bs : List By} {n : Nat} (h : bs.length = n) : pkL (nI bs) n = nI bs := by
  subst h
  unfold pkL
  simp only [nI_nth]
  exact range_nb bs
theorem colD_nI (bs : List By) : colD (mapD .u8 (nI bs)) = R bs := by
  unfold colD mapD nI R
  rw [List.map_map, List.map_map]
  rfl
theorem nI_inj {a b : List By} (h : nI a = nI b) : a = b := R_inj (by rw [← colD_nI, h, colD_nI])
theorem eqI_nI {a b : List By} {n : Nat} (ha : a.length = n) (hb : b.length = n) : eqI (nI a) (nI b) n = decide (a = b) := by
  have key : ∀ (l : List Nat) , (l.foldr (fun i acc => (nthI (nI a) i == nthI (nI b) i) && acc) true) = l.all fun i => nthI (nI a) i == nthI (nI b) i := by
    intro l
    induction l with
    | nil => rfl
    | cons x l ih => simp [ih]
  unfold eqI
  rw [key]
  by_cases h : a = b
  · subst h; simp
  · rw [decide_eq_false h]
    refine Bool.eq_false_iff.2 fun hc => h ?_
    simp only [List.all_eq_true, List.mem_range, beq_iff_eq, nI_nth] at hc
    refine List.ext_getElem (by omega) fun i h1 h2 => ?_
    have := hc i (by omega)
    rw [nb_get, nb_get, List.getElem?_eq_getElem h1, List.getElem?_eq_getElem h2] at this
    simp only [Option.getD_some] at this
    exact BitVec.eq_of_toNat_eq (by omega)
theorem zeroI (n : Nat) : (List.replicate n (0 : Int)) = nI (List.replicate n 0) := by simp [nI]

/-! ### Sum -/
def sum (d : W) (bs : List By) : List By := sqz 32 (absorb d bs)
theorem sum_len (d : W) (bs : List By) : (sum d bs).length = 32 := go_len _ _ _
def f47 (a : i47) : o47 := nI (sum (BitVec.ofInt 64 a.1) (byOf a.2))
theorem e68 (d : W) (bs : List By) (h : bs.length ≤ 5000) : prt isB f68 (w d, R bs) = some (wS (absorb d bs)) := by
  rw [prt_eq (by exact ⟨isW_w d, bs, rfl, h⟩)]
  simp only [f68, of_w, byOf_R]

theorem s47 : Sd47 (prt isB f47) := by
  refine of_prt (ok47 _ _ s68 s67) ?_
  rintro ⟨d, rows⟩ ⟨hd, bs, hbs, hb⟩
  simp only at hd hbs
  subst hbs
  obtain ⟨d, rfl⟩ := ex_w hd
  unfold t47
  rw [e68 d bs hb]
  simp only [sh0_eq, Option.bind_some, List.length_replicate, cond_dec, wS]
  rw [show ([DL.int .u8 (0 : Int)] : List DL) = bD 0 from rfl, R_rep, if_pos trivial, e67 _ _ (by simp), Option.bind_some]
  have hl : (sqz 32 (absorb d bs)).length = 32 := sum_len d bs
  simp only [List.length_replicate, R_len, hl]
  rw [if_pos trivial, if_pos trivial, colI_R hl, colD_nI, R_len, hl, if_pos rfl, colI_R hl]
  simp only [f47, of_w, byOf_R, sum]

def p50L (a : iL50_4) : Prop := ∃ (bs ts : List By) (i : Nat) (j : Rows), bs.length = 32 ∧ ts.length = 32 ∧ i ≤ 32 ∧ a = (R bs, (i : Int), j, R ts)
def f50L (a : iL50_4) : oL50_4 := (a.2.2.1, R ((byOf a.2.2.2).take a.2.1.toNat ++ (byOf a.1).drop a.2.1.toNat))
theorem f50L_m (bs ts : List By) (i : Nat) (j : Rows) : f50L (R bs, (i : Int), j, R ts) = (j, R (ts.take i ++ bs.drop i)) := by
  unfold f50L
  simp only [Int.toNat_natCast, byOf_R]
theorem nb_bD (bs : List By) (i : Nat) : ([DL.int .u8 (((nb bs i).toNat : Nat) : Int)] : List DL) = bD (nb bs i) := rfl
theorem s50L : SdL50_4 (prt p50L f50L) := by
  refine of_iterL (step := fun l a => u50_4 sh0 l a.1 a.2.1 a.2.2.1 a.2.2.2 some) okL50_4 (fun a => 32 - a.2.1.toNat) ?_
  rintro F _ ⟨bs, ts, i, j, hb, ht, hi, rfl⟩ ih
  rw [f50L_m]
  unfold u50_4
  simp only [sh0_eq, R_len, cond_dec]
  by_cases hlt : i < 32
  · have hw : IntKind.i64.wrap ((i : Int) + 1) = ((i + 1 : Nat) : Int) := by rw [wrap_i64 (by omega) (by omega)]; omega
    have hF := ih (R bs, ((i + 1 : Nat) : Int), j, R (ts.set i (nb bs i))) ⟨bs, _, i + 1, j, hb, by simpa using ht, by omega, rfl⟩ (by simp only [Int.toNat_natCast]; omega)
    rw [f50L_m, take_set _ _ _ (by omega)] at hF
    rw [if_pos (by omega), if_pos (by omega), if_pos (by omega), Int.toNat_natCast, if_pos (by omega), cR, nb_bD, R_set, hw, Option.bind_fun_some, hF]
    have : bs.drop i = nb bs i :: bs.drop (i + 1) := by
      rw [List.drop_eq_getElem_cons (by omega), nb_get, List.getElem?_eq_getElem (by omega)]
      rfl
    rw [this]
    simp
  · have : i = 32 := by omega
    subst this
    rw [if_neg (by omega), List.drop_of_length_le (by omega), List.take_of_length_le (by omega), List.append_nil]

theorem s50 : Sd50 (prt isB f47) := by
  refine of_prt (ok50 _ _ _ s70 s69 s50L) ?_
  rintro ⟨d, rows⟩ ⟨hd, bs, hbs, hb⟩
  simp only at hd hbs
  subst hbs
  obtain ⟨d, rfl⟩ := ex_w hd
  unfold t50
  rw [e68 d bs hb]
  simp only [sh0_eq, Option.bind_some, cond_dec, wS]
  have hl : (sqz 32 (absorb d bs)).length = 32 := sum_len d bs
  have h32 : prt p69 f69 (w (absorb d bs).a, w (absorb d bs).b, w (absorb d bs).c, w (absorb d bs).d, w (absorb d bs).e, (32 : Int)) = some (R (sqz 32 (absorb d bs))) := e69 (absorb d bs) 32 (by omega)
  rw [h32, Option.bind_some, show ([DL.int .u8 (0 : Int)] : List DL) = bD 0 from rfl, R_rep]
  have e : prt p50L f50L (R (sqz 32 (absorb d bs)), (0 : Int), R (List.replicate 32 0), R (List.replicate 32 0)) = some (R (List.replicate 32 0), R (sqz 32 (absorb d bs))) := by
    rw [prt_eq (by exact ⟨_, _, 0, _, hl, by simp, by omega, rfl⟩)]
    exact congrArg some (f50L_m _ _ 0 _)
  rw [e, Option.bind_some]
  simp only [R_len, hl, List.length_replicate]
  rw [if_pos trivial, if_pos trivial, colI_R hl, colD_nI, R_len, hl, if_pos rfl, colI_R hl]
  simp only [f47, of_w, byOf_R, sum]

end Go.Proofs.Dig

namespace Go.Proofs.Dig
open Go Go.Ev Go.Proofs.SmG

def is32 (a : List Int) : Prop := ∃ bs : List By, a = nI bs ∧ bs.length = 32
def bI (a : List Int) : List By := a.map fun n => BitVec.ofInt 8 n
theorem bI_nI (bs : List By) : bI (nI bs) = bs := by
  unfold bI nI
  rw [List.map_map]
  conv => rhs; rw [← List.map_id bs]
  refine List.map_congr_left fun b _ => ?_
  simp [BitVec.ofInt_natCast]
def zs : List By := List.replicate 32 0
theorem drop_nb (bs : List By) (i : Nat) (h : i < bs.length) : bs.drop i = nb bs i :: bs.drop (i + 1) := by
  rw [List.drop_eq_getElem_cons h, nb_get, List.getElem?_eq_getElem h]
  rfl
theorem e47 (d : W) (bs : List By) (h : bs.length ≤ 5000) : prt isB f47 (w d, R bs) = some (nI (sum d bs)) := by
  rw [prt_eq (by exact ⟨isW_w d, bs, rfl, h⟩)]
  simp only [f47, of_w, byOf_R]
theorem rep32 : (List.replicate 32 [DL.int .u8 (0 : Int)] : Rows) = R zs := R_rep 32 0
theorem zs_len : zs.length = 32 := rfl
/-! ### Bytes, Pair, Keyed -/
def p71L (a : iL71_3) : Prop := ∃ (bs ps : List By) (i : Nat), bs.length = 32 ∧ ps.length ≤ 1000 + i ∧ i ≤ 32 ∧ a = ((i : Int), R bs, R ps)
def f71L (a : iL71_3) : oL71_3 := R (byOf a.2.2 ++ (byOf a.2.1).drop a.1.toNat)
theorem f71L_m (bs ps : List By) (i : Nat) : f71L ((i : Int), R bs, R ps) = R (ps ++ bs.drop i) := by
  unfold f71L
  simp only [Int.toNat_natCast, byOf_R]
theorem s71L : SdL71_3 (prt p71L f71L) := by
  refine of_iterL (step := fun l a => u71_3 sh0 l a.1 a.2.1 a.2.2 some) okL71_3 (fun a => 32 - a.1.toNat) ?_
  rintro F _ ⟨bs, ps, i, hb, hp, hi, rfl⟩ ih
  rw [f71L_m]
  unfold u71_3
  simp only [sh0_eq, R_len, cond_dec]
  by_cases hlt : i < 32
  · have hw : IntKind.i64.wrap ((i : Int) + 1) = ((i + 1 : Nat) : Int) := by rw [wrap_i64 (by omega) (by omega)]; omega
    have hF := ih (((i + 1 : Nat) : Int), R bs, R (ps ++ [nb bs i])) ⟨bs, _, i + 1, hb, by simp; omega, by omega, rfl⟩ (by simp only [Int.toNat_natCast]; omega)
    rw [f71L_m] at hF
    rw [if_pos (by omega), if_pos (by omega), if_pos (by omega), Int.toNat_natCast, cR, List.length_singleton, room5 (by omega), cond_true, show ([[DL.int .u8 (((nb bs i).toNat : Nat) : Int)]] : Rows) = R [nb bs i] from rfl, R_app, hw, Option.bind_fun_some, hF, drop_nb bs i (by omega)]
    simp
  · have : i = 32 := by omega
    subst this
    rw [if_neg (by omega), List.drop_of_length_le (by omega), List.append_nil]
def f71 (a : i71) : o71 := R (bI a)
theorem s71 : Sd71 (prt is32 f71) := by
  refine of_prt (ok71 _ s71L) ?_
  rintro _ ⟨bs, rfl, hb⟩
  unfold t71
  simp only [sh0_eq, pkL_nI hb, colD_nI]
  have e : prt p71L f71L ((0 : Int), R bs, ([] : Rows)) = some (R bs) := by
    rw [prt_eq (by exact ⟨bs, [], 0, hb, by simp, by omega, rfl⟩)]
    exact congrArg some (f71L_m bs [] 0)
  rw [e, Option.bind_some]
  simp only [f71, bI_nI]
theorem e71 (bs : List By) (h : bs.length = 32) : prt is32 f71 (nI bs) = some (R bs) := by
  rw [prt_eq (by exact ⟨bs, rfl, h⟩)]
  simp only [f71, bI_nI]

def p65 (a : i65) : Prop := isW a.1 ∧ is32 a.2.1 ∧ is32 a.2.2
def f65 (a : i65) : o65 := nI (sum (BitVec.ofInt 64 a.1) (bI a.2.1 ++ bI a.2.2))
theorem s65 : Sd65 (prt p65 f65) := by
  refine of_prt (ok65 _ s47) ?_
  rintro ⟨d, x, y⟩ ⟨hd, ⟨a, hx, ha⟩, ⟨b, hy, hb⟩⟩
  simp only at hd hx hy
  subst hx; subst hy
  obtain ⟨d, rfl⟩ := ex_w hd
  unfold t65
  have r64 : (List.replicate 64 [DL.int .u8 (0 : Int)] : Rows) = R (List.replicate 64 0) := R_rep 64 0
  simp only [sh0_eq, pkL_nI ha, pkL_nI hb, colD_nI, rep32, r64, R_len, zs_len, ha, hb, List.length_replicate, Nat.min_self, R_take, R_drop, List.nil_append, R_app, Nat.zero_add]
  have e1 : a.take 32 ++ List.drop 32 (List.replicate 64 (0 : By)) = a ++ List.replicate 32 0 := by
    rw [List.take_of_length_le (by omega), List.drop_replicate]
  have e2 : List.take 32 (a ++ List.replicate 32 (0 : By)) ++ b.take 32 ++ List.drop (32 + 32) (a ++ List.replicate 32 (0 : By)) = a ++ b := by
    rw [List.take_append_of_le_length (by omega), List.take_of_length_le (by omega), List.take_of_length_le (by omega), List.drop_of_length_le (by simp; omega), List.append_nil]
  have hl : (sum d (a ++ b)).length = 32 := sum_len _ _
  simp only [e1, e2, List.length_append, ha, hb, List.length_replicate, e47 d (a ++ b) (by simp; omega), Option.bind_some, pkL_nI hl, colD_nI, R_len, hl, colI_R hl]
  simp only [f65, of_w, bI_nI]
  rfl
theorem s66 : Sd66 (prt p65 f65) := by
  refine of_prt (ok66 _ _ s71 s50) ?_
  rintro ⟨d, x, y⟩ ⟨hd, ⟨a, hx, ha⟩, ⟨b, hy, hb⟩⟩
  simp only at hd hx hy
  subst hx; subst hy
  obtain ⟨d, rfl⟩ := ex_w hd
  unfold t66
  have hl : (sum d (a ++ b)).length = 32 := sum_len _ _
  simp only [sh0_eq, pkL_nI ha, pkL_nI hb, colD_nI, rep32, R_len, zs_len, ha, hb, colI_R ha, colI_R hb, e71 a ha, e71 b hb, Option.bind_some, R_app, room5 (n := 32 + 32) (by omega), e47 d (a ++ b) (by simp; omega), pkL_nI hl, hl, colI_R hl]
  simp only [f65, of_w, bI_nI]
  rfl

def p61 (a : i61) : Prop := isW a.1 ∧ is32 a.2.1 ∧ ∃ bs : List By, a.2.2 = R bs ∧ bs.length ≤ 900
def f61 (a : i61) : o61 := nI (sum (BitVec.ofInt 64 a.1) (bI a.2.1 ++ byOf a.2.2))
theorem s61 : Sd61 (prt p61 f61) := by
  refine of_prt (ok61 _ s47) ?_
  rintro ⟨d, x, y⟩ ⟨hd, ⟨a, hx, ha⟩, ⟨b, hy, hb⟩⟩
  simp only at hd hx hy
  subst hx; subst hy
  obtain ⟨d, rfl⟩ := ex_w hd
  unfold t61
  have hl : (sum d (a ++ b)).length = 32 := sum_len _ _
  have hw : IntKind.i64.wrap ((32 : Int) + (b.length : Int)) = ((32 + b.length : Nat) : Int) := by rw [wrap_i64 (by omega) (by omega)]; omega
  simp only [sh0_eq, pkL_nI ha, colD_nI, rep32, R_len, zs_len, ha, hw, Int.toNat_natCast, room5 (n := 32 + b.length) (by omega), List.length_nil, Nat.zero_add, List.nil_append, room5 (n := 32) (by omega), R_app, e47 d (a ++ b) (by simp; omega), Option.bind_some, pkL_nI hl, hl, colI_R hl]
  rw [decide_eq_true (show (0 : Int) ≤ 0 ∧ (0 : Int) ≤ ((32 + b.length : Nat) : Int) by omega)]
  simp only [f61, of_w, bI_nI, byOf_R]
  rfl
theorem s63 : Sd63 (prt p61 f61) := by
  refine of_prt (ok63 _ _ s71 s50) ?_
  rintro ⟨d, x, y⟩ ⟨hd, ⟨a, hx, ha⟩, ⟨b, hy, hb⟩⟩
  simp only at hd hx hy
  subst hx; subst hy
  obtain ⟨d, rfl⟩ := ex_w hd
  unfold t63
  have hl : (sum d (a ++ b)).length = 32 := sum_len _ _
  simp only [sh0_eq, pkL_nI ha, colD_nI, rep32, R_len, zs_len, ha, colI_R ha, e71 a ha, Option.bind_some, R_app, room5 (n := 32 + b.length) (by omega), e47 d (a ++ b) (by simp; omega), pkL_nI hl, hl, colI_R hl]
  simp only [f61, of_w, bI_nI, byOf_R]
  rfl

end Go.Proofs.Dig

namespace Go.Proofs.Dig
open Go Go.Ev Go.Proofs.SmG

theorem rwf_R {P : Program} {S : Nat → Prop} {V : TypeId → Nat → Prop} : ∀ {xs : List (List DL)}, RWf P S V [.int .u8] xs → ∃ bs : List By, xs = R bs := by
  intro xs
  induction xs with
  | nil => intro _; exact ⟨[], rfl⟩
  | cons x xs ih =>
    intro h
    obtain ⟨bs, hbs⟩ := ih fun y hy => h y (List.mem_cons_of_mem _ hy)
    obtain ⟨hl, hx⟩ := h x (List.mem_cons_self ..)
    match x, hl with
    | [y], _ =>
      obtain ⟨n, rfl, h0, h1⟩ := (hx 0 _ y rfl rfl).int_inv
      have h0' : 0 ≤ n := h0
      have h1' : n ≤ 255 := h1
      refine ⟨BitVec.ofInt 8 n :: bs, ?_⟩
      rw [hbs]
      obtain ⟨k, rfl⟩ := Int.eq_ofNat_of_zero_le h0'
      show _ = bD _ :: R bs
      unfold bD
      rw [BitVec.ofInt_natCast, BitVec.toNat_ofNat, Nat.mod_eq_of_lt (by omega)]
theorem pack_nI : ∀ (l : List Int), (∀ n ∈ l, 0 ≤ n ∧ n ≤ 255) → ∃ bs : List By, l = nI bs ∧ bs.length = l.length := by
  intro l
  induction l with
  | nil => intro _; exact ⟨[], rfl, rfl⟩
  | cons n l ih =>
    intro h
    obtain ⟨bs, hbs, hl⟩ := ih fun y hy => h y (List.mem_cons_of_mem _ hy)
    obtain ⟨h0, h1⟩ := h n (List.mem_cons_self ..)
    obtain ⟨k, rfl⟩ := Int.eq_ofNat_of_zero_le h0
    refine ⟨BitVec.ofNat 8 k :: bs, ?_, by simp [hl]⟩
    rw [hbs]
    show _ = ((BitVec.ofNat 8 k).toNat : Int) :: nI bs
    rw [BitVec.toNat_ofNat, Nat.mod_eq_of_lt (by omega)]
theorem u64W {n : Int} (h : IntKind.u64.min ≤ n ∧ n ≤ IntKind.u64.max) : isW n := by
  have h1 : IntKind.u64.min = 0 := by decide
  have h2 : IntKind.u64.max = 18446744073709551615 := by decide
  unfold isW; omega
theorem u8I {n : Int} (h : IntKind.u8.min ≤ n ∧ n ≤ IntKind.u8.max) : 0 ≤ n ∧ n ≤ 255 := by
  have h1 : IntKind.u8.min = 0 := by decide
  have h2 : IntKind.u8.max = 255 := by decide
  omega

end Go.Proofs.Dig
