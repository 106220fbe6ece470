/- Leases: plain laws. -/
import Derived.Test.YtmhdaiichfphjaaE3
import Derived.Test.YtmhdaiichfphjaaG
set_option linter.unusedVariables false
set_option linter.unusedSimpArgs false

namespace Go.Proofs.Lea
open Go Go.Ev

abbrev Rows := List (List DL)
structure Le where
  n : Int
  h : Int
  t : Int
  u : Int
  deriving DecidableEq, Inhabited

def z0 : Le := ⟨0, 0, 0, 0⟩
def nth (ls : List Le) (i : Nat) : Le := ls.getD i z0
theorem nth_lt {ls : List Le} {i : Nat} (h : i < ls.length) : nth ls i = ls[i] := by simp [nth, h]
theorem nth_ge {ls : List Le} {i : Nat} (h : ls.length ≤ i) : nth ls i = z0 := by simp [nth, h]
theorem nth_cons_zero (l : Le) (r : List Le) : nth (l :: r) 0 = l := rfl
theorem nth_cons_succ (l : Le) (r : List Le) (i : Nat) : nth (l :: r) (i + 1) = nth r i := rfl
def encL (l : Le) : List DL := [.int .i64 l.n, .int .i64 l.h, .int .i64 l.t, .int .i64 l.u]
def decL (x : List DL) : Le := ⟨(x.getD 0 (.bool false)).getI, (x.getD 1 (.bool false)).getI, (x.getD 2 (.bool false)).getI, (x.getD 3 (.bool false)).getI⟩
def E (ls : List Le) : Rows := ls.map encL
def D (rows : Rows) : List Le := rows.map decL

@[simp] theorem dec_enc (l : Le) : decL (encL l) = l := rfl
@[simp] theorem D_E (ls : List Le) : D (E ls) = ls := by
  unfold D E; rw [List.map_map]
  have : decL ∘ encL = id := funext dec_enc
  rw [this, List.map_id]
@[simp] theorem E_len (ls : List Le) : (E ls).length = ls.length := by simp [E]
theorem E_app (a b : List Le) : E a ++ E b = E (a ++ b) := by simp [E]
theorem E_get (ls : List Le) (i : Nat) : (E ls).getD i [] = if i < ls.length then encL (nth ls i) else [] := by
  unfold E
  by_cases h : i < ls.length
  · simp [h, nth]
  · simp [h]
theorem c0 (ls : List Le) (i : Nat) : (cellAt (E ls) i 0).getI = (nth ls i).n := by
  unfold cellAt; rw [E_get]; by_cases h : i < ls.length
  · rw [if_pos h]; rfl
  · rw [if_neg h, nth_ge (by omega)]; rfl
theorem c1 (ls : List Le) (i : Nat) : (cellAt (E ls) i 1).getI = (nth ls i).h := by
  unfold cellAt; rw [E_get]; by_cases h : i < ls.length
  · rw [if_pos h]; rfl
  · rw [if_neg h, nth_ge (by omega)]; rfl
theorem c2 (ls : List Le) (i : Nat) : (cellAt (E ls) i 2).getI = (nth ls i).t := by
  unfold cellAt; rw [E_get]; by_cases h : i < ls.length
  · rw [if_pos h]; rfl
  · rw [if_neg h, nth_ge (by omega)]; rfl
theorem c3 (ls : List Le) (i : Nat) : (cellAt (E ls) i 3).getI = (nth ls i).u := by
  unfold cellAt; rw [E_get]; by_cases h : i < ls.length
  · rw [if_pos h]; rfl
  · rw [if_neg h, nth_ge (by omega)]; rfl

theorem drop_cons {ls : List Le} {k : Nat} (h : k < ls.length) : ls.drop k = nth ls k :: ls.drop (k + 1) := by
  rw [List.drop_eq_getElem_cons h, nth_lt h]

/-! ### Valid tables -/

def T40 : Int := 1099511627776

def chk (nx : Int) : Option Int → List Le → Bool
  | _, [] => true
  | p, l :: r => decide (1 ≤ l.t) && decide (l.t < nx) && (match p with | some q => decide (q < l.n) | none => true) && chk nx (some l.n) r

def prv (k : Nat) (ls : List Le) : Option Int := if k = 0 then none else some (nth ls (k - 1)).n

def validB (nx : Int) (ls : List Le) : Bool := decide (1 ≤ nx) && decide (nx ≤ T40) && decide (ls.length ≤ 64) && chk nx none ls

def Sorted (ls : List Le) : Prop := ls.Pairwise fun a b => a.n < b.n

theorem chk_spec {nx : Int} : ∀ {ls : List Le} {p : Option Int}, chk nx p ls = true ↔ (∀ l ∈ ls, 1 ≤ l.t ∧ l.t < nx) ∧ (∀ q, p = some q → ∀ l ∈ ls, q < l.n) ∧ Sorted ls := by
  intro ls
  induction ls with
  | nil => intro p; simp [chk, Sorted]
  | cons l r ih =>
    intro p
    unfold chk Sorted
    simp only [Bool.and_eq_true, decide_eq_true_eq, ih, List.mem_cons, List.pairwise_cons, Option.some.injEq, forall_eq', forall_eq_or_imp]
    constructor
    · rintro ⟨⟨⟨h1, h2⟩, h3⟩, h4, h5, h6⟩
      refine ⟨⟨⟨h1, h2⟩, h4⟩, fun q hq => ?_, h5, h6⟩
      subst hq
      simp only [decide_eq_true_eq] at h3
      exact ⟨h3, fun a ha => by have := h5 a ha; omega⟩
    · rintro ⟨⟨⟨h1, h2⟩, h4⟩, h3, h5, h6⟩
      refine ⟨⟨⟨h1, h2⟩, ?_⟩, h4, h5, h6⟩
      cases p with
      | none => rfl
      | some q => simpa using (h3 q rfl).1

theorem valid_spec {nx : Int} {ls : List Le} : validB nx ls = true ↔ 1 ≤ nx ∧ nx ≤ T40 ∧ ls.length ≤ 64 ∧ (∀ l ∈ ls, 1 ≤ l.t ∧ l.t < nx) ∧ Sorted ls := by
  unfold validB
  simp only [Bool.and_eq_true, decide_eq_true_eq, chk_spec]
  constructor
  · rintro ⟨⟨⟨h1, h2⟩, h3⟩, h4, _, h5⟩; exact ⟨h1, h2, h3, h4, h5⟩
  · rintro ⟨h1, h2, h3, h4, h5⟩; exact ⟨⟨⟨h1, h2⟩, h3⟩, h4, by simp, h5⟩

/-! ### Places -/

def cnt (name : Int) (ls : List Le) : Nat := (ls.takeWhile fun l => decide (l.n < name)).length

theorem cnt_le (name : Int) (ls : List Le) : cnt name ls ≤ ls.length := by
  unfold cnt
  induction ls with
  | nil => simp
  | cons l r ih =>
    rw [List.takeWhile_cons]
    split
    · simp; exact ih
    · simp

theorem cnt_lo {name : Int} : ∀ {ls : List Le} {i : Nat}, i < cnt name ls → (nth ls i).n < name := by
  intro ls
  induction ls with
  | nil => intro i h; simp [cnt] at h
  | cons l r ih =>
    intro i h
    unfold cnt at h
    rw [List.takeWhile_cons] at h
    split at h
    · rename_i hl
      cases i with
      | zero => simpa [nth_cons_zero] using hl
      | succ i => rw [nth_cons_succ]; exact ih (by simpa [cnt] using h)
    · simp at h

theorem cnt_at {name : Int} : ∀ {ls : List Le}, cnt name ls < ls.length → name ≤ (nth ls (cnt name ls)).n := by
  intro ls
  induction ls with
  | nil => intro h; simp at h
  | cons l r ih =>
    intro h
    unfold cnt at h ⊢
    rw [List.takeWhile_cons] at h ⊢
    split
    · rename_i hl
      rw [if_pos hl] at h
      simp only [List.length_cons, nth_cons_succ]
      exact ih (by simpa [cnt] using h)
    · rename_i hl
      simpa [nth_cons_zero] using hl

theorem sorted_get {ls : List Le} (h : Sorted ls) {i j : Nat} (hij : i < j) (hj : j < ls.length) : (nth ls i).n < (nth ls j).n := by
  have := List.pairwise_iff_getElem.1 h i j (by omega) hj hij
  rw [nth_lt hj, nth_lt (by omega)]; exact this

theorem cnt_hi {name : Int} {ls : List Le} (h : Sorted ls) {i : Nat} (hi : cnt name ls ≤ i) (hl : i < ls.length) : name ≤ (nth ls i).n := by
  have h1 := cnt_at (name := name) (ls := ls) (by omega)
  rcases Nat.lt_or_eq_of_le hi with h2 | h2
  · have := sorted_get h h2 hl; omega
  · rw [← h2]; exact h1

def has (name : Int) (ls : List Le) : Bool := decide (cnt name ls < ls.length) && decide ((nth ls (cnt name ls)).n = name)

theorem has_spec {name : Int} {ls : List Le} : has name ls = true ↔ cnt name ls < ls.length ∧ (nth ls (cnt name ls)).n = name := by
  unfold has; simp

/-- The first place of a name from a place on, or -1. -/
def atFrom (name : Int) (k : Nat) (ls : List Le) : Int :=
  match (ls.drop k).findIdx? (fun l => l.n == name) with
  | some i => ((k + i : Nat) : Int)
  | none => -1

def atI (name : Int) (ls : List Le) : Int := atFrom name 0 ls

theorem atI_has {name : Int} {ls : List Le} (h : Sorted ls) (hh : has name ls = true) : atI name ls = cnt name ls := by
  obtain ⟨h1, h2⟩ := has_spec.1 hh
  unfold atI atFrom
  have : ls.findIdx? (fun l => l.n == name) = some (cnt name ls) := by
    rw [List.findIdx?_eq_some_iff_getElem]
    refine ⟨h1, by rw [nth_lt h1] at h2; simpa using h2, fun j hj => ?_⟩
    have := cnt_lo (name := name) (ls := ls) (i := j) hj
    have hj2 : j < ls.length := by omega
    rw [nth_lt hj2] at this
    simp; omega
  simp [this]

theorem atI_not {name : Int} {ls : List Le} (h : Sorted ls) (hh : has name ls = false) : atI name ls = -1 := by
  unfold atI atFrom
  have : ls.findIdx? (fun l => l.n == name) = none := by
    rw [List.findIdx?_eq_none_iff]
    intro l hl
    obtain ⟨i, hi, rfl⟩ := List.getElem_of_mem hl
    have e : ls[i] = nth ls i := (nth_lt hi).symm
    rw [e]
    rcases Nat.lt_or_ge i (cnt name ls) with h1 | h1
    · have := cnt_lo (name := name) (ls := ls) h1; exact beq_false_of_ne (by omega)
    · have h2 := cnt_hi (name := name) h h1 hi
      rcases Nat.lt_or_eq_of_le h1 with h3 | h3
      · have h4 := cnt_at (name := name) (ls := ls) (by omega)
        have h5 := sorted_get h h3 hi
        exact beq_false_of_ne (by omega)
      · have : (nth ls (cnt name ls)).n ≠ name := fun e => by
          rw [has_spec.2 ⟨by omega, e⟩] at hh; exact absurd hh (by simp)
        rw [h3] at this
        exact beq_false_of_ne this
  simp [this]

/-- A lease in its place. -/
def put (l : Le) (ls : List Le) : List Le := ls.take (cnt l.n ls) ++ l :: ls.drop (cnt l.n ls + if has l.n ls then 1 else 0)

/-- The leases of other names. -/
def others (name : Int) (ls : List Le) : List Le := ls.filter fun l => l.n != name

theorem others_sorted {name : Int} {ls : List Le} (h : Sorted ls) : others name ls = ls.take (cnt name ls) ++ ls.drop (cnt name ls + if has name ls then 1 else 0) := by
  have e : ls = ls.take (cnt name ls) ++ ls.drop (cnt name ls) := (List.take_append_drop _ _).symm
  have ha : (ls.take (cnt name ls)).filter (fun l => l.n != name) = ls.take (cnt name ls) := by
    rw [List.filter_eq_self]
    intro l hl
    obtain ⟨i, hi, rfl⟩ := List.getElem_of_mem hl
    rw [List.length_take] at hi
    have := cnt_lo (name := name) (ls := ls) (i := i) (by omega)
    have hi2 : i < ls.length := by omega
    rw [nth_lt hi2] at this
    simp; omega
  have hb : ∀ m, cnt name ls ≤ m → (cnt name ls < m ∨ has name ls = false) → (ls.drop m).filter (fun l => l.n != name) = ls.drop m := by
    intro m hm hm2
    rw [List.filter_eq_self]
    intro l hl
    obtain ⟨i, hi, rfl⟩ := List.getElem_of_mem hl
    rw [List.length_drop] at hi
    rw [List.getElem_drop]
    have hi2 : m + i < ls.length := by omega
    have h1 := cnt_hi (name := name) h (i := m + i) (by omega) hi2
    have e2 : ls[m + i] = nth ls (m + i) := (nth_lt hi2).symm
    rw [e2]
    simp only [bne_iff_ne, ne_eq]
    intro e3
    rcases Nat.lt_or_ge (cnt name ls) (m + i) with h3 | h3
    · have h4 := cnt_at (name := name) (ls := ls) (by omega)
      have h5 := sorted_get h h3 hi2
      omega
    · have h6 : m + i = cnt name ls := by omega
      rcases hm2 with h7 | h7
      · omega
      · rw [h6] at e3
        rw [has_spec.2 ⟨by omega, e3⟩] at h7; exact absurd h7 (by simp)
  unfold others
  cases hh : has name ls with
  | true =>
    obtain ⟨h1, h2⟩ := has_spec.1 hh
    conv => lhs; rw [e, drop_cons h1]
    rw [List.filter_append, ha, List.filter_cons, hb _ (Nat.le_succ _) (.inl (Nat.lt_succ_self _)), h2]
    simp
  | false =>
    conv => lhs; rw [e]
    rw [List.filter_append, ha, hb _ (Nat.le_refl _) (.inr hh)]
    simp

end Go.Proofs.Lea

namespace Go.Proofs.Lea
open Go Go.Ev Go.Proofs.LeG

def isE (rows : Rows) : Prop := ∃ ls, rows = E ls ∧ ls.length ≤ 9223372036854775807

theorem room38 {n : Nat} (h : n ≤ 1000) : roomE Try.prog 38 n = true := by
  have h1 : rowOk Try.prog 38 = true := by kernel_rfl
  have h2 : Try.prog.bytesOf 38 = 32 := by kernel_rfl
  unfold roomE
  rw [h1, h2]
  simp; omega

/-! 16: Valid -/

def f16L (a : iL16_4) : oL16_4 := if chk a.2.1 (prv a.1.toNat (D a.2.2)) ((D a.2.2).drop a.1.toNat) then .inr () else .inl false
def p16L (a : iL16_4) : Prop := isE a.2.2 ∧ 0 ≤ a.1 ∧ a.1 ≤ a.2.2.length

theorem s16L : SdL16_4 (prt p16L f16L) := by
  refine of_iterL (step := fun l a => u16_4 sh0 l a.1 a.2.1 a.2.2 some) okL16_4 (fun a => a.2.2.length - a.1.toNat) ?_
  rintro F ⟨i, nx, rows⟩ ⟨⟨ls, rfl, hl⟩, h0, hi⟩ ih
  obtain ⟨k, rfl⟩ := Int.eq_ofNat_of_zero_le h0
  simp only [E_len] at hi ih
  have hk : k ≤ ls.length := by omega
  simp only [u16_4, sh0, cond_dec, E_len, Int.toNat_natCast, c0, c2, f16L, D_E]
  by_cases hlt : k < ls.length
  · rw [if_pos (by omega), if_pos (by omega), drop_cons hlt]
    have nxt : prv (k + 1) ls = some (nth ls k).n := by simp [prv]
    have hF := ih ((k : Int) + 1, nx, E ls) ⟨⟨ls, rfl, hl⟩, by omega, by simp; omega⟩ (by simp; omega)
    have hw : IntKind.i64.wrap ((k : Int) + 1) = (k : Int) + 1 := wrap_i64 (by omega) (by omega)
    have e1 : ((k : Int) + 1).toNat = k + 1 := by omega
    simp only [f16L, D_E, e1, nxt] at hF
    rw [hw]
    simp only [chk]
    by_cases h1 : (nth ls k).t < 1
    · rw [if_pos h1]; simp [show ¬ 1 ≤ (nth ls k).t by omega]
    · rw [if_neg h1]
      by_cases h2 : (nth ls k).t ≥ nx
      · rw [if_pos h2]; simp [show ¬ (nth ls k).t < nx by omega]
      · rw [if_neg h2]
        by_cases h3 : (k : Int) > 0
        · have hw2 : IntKind.i64.wrap ((k : Int) - 1) = (k : Int) - 1 := wrap_i64 (by omega) (by omega)
          have e2 : ((k : Int) - 1).toNat = k - 1 := by omega
          rw [if_pos h3, hw2, if_pos (by omega), e2]
          have hp : prv k ls = some (nth ls (k - 1)).n := by unfold prv; rw [if_neg (by omega)]
          rw [hp]
          by_cases h4 : (nth ls (k - 1)).n ≥ (nth ls k).n
          · rw [if_pos h4]; simp [show ¬ (nth ls (k - 1)).n < (nth ls k).n by omega]
          · rw [if_neg h4, hF]
            simp [show 1 ≤ (nth ls k).t by omega, show (nth ls k).t < nx by omega, show (nth ls (k - 1)).n < (nth ls k).n by omega]
        · rw [if_neg h3, hF]
          have hp : prv k ls = none := by unfold prv; rw [if_pos (by omega)]
          rw [hp]
          simp [show 1 ≤ (nth ls k).t by omega, show (nth ls k).t < nx by omega]
  · rw [if_neg (by omega), List.drop_of_length_le (by omega)]
    simp [chk]

def f16 (a : i16) : o16 := validB a.1 (D a.2)
def p16 (a : i16) : Prop := isE a.2
theorem s16 : Sd16 (prt p16 f16) := by
  refine of_prt (ok16 _ s16L) ?_
  rintro ⟨nx, rows⟩ ⟨ls, rfl, hl⟩
  simp only [t16, sh0, cond_dec, E_len, f16, validB, D_E]
  by_cases h1 : nx < 1
  · rw [if_pos h1]; simp [show ¬ 1 ≤ nx by omega]
  · by_cases h2 : nx > 1099511627776
    · rw [if_neg h1, if_pos h2]; simp [T40, show ¬ nx ≤ 1099511627776 by omega]
    · by_cases h3 : (ls.length : Int) > 64
      · rw [if_neg h1, if_neg h2, if_pos h3]; simp [show ¬ ls.length ≤ 64 by omega]
      · rw [if_neg h1, if_neg h2, if_neg h3, prt_eq (by refine ⟨⟨ls, rfl, hl⟩, ?_, ?_⟩ <;> simp)]
        have hp : prv 0 ls = none := rfl
        simp only [f16L, D_E, Option.bind_some, Int.toNat_zero, List.drop_zero, hp]
        cases hc : chk nx none ls with
        | true => simp [two, T40, show 1 ≤ nx by omega, show nx ≤ 1099511627776 by omega, show ls.length ≤ 64 by omega]
        | false => simp [two]

/-! 24: timely -/
def timelyB (now dur : Int) : Bool := decide (-T40 ≤ now) && decide (now ≤ T40) && decide (1 ≤ dur) && decide (dur ≤ T40)
def f24 (a : i24) : o24 := timelyB a.1 a.2
theorem s24 : Sd24 (tot f24) := by
  refine of_tot ok24 ?_
  rintro ⟨now, dur⟩
  simp only [t24, cond_dec, f24, timelyB, T40]
  by_cases h1 : now ≥ -1099511627776
  · by_cases h2 : now ≤ 1099511627776
    · by_cases h3 : dur ≥ 1
      · rw [if_pos h1, if_pos h2, if_pos h3]; by_cases h4 : dur ≤ 1099511627776 <;> simp [h1, h2, h3, h4]
      · rw [if_pos h1, if_pos h2, if_neg h3]; simp [show ¬ 1 ≤ dur by omega]
    · rw [if_pos h1, if_neg h2]; simp [h2]
  · rw [if_neg h1]; simp [show ¬ -1099511627776 ≤ now by omega]

/-! 34, 33, 25: search -/
def f34 (a : i34) : o34 := (decide ((nth (D a.2.2.1) a.1.toNat).n ≥ a.2.2.2), a.2.1, a.2.2.1, a.2.2.2)
def p34 (a : i34) : Prop := isE a.2.2.1 ∧ 0 ≤ a.1 ∧ a.1 < a.2.2.1.length
theorem s34 : Sd34 (prt p34 f34) := by
  refine of_prt ok34 ?_
  rintro ⟨i, nx, rows, name⟩ ⟨⟨ls, rfl, hl⟩, h0, hi⟩
  simp only at h0 hi
  simp only [t34, sh0, cond_dec, f34, D_E, c0]
  rw [if_pos ⟨h0, hi⟩]

def f33L (a : iL33_2) : oL33_2 := (((cnt a.2.2.2.2 (D a.2.2.2.1) : Nat) : Int), a.2.2.1, a.2.2.2.1, a.2.2.2.2)
def p33L (a : iL33_2) : Prop := ∃ ls, a.2.2.2.1 = E ls ∧ ls.length ≤ 1000 ∧ Sorted ls ∧ 0 ≤ a.1 ∧ a.1 ≤ cnt a.2.2.2.2 ls ∧ (cnt a.2.2.2.2 ls : Int) ≤ a.2.1 ∧ a.2.1 ≤ ls.length
theorem s33L : SdL33_2 (prt p33L f33L) := by
  refine of_iterL (step := fun l a => u33_2 sh0 (prt p34 f34) l a.1 a.2.1 a.2.2.1 a.2.2.2.1 a.2.2.2.2 some) (fun l hl => okL33_2 _ l s34 hl) (fun a => a.2.1.toNat - a.1.toNat) ?_
  rintro F ⟨i, j, nx, rows, name⟩ ⟨ls, rfl, hl, hs, h0, h1, h2, h3⟩ ih
  simp only at h0 h1 h2 h3
  simp only [u33_2, sh0, cond_dec, f33L, D_E]
  by_cases hij : i < j
  · have hw1 : IntKind.i64.wrap (i + j) = i + j := wrap_i64 (by omega) (by omega)
    have hw2 : IntKind.u64.wrap (i + j) = i + j := by simp [IntKind.wrap, IntKind.bits, IntKind.signed]; omega
    have hd : Int.fdiv (i + j) 2 = (i + j) / 2 := by rw [Int.fdiv_eq_ediv_of_nonneg _ (by omega)]
    have hw3 : IntKind.i64.wrap ((i + j) / 2) = (i + j) / 2 := wrap_i64 (by omega) (by omega)
    rw [if_pos hij, hw1, hw2, hd, hw3, prt_eq (by exact ⟨⟨ls, rfl, by omega⟩, by simp only; omega, by simp only [E_len]; omega⟩)]
    simp only [f34, D_E, Option.bind_some]
    have hw4 : IntKind.i64.wrap ((i + j) / 2 + 1) = (i + j) / 2 + 1 := wrap_i64 (by omega) (by omega)
    rw [hw4]
    by_cases hc : (nth ls ((i + j) / 2).toNat).n ≥ name
    · have hle : cnt name ls ≤ ((i + j) / 2).toNat := by
        rcases Nat.lt_or_ge ((i + j) / 2).toNat (cnt name ls) with h | h
        · have := cnt_lo h; omega
        · exact h
      simp only [hc, decide_true, Bool.not_true, cond_false]
      have hF := ih (i, (i + j) / 2, nx, E ls, name) ⟨ls, rfl, hl, hs, h0, h1, by simp only; omega, by simp only; omega⟩ (by simp only; omega)
      rw [hF]
      simp [f33L]
    · have hlt : ((i + j) / 2).toNat < cnt name ls := by
        rcases Nat.lt_or_ge ((i + j) / 2).toNat (cnt name ls) with h | h
        · exact h
        · have := cnt_hi (name := name) hs h (by omega); omega
      simp only [hc, decide_false, Bool.not_false, cond_true]
      have hF := ih ((i + j) / 2 + 1, j, nx, E ls, name) ⟨ls, rfl, hl, hs, by simp only; omega, by simp only; omega, h2, h3⟩ (by simp only; omega)
      rw [hF]
      simp [f33L]
  · rw [if_neg hij]
    have : i = cnt name ls := by omega
    rw [this]

def f33 (a : i33) : o33 := (((cnt a.2.2.2 (D a.2.2.1) : Nat) : Int), a.2.1, a.2.2.1, a.2.2.2)
def p33 (a : i33) : Prop := ∃ ls, a.2.2.1 = E ls ∧ ls.length ≤ 1000 ∧ Sorted ls ∧ a.1 = ls.length
theorem s33 : Sd33 (prt p33 f33) := by
  refine of_prt (ok33 _ s33L) ?_
  rintro ⟨n, nx, rows, name⟩ ⟨ls, rfl, hl, hs, hn⟩
  simp only at hn
  subst hn
  have := cnt_le name ls
  simp only [t33]
  rw [prt_eq (by exact ⟨ls, rfl, hl, hs, by simp only; omega, by simp only; omega, by simp only; omega, by simp only; omega⟩)]
  simp [f33L, f33]

def f25 (a : i25) : o25 := (((cnt a.2.2 (D a.2.1) : Nat) : Int), has a.2.2 (D a.2.1))
def p25 (a : i25) : Prop := ∃ ls, a.2.1 = E ls ∧ ls.length ≤ 1000 ∧ Sorted ls
theorem s25 : Sd25 (prt p25 f25) := by
  refine of_prt (ok25 _ s33) ?_
  rintro ⟨nx, rows, name⟩ ⟨ls, rfl, hl, hs⟩
  simp only [t25, sh0, cond_dec]
  rw [prt_eq (by exact ⟨ls, rfl, hl, hs, by simp⟩)]
  simp only [f33, Option.bind_some, D_E, E_len, f25, c0, Int.toNat_natCast]
  by_cases h : cnt name ls < ls.length
  · rw [if_pos (by omega), if_pos (by omega)]
    simp only [has, h, decide_true, Bool.true_and, Option.some.injEq, Prod.mk.injEq, true_and]
    rfl
  · rw [if_neg (by omega)]
    simp [has, h]

/-! 26: copied -/
def f26 (a : i26) : o26 := a
def p26 (a : i26) : Prop := a.2.length ≤ 1000
theorem s26 : Sd26 (prt p26 f26) := by
  refine of_prt ok26 ?_
  rintro ⟨nx, rows⟩ h
  simp only [t26, sh0, room38 h, cond_true, f26]

/-! 31: held -/
def heldB (name holder token : Int) (ls : List Le) : Bool := has name ls && decide ((nth ls (cnt name ls)).h = holder) && decide ((nth ls (cnt name ls)).t = token)
def f31 (a : i31) : o31 := if heldB a.2.2.1 a.2.2.2.1 a.2.2.2.2 (D a.2.1) then ((cnt a.2.2.1 (D a.2.1) : Nat) : Int) else -1
def p31 (a : i31) : Prop := ∃ ls, a.2.1 = E ls ∧ ls.length ≤ 1000 ∧ Sorted ls
theorem s31 : Sd31 (prt p31 f31) := by
  refine of_prt (ok31 _ s25) ?_
  rintro ⟨nx, rows, name, holder, token⟩ ⟨ls, rfl, hl, hs⟩
  simp only [t31, sh0, cond_dec]
  rw [prt_eq (by exact ⟨ls, rfl, hl, hs⟩)]
  simp only [f25, Option.bind_some, D_E, E_len, f31, c1, c2, Int.toNat_natCast, heldB]
  cases hh : has name ls with
  | false => simp
  | true =>
    have hlt := (has_spec.1 hh).1
    simp only [Bool.not_true, cond_false]
    rw [if_pos (by omega)]
    by_cases h1 : (nth ls (cnt name ls)).h = holder
    · rw [h1]
      simp only [bne_self_eq_false, cond_false]
      rw [if_pos (by omega)]
      by_cases h2 : (nth ls (cnt name ls)).t = token
      · rw [h2]; simp
      · rw [show ((nth ls (cnt name ls)).t != token) = true from by simpa using h2]
        simp only [cond_true, decide_eq_true_eq, h2, decide_false, Bool.and_false, Bool.false_eq_true, if_false]
    · rw [show ((nth ls (cnt name ls)).h != holder) = true from by simpa using h1]
      simp only [cond_true, h1, decide_false, Bool.and_false, Bool.false_and, Bool.false_eq_true, if_false]

end Go.Proofs.Lea

namespace Go.Proofs.Lea
open Go Go.Ev Go.Proofs.LeG

theorem ins_copy {α : Type} (xs : List α) (z new : α) (c : Nat) (h : c ≤ xs.length) :
    List.take (c + 1) (xs ++ [z]) ++ List.take (min (List.take ((xs ++ [z]).length - c) (List.drop c (xs ++ [z]))).length ((xs ++ [z]).length - (c + 1))) (List.take ((xs ++ [z]).length - c) (List.drop c (xs ++ [z]))) ++
      List.drop (c + 1 + min (List.take ((xs ++ [z]).length - c) (List.drop c (xs ++ [z]))).length ((xs ++ [z]).length - (c + 1))) (xs ++ [z]) = List.take (c + 1) (xs ++ [z]) ++ List.drop c xs ∧
    List.set (List.take (c + 1) (xs ++ [z]) ++ List.drop c xs) c new = List.take c xs ++ new :: List.drop c xs ∧ (List.take (c + 1) (xs ++ [z]) ++ List.drop c xs).length = xs.length + 1 := by
  have hl : (xs ++ [z]).length = xs.length + 1 := by simp
  have h1 : (List.take ((xs ++ [z]).length - c) (List.drop c (xs ++ [z]))) = List.drop c xs ++ [z] := by
    rw [List.take_of_length_le (by simp), List.drop_append_of_le_length h]
  have h2 : (List.drop c xs ++ [z]).length = xs.length - c + 1 := by simp
  refine ⟨?_, ?_, ?_⟩
  · rw [h1, h2, hl, show min (xs.length - c + 1) (xs.length + 1 - (c + 1)) = xs.length - c by omega]
    rw [show c + 1 + (xs.length - c) = xs.length + 1 by omega, List.drop_of_length_le (l := xs ++ [z]) (by simp), List.append_nil]
    congr 1
    rw [List.take_append_of_le_length (by simp), List.take_of_length_le (by simp)]
  · have e : List.take (c + 1) (xs ++ [z]) = List.take c xs ++ [(xs ++ [z])[c]'(by simp; omega)] := by
      rw [List.take_succ_eq_append_getElem (by simp; omega), List.take_append_of_le_length h]
    rw [e, List.append_assoc]
    have hlc : (List.take c xs).length = c := by simp; omega
    rw [List.set_append_right _ _ (by omega), hlc]
    simp
  · simp; omega

def mk (n h t u : Int) : Le := ⟨n, h, t, u⟩

def acq (nx : Int) (ls : List Le) (name holder now dur : Int) : Int × List Le × Int × Int :=
  if validB nx ls && timelyB now dur then
    if has name ls && decide (now < (nth ls (cnt name ls)).u) then (0, [], 0, 11)
    else if (!has name ls && decide (64 ≤ ls.length)) || decide (nx = T40) then (0, [], 0, 8)
    else (nx + 1, put (mk name holder nx (now + dur)) ls, nx, 0)
  else (0, [], 0, 1)

def encAcq (r : Int × List Le × Int × Int) : Int × Rows × Int × Int := (r.1, E r.2.1, r.2.2.1, r.2.2.2)

def f11 (a : i11) : o11 := encAcq (acq a.1 (D a.2.1) a.2.2.1 a.2.2.2.1 a.2.2.2.2.1 a.2.2.2.2.2)
def p11 (a : i11) : Prop := isE a.2.1

theorem E_nil : E [] = [] := rfl
theorem enc_mk (n h t u : Int) : [DL.int .i64 n, DL.int .i64 h, DL.int .i64 t, DL.int .i64 u] = encL (mk n h t u) := Eq.symm (Eq.symm rfl)

theorem timely_spec {now dur : Int} : timelyB now dur = true ↔ -T40 ≤ now ∧ now ≤ T40 ∧ 1 ≤ dur ∧ dur ≤ T40 := by
  unfold timelyB; simp [and_assoc]

theorem E_put_not {l : Le} {ls : List Le} (h : has l.n ls = false) : E (put l ls) = List.take (cnt l.n ls) (E ls) ++ encL l :: List.drop (cnt l.n ls) (E ls) := by
  unfold put E; rw [h]; simp [List.map_take, List.map_drop]

theorem E_put_has {l : Le} {ls : List Le} (h : has l.n ls = true) : E (put l ls) = List.set (E ls) (cnt l.n ls) (encL l) := by
  have hlt := (has_spec.1 h).1
  unfold put E; rw [h]
  rw [List.set_eq_take_append_cons_drop]
  simp [hlt]

theorem s11 : Sd11 (prt p11 f11) := by
  refine of_prt (ok11 _ _ _ _ s16 s24 s25 s26) ?_
  rintro ⟨nx, rows, name, holder, now, dur⟩ ⟨ls, rfl, hl⟩
  simp only [t11, sh0, cond_dec]
  rw [prt_eq (by exact ⟨ls, rfl, hl⟩)]
  simp only [f16, Option.bind_some, D_E, f11, acq]
  cases hv : validB nx ls with
  | false => simp [encAcq, E_nil]
  | true =>
    obtain ⟨v1, v2, v3, v4, v5⟩ := valid_spec.1 hv
    simp only [Bool.not_true, cond_false, tot, f24, Option.bind_some, Bool.true_and]
    cases ht : timelyB now dur with
    | false => simp [encAcq, E_nil]
    | true =>
      obtain ⟨t1, t2, t3, t4⟩ := timely_spec.1 ht
      unfold T40 at *
      have hc := cnt_le name ls
      rw [prt_eq (by exact ⟨ls, rfl, by omega, v5⟩)]
      simp only [f25, Option.bind_some, D_E, Bool.not_true, cond_false, E_len, c3, Int.toNat_natCast, if_true]
      have hw : IntKind.i64.wrap (now + dur) = now + dur := wrap_i64 (by omega) (by omega)
      have hw2 : IntKind.i64.wrap (nx + 1) = nx + 1 := wrap_i64 (by omega) (by omega)
      have hw3 : IntKind.i64.wrap ((cnt name ls : Int) + 1) = (cnt name ls : Int) + 1 := wrap_i64 (by omega) (by omega)
      rw [hw, hw3]
      cases hh : has name ls with
      | true =>
        have hlt := (has_spec.1 hh).1
        simp only [cond_true, Bool.not_true, cond_false, Bool.true_and, Bool.false_and, Bool.false_or]
        rw [if_pos (by omega)]
        by_cases h1 : now < (nth ls (cnt name ls)).u
        · simp [h1, encAcq, E_nil]
        · by_cases h2 : nx = 1099511627776
          · simp [h1, h2, encAcq, E_nil]
          · have hb : (nx == 1099511627776) = false := by simpa using h2
            simp only [h1, hb, cond_false, if_false, decide_false, decide_eq_true_eq, h2, Bool.false_eq_true]
            rw [prt_eq (by show (E ls).length ≤ 1000; simp; omega)]
            simp only [f26, Option.bind_some, E_len]
            rw [if_pos (by omega), if_pos (by omega), hw2, enc_mk]
            simp only [encAcq, E_put_has (l := mk name holder nx (now + dur)) hh]
            rfl
      | false =>
        simp only [cond_true, Bool.not_false, cond_false, Bool.true_and, Bool.false_and]
        by_cases h3 : (ls.length : Int) ≥ 64
        · have : 64 ≤ ls.length := by omega
          simp [h3, this, encAcq, E_nil]
        · have h3' : ¬ 64 ≤ ls.length := by omega
          by_cases h2 : nx = 1099511627776
          · simp [h3, h2, encAcq, E_nil]
          · have hb : (nx == 1099511627776) = false := by simpa using h2
            simp only [h3, hb, cond_false, if_false, decide_false, h2, Bool.false_eq_true, h3', Bool.or_self]
            rw [prt_eq (by show (E ls).length ≤ 1000; simp; omega)]
            simp only [f26, Option.bind_some, enc_mk]
            have e1 : ((cnt name ls : Int) + 1).toNat = cnt name ls + 1 := by omega
            obtain ⟨i1, i2, i3⟩ := ins_copy (E ls) (encL (mk 0 0 0 0)) (encL (mk name holder nx (now + dur))) (cnt name ls) (by simpa using hc)
            have hlen : (E ls ++ [encL (mk 0 0 0 0)]).length = ls.length + 1 := by simp
            rw [E_len] at i3
            rw [room38 (by simp; omega), cond_true, e1, if_pos (by rw [hlen]; omega), if_pos (by rw [hlen]; omega), if_pos (by rw [hlen]; omega), i1, if_pos (by rw [i3]; omega), if_pos (by rw [i3]; omega), i2, hw2]
            simp only [encAcq, E_put_not (l := mk name holder nx (now + dur)) hh]
            rfl

end Go.Proofs.Lea

namespace Go.Proofs.Lea
open Go Go.Ev Go.Proofs.LeG

/-! 10: New -/
def f10 (_ : i10) : o10 := (1, E [])
theorem s10 : Sd10 (tot f10) := of_tot ok10 fun _ => rfl

/-! 12: Expire -/
def alive (now : Int) (ls : List Le) : List Le := ls.filter fun l => decide (now < l.u)
def f12L (a : iL12_5) : oL12_5 := (a.2.2.2.2.1, a.2.2.2.2.2.1, a.2.2.2.2.2.2.1, E (D a.2.2.2.2.2.2.2 ++ alive a.1 ((D a.2.2.2.1).drop a.2.1.toNat)))
def p12L (a : iL12_5) : Prop := ∃ ls os, a.2.2.2.1 = E ls ∧ a.2.2.2.2.2.2.2 = E os ∧ ls.length ≤ 500 ∧ os.length ≤ a.2.1 ∧ a.2.1 ≤ ls.length
theorem nth_enc (l : Le) : [DL.int .i64 l.n, DL.int .i64 l.h, DL.int .i64 l.t, DL.int .i64 l.u] = encL l := Eq.symm (Eq.symm rfl)
theorem E_one (l : Le) : [encL l] = E [l] := Eq.symm (Eq.symm rfl)
theorem s12L : SdL12_5 (prt p12L f12L) := by
  refine of_iterL (step := fun l a => u12_5 sh0 l a.1 a.2.1 a.2.2.1 a.2.2.2.1 a.2.2.2.2.1 a.2.2.2.2.2.1 a.2.2.2.2.2.2.1 a.2.2.2.2.2.2.2 some) okL12_5 (fun a => a.2.2.2.1.length - a.2.1.toNat) ?_
  rintro F ⟨now, i, x3, rows, x5, x6, x7, outs⟩ ⟨ls, os, rfl, rfl, hl, ho, hi⟩ ih
  simp only at ho hi
  obtain ⟨k, rfl⟩ := Int.eq_ofNat_of_zero_le (show 0 ≤ i by omega)
  simp only [E_len] at ih
  simp only [u12_5, sh0, c0, c1, c2, c3, nth_enc, E_one, E_app, E_len, cond_dec, Int.toNat_natCast, f12L, D_E]
  by_cases hlt : k < ls.length
  · have hw : IntKind.i64.wrap ((k : Int) + 1) = (k : Int) + 1 := wrap_i64 (by omega) (by omega)
    have e1 : ((k : Int) + 1).toNat = k + 1 := by omega
    rw [if_pos (by omega), if_pos (by omega), hw, drop_cons hlt]
    by_cases h1 : now < (nth ls k).u
    · rw [if_pos h1, if_pos (by omega), room38 (by simp; omega), cond_true]
      have hF := ih (now, (k : Int) + 1, x3, E ls, x5, x6, x7, E (os ++ [nth ls k])) ⟨ls, _, rfl, rfl, hl, by simp; omega, by simp only; omega⟩ (by simp; omega)
      rw [hF]
      simp [f12L, e1, alive, h1]
    · rw [if_neg h1]
      have hF := ih (now, (k : Int) + 1, x3, E ls, x5, x6, x7, E os) ⟨ls, _, rfl, rfl, hl, by simp only; omega, by simp only; omega⟩ (by simp; omega)
      rw [hF]
      simp [f12L, e1, alive, h1]
  · rw [if_neg (by omega), List.drop_of_length_le (by omega)]
    simp [alive]

def expi (nx : Int) (ls : List Le) (now : Int) : Int × List Le := if validB nx ls then (nx, alive now ls) else (0, [])
def f12 (a : i12) : o12 := ((expi a.1 (D a.2.1) a.2.2).1, E (expi a.1 (D a.2.1) a.2.2).2)
def p12 (a : i12) : Prop := isE a.2.1
theorem s12 : Sd12 (prt p12 f12) := by
  refine of_prt (ok12 _ _ s16 s12L) ?_
  rintro ⟨nx, rows, now⟩ ⟨ls, rfl, hl⟩
  simp only [t12, sh0]
  rw [prt_eq (by exact ⟨ls, rfl, hl⟩)]
  simp only [f16, Option.bind_some, D_E, f12, expi]
  cases hv : validB nx ls with
  | false => simp [E_nil]
  | true =>
    obtain ⟨v1, v2, v3, v4, v5⟩ := valid_spec.1 hv
    simp only [Bool.not_true, cond_false, ↓reduceIte]
    rw [prt_eq (by exact ⟨ls, [], rfl, rfl, by omega, by simp, by simp⟩)]
    simp only [f12L, D_E, show D [] = [] from rfl, List.nil_append, Int.toNat_zero, List.drop_zero, Option.bind_some]

/-! 15: Find -/
def find (nx : Int) (ls : List Le) (name now : Int) : Le × Bool := if validB nx ls && has name ls && decide (now < (nth ls (cnt name ls)).u) then (nth ls (cnt name ls), true) else (z0, false)
def encF (r : Le × Bool) : Int × Int × Int × Int × Bool := (r.1.n, r.1.h, r.1.t, r.1.u, r.2)
def f15 (a : i15) : o15 := encF (find a.1 (D a.2.1) a.2.2.1 a.2.2.2)
def p15 (a : i15) : Prop := isE a.2.1
theorem s15 : Sd15 (prt p15 f15) := by
  refine of_prt (ok15 _ _ s16 s25) ?_
  rintro ⟨nx, rows, name, now⟩ ⟨ls, rfl, hl⟩
  simp only [t15, sh0, c0, c1, c2, c3, cond_dec]
  rw [prt_eq (by exact ⟨ls, rfl, hl⟩)]
  simp only [f16, Option.bind_some, D_E, f15, find]
  cases hv : validB nx ls with
  | false => simp [encF, z0]
  | true =>
    obtain ⟨v1, v2, v3, v4, v5⟩ := valid_spec.1 hv
    simp only [Bool.not_true, cond_false, Bool.true_and]
    rw [prt_eq (by exact ⟨ls, rfl, by omega, v5⟩)]
    simp only [f25, Option.bind_some, D_E, E_len, Int.toNat_natCast]
    cases hh : has name ls with
    | false => simp [encF, z0]
    | true =>
      have hlt := (has_spec.1 hh).1
      simp only [Bool.not_true, cond_false, Bool.true_and]
      rw [if_pos (by omega)]
      by_cases h : now ≥ (nth ls (cnt name ls)).u
      · rw [if_pos h]; simp [show ¬ now < (nth ls (cnt name ls)).u by omega, encF, z0]
      · rw [if_neg h, if_pos (by omega)]; simp [show now < (nth ls (cnt name ls)).u by omega, encF]

/-! 17: Renew -/
def rnw (nx : Int) (ls : List Le) (name holder token now dur : Int) : Int × List Le × Int :=
  if validB nx ls && timelyB now dur then
    if heldB name holder token ls && decide (now < (nth ls (cnt name ls)).u) then
      (nx, ls.set (cnt name ls) { nth ls (cnt name ls) with u := max (nth ls (cnt name ls)).u (now + dur) }, 0)
    else (0, [], 102)
  else (0, [], 1)
def encR (r : Int × List Le × Int) : Int × Rows × Int := (r.1, E r.2.1, r.2.2)
def f17 (a : i17) : o17 := encR (rnw a.1 (D a.2.1) a.2.2.1 a.2.2.2.1 a.2.2.2.2.1 a.2.2.2.2.2.1 a.2.2.2.2.2.2)
def p17 (a : i17) : Prop := isE a.2.1
theorem E_set (ls : List Le) (i : Nat) (l : Le) : E (ls.set i l) = (E ls).set i (encL l) := by simp [E, List.map_set]
theorem held_has {name holder token : Int} {ls : List Le} (h : heldB name holder token ls = true) : has name ls = true := by
  unfold heldB at h; simp only [Bool.and_eq_true] at h; exact h.1.1
theorem s17 : Sd17 (prt p17 f17) := by
  refine of_prt (ok17 _ _ _ _ s16 s24 s31 s26) ?_
  rintro ⟨nx, rows, name, holder, token, now, dur⟩ ⟨ls, rfl, hl⟩
  simp only [t17, sh0, cond_dec]
  rw [prt_eq (by exact ⟨ls, rfl, hl⟩)]
  simp only [f16, Option.bind_some, D_E, f17, rnw]
  cases hv : validB nx ls with
  | false => simp [encR, E_nil]
  | true =>
    obtain ⟨v1, v2, v3, v4, v5⟩ := valid_spec.1 hv
    simp only [Bool.not_true, cond_false, tot, f24, Option.bind_some, Bool.true_and]
    cases ht : timelyB now dur with
    | false => simp [encR, E_nil]
    | true =>
      obtain ⟨t1, t2, t3, t4⟩ := timely_spec.1 ht
      unfold T40 at *
      simp only [Bool.not_true, cond_false, ↓reduceIte]
      rw [prt_eq (by exact ⟨ls, rfl, by omega, v5⟩)]
      simp only [f31, Option.bind_some, D_E]
      cases hh : heldB name holder token ls with
      | false => simp [encR, E_nil]
      | true =>
        have hlt := (has_spec.1 (held_has hh)).1
        simp only [↓reduceIte, Bool.true_and]
        rw [prt_eq (by show (E ls).length ≤ 1000; simp; omega)]
        simp only [f26, Option.bind_some, E_len, c0, c1, c2, c3, Int.toNat_natCast]
        have hn0 : ¬ ((cnt name ls : Int) < 0) := by omega
        rw [if_neg hn0, if_pos ⟨by omega, by omega⟩]
        by_cases h : now ≥ (nth ls (cnt name ls)).u
        · rw [if_pos h]; simp [show ¬ now < (nth ls (cnt name ls)).u by omega, encR, E_nil]
        · have hw : IntKind.i64.wrap (now + dur) = now + dur := wrap_i64 (by omega) (by omega)
          rw [if_neg h, if_pos ⟨by omega, by omega⟩, if_pos hlt, if_pos ⟨by omega, by omega⟩, if_pos hlt, hw]
          have hm : (if now + dur > (nth ls (cnt name ls)).u then now + dur else (nth ls (cnt name ls)).u) = max (nth ls (cnt name ls)).u (now + dur) := by
            split <;> omega
          simp only [hm, show now < (nth ls (cnt name ls)).u by omega, decide_true, ↓reduceIte, encR, E_set]
          rfl

/-! 18: Release -/
def rel (nx : Int) (ls : List Le) (name holder token : Int) : Int × List Le × Int :=
  if validB nx ls then if heldB name holder token ls then (nx, others name ls, 0) else (0, [], 102) else (0, [], 1)
def f18 (a : i18) : o18 := encR (rel a.1 (D a.2.1) a.2.2.1 a.2.2.2.1 a.2.2.2.2)
def p18 (a : i18) : Prop := isE a.2.1
theorem del_app {α : Type} (xs : List α) (c : Nat) (h : c + 1 ≤ xs.length) :
    List.take (c - 0 + (List.take (xs.length - (c + 1)) (List.drop (c + 1) xs)).length) (List.drop 0 (List.take (0 + (c - 0)) xs ++ List.take (xs.length - (c + 1)) (List.drop (c + 1) xs) ++ List.drop (0 + (c - 0) + (List.take (xs.length - (c + 1)) (List.drop (c + 1) xs)).length) xs)) =
      List.take c xs ++ List.drop (c + 1) xs := by
  have h1 : List.take (xs.length - (c + 1)) (List.drop (c + 1) xs) = List.drop (c + 1) xs := List.take_of_length_le (by simp)
  rw [h1, List.drop_zero, Nat.zero_add, Nat.sub_zero]
  rw [List.take_append_of_le_length (by simp; omega), List.take_of_length_le (by simp; omega)]
theorem s18 : Sd18 (prt p18 f18) := by
  refine of_prt (ok18 _ _ _ s16 s31 s26) ?_
  rintro ⟨nx, rows, name, holder, token⟩ ⟨ls, rfl, hl⟩
  simp only [t18, sh0, cond_dec]
  rw [prt_eq (by exact ⟨ls, rfl, hl⟩)]
  simp only [f16, Option.bind_some, D_E, f18, rel]
  cases hv : validB nx ls with
  | false => simp [encR, E_nil]
  | true =>
    obtain ⟨v1, v2, v3, v4, v5⟩ := valid_spec.1 hv
    simp only [Bool.not_true, cond_false, ↓reduceIte]
    rw [prt_eq (by exact ⟨ls, rfl, by omega, v5⟩)]
    simp only [f31, Option.bind_some, D_E]
    cases hh : heldB name holder token ls with
    | false => simp [encR, E_nil]
    | true =>
      have hlt := (has_spec.1 (held_has hh)).1
      simp only [↓reduceIte]
      rw [prt_eq (by show (E ls).length ≤ 1000; simp; omega)]
      simp only [f26, Option.bind_some]
      have hw : IntKind.i64.wrap ((cnt name ls : Int) + 1) = (cnt name ls : Int) + 1 := wrap_i64 (by omega) (by omega)
      have e1 : ((cnt name ls : Int) + 1).toNat = cnt name ls + 1 := by omega
      have hn0 : ¬ ((cnt name ls : Int) < 0) := by omega
      rw [hw, e1, Int.toNat_natCast, if_neg hn0, if_pos (by rw [E_len]; omega), if_pos (by rw [E_len]; omega), if_pos (by simp; omega), del_app _ _ (by rw [E_len]; omega), others_sorted v5, held_has hh]
      simp [encR, E, List.map_take, List.map_drop]

end Go.Proofs.Lea

namespace Go.Proofs.Lea
open Go Go.Ev Go.Proofs.LeG

/-! 19: New -/
def f19 (_ : i19) : o19 := (1, E [])
theorem s19 : Sd19 (tot f19) := of_tot ok19 fun _ => rfl

/-! 23: Valid -/
def f23L (a : iL23_2) : oL23_2 := if chk a.2.1 (prv a.1.toNat (D a.2.2)) ((D a.2.2).drop a.1.toNat) then .inr (a.2.1, a.2.2) else .inl (false, a.2.1, a.2.2)
def p23L (a : iL23_2) : Prop := isE a.2.2 ∧ 0 ≤ a.1 ∧ a.1 ≤ a.2.2.length
theorem s23L : SdL23_2 (prt p23L f23L) := by
  refine of_iterL (step := fun l a => u23_2 sh0 l a.1 a.2.1 a.2.2 some) okL23_2 (fun a => a.2.2.length - a.1.toNat) ?_
  rintro F ⟨i, nx, rows⟩ ⟨⟨ls, rfl, hl⟩, h0, hi⟩ ih
  obtain ⟨k, rfl⟩ := Int.eq_ofNat_of_zero_le h0
  simp only [E_len] at hi ih
  simp only [u23_2, sh0, cond_dec, E_len, Int.toNat_natCast, c0, c2, f23L, D_E]
  by_cases hlt : k < ls.length
  · rw [if_pos (by omega), if_pos (by omega), drop_cons hlt]
    have nxt : prv (k + 1) ls = some (nth ls k).n := by simp [prv]
    have hF := ih ((k : Int) + 1, nx, E ls) ⟨⟨ls, rfl, hl⟩, by omega, by simp; omega⟩ (by simp; omega)
    have hw : IntKind.i64.wrap ((k : Int) + 1) = (k : Int) + 1 := wrap_i64 (by omega) (by omega)
    have e1 : ((k : Int) + 1).toNat = k + 1 := by omega
    simp only [f23L, D_E, e1, nxt] at hF
    rw [hw]
    simp only [chk]
    have rest : (if (nth ls k).t < 1 then some (Sum.inl (false, nx, E ls)) else if (nth ls k).t ≥ nx then some (Sum.inl (false, nx, E ls)) else (F ((k : Int) + 1, nx, E ls)).bind some) =
        some (if (decide (1 ≤ (nth ls k).t) && decide ((nth ls k).t < nx) && chk nx (some (nth ls k).n) (List.drop (k + 1) ls)) = true then (Sum.inr (nx, E ls) : oL23_2) else Sum.inl (false, nx, E ls)) := by
      by_cases h1 : (nth ls k).t < 1
      · rw [if_pos h1]; simp [show ¬ 1 ≤ (nth ls k).t by omega]
      · rw [if_neg h1]
        by_cases h2 : (nth ls k).t ≥ nx
        · rw [if_pos h2]; simp [show ¬ (nth ls k).t < nx by omega]
        · rw [if_neg h2, hF]; simp [show 1 ≤ (nth ls k).t by omega, show (nth ls k).t < nx by omega]
    by_cases h3 : (k : Int) > 0
    · have hw2 : IntKind.i64.wrap ((k : Int) - 1) = (k : Int) - 1 := wrap_i64 (by omega) (by omega)
      have e2 : ((k : Int) - 1).toNat = k - 1 := by omega
      rw [if_pos h3, hw2, if_pos (by omega), e2]
      have hp : prv k ls = some (nth ls (k - 1)).n := by unfold prv; rw [if_neg (by omega)]
      rw [hp]
      by_cases h4 : (nth ls (k - 1)).n ≥ (nth ls k).n
      · rw [if_pos h4]; simp [show ¬ (nth ls (k - 1)).n < (nth ls k).n by omega]
      · rw [if_neg h4, rest]; simp [show (nth ls (k - 1)).n < (nth ls k).n by omega]
    · rw [if_neg h3, rest]
      have hp : prv k ls = none := by unfold prv; rw [if_pos (by omega)]
      rw [hp]
      simp
  · rw [if_neg (by omega), List.drop_of_length_le (by omega)]
    simp [chk]

def f23 (a : i23) : o23 := validB a.1 (D a.2)
def p23 (a : i23) : Prop := isE a.2
theorem s23 : Sd23 (prt p23 f23) := by
  refine of_prt (ok23 _ s23L) ?_
  rintro ⟨nx, rows⟩ ⟨ls, rfl, hl⟩
  simp only [t23, sh0, cond_dec, f23, D_E]
  rw [prt_eq (by refine ⟨⟨ls, rfl, hl⟩, ?_, ?_⟩ <;> simp)]
  have hp : prv 0 ls = none := rfl
  simp only [f23L, D_E, Option.bind_some, Int.toNat_zero, List.drop_zero, hp, validB]
  cases hc : chk nx none ls with
  | false => simp [two]
  | true =>
    simp only [two, ↓reduceIte, E_len, T40]
    by_cases h1 : nx ≥ 1
    · by_cases h2 : nx ≤ 1099511627776
      · rw [if_pos h1, if_pos h2]; by_cases h3 : ls.length ≤ 64
        · simp [h1, h2, h3, show (ls.length : Int) ≤ 64 by omega]
        · simp [h3, show ¬ (ls.length : Int) ≤ 64 by omega]
      · rw [if_pos h1, if_neg h2]; simp [h2]
    · rw [if_neg h1]; simp [show ¬ 1 ≤ nx by omega]

/-! 35: timely -/
def f35 (a : i35) : o35 := timelyB a.1 a.2
theorem s35 : Sd35 (tot f35) := by
  refine of_tot ok35 ?_
  rintro ⟨now, dur⟩
  simp only [t35, cond_dec, f35, timelyB, T40]
  by_cases h1 : now ≥ -1099511627776
  · by_cases h2 : now ≤ 1099511627776
    · by_cases h3 : dur ≥ 1
      · rw [if_pos h1, if_pos h2, if_pos h3]; by_cases h4 : dur ≤ 1099511627776 <;> simp [h1, h2, h3, h4]
      · rw [if_pos h1, if_pos h2, if_neg h3]; simp [show ¬ 1 ≤ dur by omega]
    · rw [if_pos h1, if_neg h2]; simp [h2]
  · rw [if_neg h1]; simp [show ¬ -1099511627776 ≤ now by omega]

/-! 32: at -/
def f32L (a : iL32_2) : oL32_2 := match ((D a.2.2.2).drop a.2.1.toNat).findIdx? (fun l => l.n == a.1) with
  | some i => .inl ((a.2.1.toNat + i : Nat) : Int)
  | none => .inr ()
def p32L (a : iL32_2) : Prop := isE a.2.2.2 ∧ 0 ≤ a.2.1 ∧ a.2.1 ≤ a.2.2.2.length
theorem s32L : SdL32_2 (prt p32L f32L) := by
  refine of_iterL (step := fun l a => u32_2 sh0 l a.1 a.2.1 a.2.2.1 a.2.2.2 some) okL32_2 (fun a => a.2.2.2.length - a.2.1.toNat) ?_
  rintro F ⟨name, i, nx, rows⟩ ⟨⟨ls, rfl, hl⟩, h0, hi⟩ ih
  simp only at h0
  obtain ⟨k, rfl⟩ := Int.eq_ofNat_of_zero_le h0
  simp only [E_len] at hi ih
  simp only [u32_2, sh0, cond_dec, E_len, Int.toNat_natCast, c0, f32L, D_E]
  by_cases hlt : k < ls.length
  · rw [if_pos (by omega), if_pos (by omega), drop_cons hlt, List.findIdx?_cons]
    have hw : IntKind.i64.wrap ((k : Int) + 1) = (k : Int) + 1 := wrap_i64 (by omega) (by omega)
    have e1 : ((k : Int) + 1).toNat = k + 1 := by omega
    cases hb : (nth ls k).n == name with
    | true => simp
    | false =>
      have hF := ih (name, (k : Int) + 1, nx, E ls) ⟨⟨ls, rfl, hl⟩, by simp only; omega, by simp; omega⟩ (by simp; omega)
      rw [hw, hF]
      simp only [f32L, D_E, e1, cond_false, Option.bind_some, Bool.false_eq_true, ↓reduceIte]
      cases hx : (ls.drop (k + 1)).findIdx? (fun l => l.n == name) with
      | none => simp
      | some j => simp; omega
  · rw [if_neg (by omega), List.drop_of_length_le (by omega)]
    simp

def f32 (a : i32) : o32 := atI a.2.2 (D a.2.1)
def p32 (a : i32) : Prop := isE a.2.1
theorem s32 : Sd32 (prt p32 f32) := by
  refine of_prt (ok32 _ s32L) ?_
  rintro ⟨nx, rows, name⟩ ⟨ls, rfl, hl⟩
  simp only [t32]
  rw [prt_eq (by refine ⟨⟨ls, rfl, hl⟩, ?_, ?_⟩ <;> simp)]
  simp only [f32L, D_E, Option.bind_some, Int.toNat_zero, List.drop_zero, f32, atI, atFrom, Nat.zero_add]
  cases ls.findIdx? (fun l => l.n == name) <;> simp [two]

/-! 37: without -/
def f37L (a : iL37_3) : oL37_3 := E (D a.2.2.2 ++ others a.2.1 ((D a.1).drop a.2.2.1.toNat))
def p37L (a : iL37_3) : Prop := ∃ ls os, a.1 = E ls ∧ a.2.2.2 = E os ∧ ls.length ≤ 500 ∧ os.length ≤ a.2.2.1 ∧ a.2.2.1 ≤ ls.length
theorem s37L : SdL37_3 (prt p37L f37L) := by
  refine of_iterL (step := fun l a => u37_3 sh0 l a.1 a.2.1 a.2.2.1 a.2.2.2 some) okL37_3 (fun a => a.1.length - a.2.2.1.toNat) ?_
  rintro F ⟨rows, name, i, outs⟩ ⟨ls, os, rfl, rfl, hl, ho, hi⟩ ih
  simp only at ho hi
  obtain ⟨k, rfl⟩ := Int.eq_ofNat_of_zero_le (show 0 ≤ i by omega)
  simp only [E_len] at ih
  simp only [u37_3, sh0, c0, c1, c2, c3, nth_enc, E_one, E_app, E_len, cond_dec, Int.toNat_natCast, f37L, D_E]
  by_cases hlt : k < ls.length
  · have hw : IntKind.i64.wrap ((k : Int) + 1) = (k : Int) + 1 := wrap_i64 (by omega) (by omega)
    have e1 : ((k : Int) + 1).toNat = k + 1 := by omega
    rw [if_pos (by omega), if_pos (by omega), hw, drop_cons hlt]
    by_cases h1 : (nth ls k).n = name
    · have hb : ((nth ls k).n != name) = false := by simpa using h1
      rw [hb]
      have hF := ih (E ls, name, (k : Int) + 1, E os) ⟨ls, _, rfl, rfl, hl, by simp only; omega, by simp only; omega⟩ (by simp; omega)
      rw [cond_false, hF]
      simp [f37L, e1, others, h1]
    · have hb : ((nth ls k).n != name) = true := by simpa using h1
      rw [hb, cond_true, if_pos ⟨by omega, by omega⟩, room38 (by simp; omega), cond_true]
      have hF := ih (E ls, name, (k : Int) + 1, E (os ++ [nth ls k])) ⟨ls, _, rfl, rfl, hl, by simp; omega, by simp only; omega⟩ (by simp; omega)
      rw [hF]
      simp [f37L, e1, others, h1]
  · rw [if_neg (by omega), List.drop_of_length_le (by omega)]
    simp [others]

def f37 (a : i37) : o37 := E (others a.2 (D a.1))
def p37 (a : i37) : Prop := ∃ ls, a.1 = E ls ∧ ls.length ≤ 500
theorem s37 : Sd37 (prt p37 f37) := by
  refine of_prt (ok37 _ s37L) ?_
  rintro ⟨rows, name⟩ ⟨ls, rfl, hl⟩
  simp only [t37, sh0]
  rw [prt_eq (by exact ⟨ls, [], rfl, rfl, hl, by simp, by simp⟩)]
  simp only [f37L, D_E, f37, show D [] = [] from rfl, List.nil_append, Int.toNat_zero, List.drop_zero, Option.bind_some]

/-! 36: put -/
/-- The state of the loop: a, the new one, b; all of b is greater. -/
theorem swap_set {a b : List Le} {x l : Le} : ((a ++ [x] ++ l :: b).set a.length l).set (a.length + 1) x = a ++ l :: x :: b := by
  simp [List.set_append]

def bub (l : Le) : List Le → List Le → List Le
  | [], b => l :: b
  | x :: r, b => if l.n < x.n then bub l r (x :: b) else r.reverse ++ x :: l :: b

theorem bub_spec {l : Le} : ∀ {r b : List Le}, bub l r b = (r.dropWhile fun x => decide (l.n < x.n)).reverse ++ l :: ((r.takeWhile fun x => decide (l.n < x.n)).reverse ++ b) := by
  intro r
  induction r with
  | nil => intro b; simp [bub]
  | cons x r ih =>
    intro b
    unfold bub
    by_cases h : l.n < x.n
    · rw [if_pos h, ih]; simp [h]
    · rw [if_neg h]; simp [h]

def f36L (a : iL36_3) : oL36_3 := (a.1, a.2.2.1, E (bub (nth (D a.2.2.2.1) a.2.1.toNat) ((D a.2.2.2.1).take a.2.1.toNat).reverse ((D a.2.2.2.1).drop (a.2.1.toNat + 1))), a.2.2.2.2)
def p36L (a : iL36_3) : Prop := ∃ ls, a.2.2.2.1 = E ls ∧ ls.length ≤ 1000 ∧ 0 ≤ a.2.1 ∧ a.2.1 < ls.length
theorem nth_app {a b : List Le} {x : Le} : nth (a ++ x :: b) a.length = x := by simp [nth]
theorem s36L : SdL36_3 (prt p36L f36L) := by
  refine of_iterL (step := fun l a => u36_3 sh0 l a.1 a.2.1 a.2.2.1 a.2.2.2.1 a.2.2.2.2 some) okL36_3 (fun a => a.2.1.toNat) ?_
  rintro F ⟨x1, k, x3, rows, x5⟩ ⟨ls, rfl, hl, h0, hk⟩ ih
  simp only at h0 hk
  obtain ⟨k, rfl⟩ := Int.eq_ofNat_of_zero_le h0
  simp only [u36_3, sh0, c0, c1, c2, c3, nth_enc, ← E_set, E_len, cond_dec, Int.toNat_natCast, f36L, D_E, List.length_set]
  by_cases hk0 : (k : Int) > 0
  · have hw : IntKind.i64.wrap ((k : Int) - 1) = (k : Int) - 1 := wrap_i64 (by omega) (by omega)
    have e1 : ((k : Int) - 1).toNat = k - 1 := by omega
    obtain ⟨m, rfl⟩ : ∃ m, k = m + 1 := ⟨k - 1, by omega⟩
    simp only [Nat.add_sub_cancel] at e1
    have hm : m + 1 < ls.length := by omega
    have tk : (ls.take (m + 1)).reverse = nth ls m :: (ls.take m).reverse := by
      rw [List.take_succ_eq_append_getElem (by omega), nth_lt (by omega : m < ls.length)]; simp
    simp only [hw, e1, tk, bub]
    rw [if_pos hk0, if_pos ⟨by omega, by omega⟩, if_pos (by omega), if_pos ⟨by omega, by omega⟩, if_pos (by omega)]
    by_cases hlt : (nth ls (m + 1)).n < (nth ls m).n
    · rw [if_pos hlt, if_pos hlt, if_pos ⟨by omega, by omega⟩, if_pos (by omega), if_pos ⟨by omega, by omega⟩, if_pos (by omega), if_pos ⟨by omega, by omega⟩, if_pos (by omega), if_pos ⟨by omega, by omega⟩, if_pos (by omega)]
      have hF := ih (x1, ((m + 1 : Nat) : Int) - 1, x3, E ((ls.set m (nth ls (m + 1))).set (m + 1) (nth ls m)), x5) ⟨_, rfl, by simp; omega, by simp only; omega, by simp; omega⟩ (by simp)
      rw [hF]
      simp only [f36L, D_E, e1, Option.bind_some]
      -- the list after the exchange
      have e : ls = ls.take m ++ nth ls m :: nth ls (m + 1) :: ls.drop (m + 2) := by
        conv => lhs; rw [← List.take_append_drop m ls, drop_cons (by omega : m < ls.length), drop_cons hm]
      have es : (ls.set m (nth ls (m + 1))).set (m + 1) (nth ls m) = ls.take m ++ nth ls (m + 1) :: nth ls m :: ls.drop (m + 2) := by
        have hlen : (ls.take m).length = m := by simp; omega
        generalize nth ls m = x at *
        generalize nth ls (m + 1) = l at *
        generalize hA : ls.take m = A at *
        generalize ls.drop (m + 2) = B at *
        subst e
        subst hlen
        simp [List.set_append]
      rw [es]
      have hlen : (ls.take m).length = m := by simp; omega
      have n1 : nth (ls.take m ++ nth ls (m + 1) :: nth ls m :: ls.drop (m + 2)) m = nth ls (m + 1) := by
        conv => lhs; arg 2; rw [← hlen]
        exact nth_app
      have n2 : (ls.take m ++ nth ls (m + 1) :: nth ls m :: ls.drop (m + 2)).take m = ls.take m := by
        rw [List.take_append_of_le_length (by omega), List.take_of_length_le (by omega)]
      have n3 : (ls.take m ++ nth ls (m + 1) :: nth ls m :: ls.drop (m + 2)).drop (m + 1) = nth ls m :: ls.drop (m + 2) := by
        rw [List.drop_append, hlen]
        simp [List.drop_of_length_le, hlen]
      rw [n1, n2, n3]
    · rw [if_neg hlt, if_neg hlt]
      have e : ls = ls.take m ++ nth ls m :: nth ls (m + 1) :: ls.drop (m + 2) := by
        conv => lhs; rw [← List.take_append_drop m ls, drop_cons (by omega : m < ls.length), drop_cons hm]
      simp only [List.reverse_reverse]
      rw [← e]
  · rw [if_neg hk0]
    have : k = 0 := by omega
    subst this
    have e : ls = nth ls 0 :: ls.drop 1 := by
      have := drop_cons (ls := ls) (k := 0) (by omega)
      simpa using this
    simp only [List.take_zero, List.reverse_nil, bub, Nat.zero_add]
    rw [← e]

end Go.Proofs.Lea

namespace Go.Proofs.Lea
open Go Go.Ev Go.Proofs.LeG

theorem sorted_take {ls : List Le} (h : Sorted ls) (k : Nat) : Sorted (ls.take k) := List.Pairwise.sublist (List.take_sublist k ls) h

theorem nth_take {ls : List Le} {i k : Nat} (h : i < k) : nth (ls.take k) i = nth ls i := by
  unfold nth; simp [h]

theorem put_bub {l : Le} {ls : List Le} (h : Sorted ls) : bub l (others l.n ls).reverse [] = put l ls := by
  rw [bub_spec, others_sorted h, List.reverse_append]
  have hgt : ∀ x ∈ (ls.drop (cnt l.n ls + if has l.n ls then 1 else 0)).reverse, decide (l.n < x.n) = true := by
    intro x hx
    rw [List.mem_reverse] at hx
    obtain ⟨i, hi, rfl⟩ := List.getElem_of_mem hx
    rw [List.length_drop] at hi
    rw [List.getElem_drop]
    have hlt : (cnt l.n ls + if has l.n ls then 1 else 0) + i < ls.length := by omega
    rw [← nth_lt hlt]
    simp only [decide_eq_true_eq]
    have h1 := cnt_hi (name := l.n) h (i := (cnt l.n ls + if has l.n ls then 1 else 0) + i) (by omega) hlt
    rcases Int.lt_or_eq_of_le h1 with h2 | h2
    · exact h2
    · exfalso
      cases hh : has l.n ls with
      | true =>
        rw [hh] at hlt h2
        simp only [↓reduceIte] at hlt h2
        have := (has_spec.1 hh).2
        have h3 := sorted_get h (i := cnt l.n ls) (j := cnt l.n ls + 1 + i) (by omega) hlt
        omega
      | false =>
        rw [hh] at hlt h2
        simp only [Bool.false_eq_true, ↓reduceIte, Nat.add_zero] at hlt h2
        have h3 := cnt_at (name := l.n) (ls := ls) (by omega)
        rcases Nat.eq_zero_or_pos i with h4 | h4
        · subst h4
          rw [Nat.add_zero] at h2
          rw [has_spec.2 ⟨by omega, h2.symm⟩] at hh; exact absurd hh (by simp)
        · have h5 := sorted_get h (i := cnt l.n ls) (j := cnt l.n ls + i) (by omega) hlt
          omega
  have hle : (ls.take (cnt l.n ls)).reverse.dropWhile (fun x => decide (l.n < x.n)) = (ls.take (cnt l.n ls)).reverse ∧ (ls.take (cnt l.n ls)).reverse.takeWhile (fun x => decide (l.n < x.n)) = [] := by
    cases hr : (ls.take (cnt l.n ls)).reverse with
    | nil => simp
    | cons x r =>
      have hx : x ∈ ls.take (cnt l.n ls) := by rw [← List.mem_reverse, hr]; exact List.mem_cons_self ..
      obtain ⟨i, hi, rfl⟩ := List.getElem_of_mem hx
      rw [List.length_take] at hi
      have h1 := cnt_lo (name := l.n) (ls := ls) (i := i) (by omega)
      have h2 : (ls.take (cnt l.n ls))[i] = nth ls i := by rw [List.getElem_take, nth_lt]
      rw [h2]
      have h3 : ¬ l.n < (nth ls i).n := by omega
      simp [h3]
  rw [List.dropWhile_append_of_pos hgt, List.takeWhile_append_of_pos hgt, hle.1, hle.2]
  simp [put]

def f36 (a : i36) : o36 := (a.2.2.2.2.2.2, E (bub (mk a.2.2.1 a.2.2.2.1 a.2.2.2.2.1 a.2.2.2.2.2.1) (others a.2.2.1 (D a.2.1)).reverse []))
def p36 (a : i36) : Prop := ∃ ls, a.2.1 = E ls ∧ ls.length ≤ 500
theorem s36 : Sd36 (prt p36 f36) := by
  refine of_prt (ok36 _ _ s37 s36L) ?_
  rintro ⟨x1, rows, n, h, t, u, nx⟩ ⟨ls, rfl, hl⟩
  have hlo : (others n ls).length ≤ ls.length := List.length_filter_le ..
  simp only [t36, sh0]
  rw [prt_eq (by exact ⟨ls, rfl, hl⟩)]
  simp only [f37, D_E, Option.bind_some, enc_mk, E_one, E_app, E_len]
  have hw : IntKind.i64.wrap (((others n ls ++ [mk n h t u]).length : Int) - 1) = (others n ls).length := by
    rw [wrap_i64 (by simp <;> omega) (by simp <;> omega)]; simp
  rw [hw, room38 (by simp; omega), cond_true, prt_eq (by exact ⟨_, rfl, by simp; omega, by simp, by simp only [List.length_append, List.length_cons, List.length_nil]; omega⟩)]
  simp only [f36L, D_E, Option.bind_some, f36, Int.toNat_natCast]
  have n1 : nth (others n ls ++ [mk n h t u]) (others n ls).length = mk n h t u := nth_app
  rw [n1]
  simp

/-! 27: Acquire -/
def f27 (a : i27) : o27 := encAcq (acq a.1 (D a.2.1) a.2.2.1 a.2.2.2.1 a.2.2.2.2.1 a.2.2.2.2.2)
def p27 (a : i27) : Prop := isE a.2.1
theorem s27 : Sd27 (prt p27 f27) := by
  refine of_prt (ok27 _ _ _ _ s23 s35 s32 s36) ?_
  rintro ⟨nx, rows, name, holder, now, dur⟩ ⟨ls, rfl, hl⟩
  simp only [t27, sh0, cond_dec]
  rw [prt_eq (by exact ⟨ls, rfl, hl⟩)]
  simp only [f23, Option.bind_some, D_E, f27, acq]
  cases hv : validB nx ls with
  | false => simp [encAcq, E_nil]
  | true =>
    obtain ⟨v1, v2, v3, v4, v5⟩ := valid_spec.1 hv
    simp only [Bool.not_true, cond_false, tot, f35, Option.bind_some, Bool.true_and]
    cases ht : timelyB now dur with
    | false => simp [encAcq, E_nil]
    | true =>
      obtain ⟨t1, t2, t3, t4⟩ := timely_spec.1 ht
      unfold T40 at *
      rw [prt_eq (by exact ⟨ls, rfl, hl⟩)]
      simp only [f32, Option.bind_some, D_E, Bool.not_true, cond_false, E_len, c3, ↓reduceIte]
      have hw : IntKind.i64.wrap (now + dur) = now + dur := wrap_i64 (by omega) (by omega)
      have hw2 : IntKind.i64.wrap (nx + 1) = nx + 1 := wrap_i64 (by omega) (by omega)
      rw [hw, hw2, prt_eq (by exact ⟨ls, rfl, by omega⟩)]
      simp only [f36, Option.bind_some, D_E]
      have hpb : bub (mk name holder nx (now + dur)) (others name ls).reverse [] = put (mk name holder nx (now + dur)) ls := put_bub (l := mk name holder nx (now + dur)) v5
      rw [hpb]
      cases hh : has name ls with
      | true =>
        have hlt := (has_spec.1 hh).1
        rw [atI_has v5 hh]
        have h0 : (cnt name ls : Int) ≥ 0 := by omega
        have h0' : ¬ (cnt name ls : Int) < 0 := by omega
        rw [if_pos h0, if_pos ⟨by omega, by omega⟩, if_neg h0', Int.toNat_natCast]
        by_cases h1 : now < (nth ls (cnt name ls)).u
        · simp [h1, encAcq, E_nil]
        · by_cases h2 : nx = 1099511627776
          · simp [h1, h2, encAcq, E_nil]
          · have hb : (nx == 1099511627776) = false := by simpa using h2
            rw [hb]
            simp [h1, h2, encAcq]
      | false =>
        rw [atI_not v5 hh]
        by_cases h3 : 64 ≤ ls.length
        · simp [show (64 : Int) ≤ ls.length by omega, h3, encAcq, E_nil]
        · by_cases h2 : nx = 1099511627776
          · simp [h3, h2, encAcq, E_nil, show ¬ (64 : Int) ≤ ls.length by omega]
          · have hb : (nx == 1099511627776) = false := by simpa using h2
            rw [hb]
            simp [h3, h2, encAcq, show ¬ (64 : Int) ≤ ls.length by omega]

/-! 28: Renew -/
theorem put_set {l : Le} {ls : List Le} (h : has l.n ls = true) : put l ls = ls.set (cnt l.n ls) l := by
  have hlt := (has_spec.1 h).1
  unfold put; rw [h, List.set_eq_take_append_cons_drop]; simp [hlt]
def f28 (a : i28) : o28 := encR (rnw a.1 (D a.2.1) a.2.2.1 a.2.2.2.1 a.2.2.2.2.1 a.2.2.2.2.2.1 a.2.2.2.2.2.2)
def p28 (a : i28) : Prop := isE a.2.1
theorem s28 : Sd28 (prt p28 f28) := by
  refine of_prt (ok28 _ _ _ _ s23 s35 s32 s36) ?_
  rintro ⟨nx, rows, name, holder, token, now, dur⟩ ⟨ls, rfl, hl⟩
  simp only [t28, sh0, cond_dec]
  rw [prt_eq (by exact ⟨ls, rfl, hl⟩)]
  simp only [f23, Option.bind_some, D_E, f28, rnw]
  cases hv : validB nx ls with
  | false => simp [encR, E_nil]
  | true =>
    obtain ⟨v1, v2, v3, v4, v5⟩ := valid_spec.1 hv
    simp only [Bool.not_true, cond_false, tot, f35, Option.bind_some, Bool.true_and]
    cases ht : timelyB now dur with
    | false => simp [encR, E_nil]
    | true =>
      obtain ⟨t1, t2, t3, t4⟩ := timely_spec.1 ht
      unfold T40 at *
      rw [prt_eq (by exact ⟨ls, rfl, hl⟩)]
      simp only [f32, Option.bind_some, D_E, Bool.not_true, cond_false, E_len, c0, c1, c2, c3, ↓reduceIte]
      have hw : IntKind.i64.wrap (now + dur) = now + dur := wrap_i64 (by omega) (by omega)
      rw [hw, prt_eq (by exact ⟨ls, rfl, by omega⟩)]
      simp only [f36, Option.bind_some, D_E]
      cases hh : has name ls with
      | true =>
        obtain ⟨hlt, hnm⟩ := has_spec.1 hh
        rw [atI_has v5 hh]
        have h0' : ¬ (cnt name ls : Int) < 0 := by omega
        have hr : (0 : Int) ≤ (cnt name ls : Int) ∧ (cnt name ls : Int) < (ls.length : Int) := by omega
        simp only [Int.toNat_natCast]
        rw [if_neg h0', if_pos hr, if_pos hr, if_pos hr, if_pos hr]
        by_cases h1 : (nth ls (cnt name ls)).h = holder
        · by_cases h2 : (nth ls (cnt name ls)).t = token
          · by_cases h3 : now ≥ (nth ls (cnt name ls)).u
            · have h3' : ¬ now < (nth ls (cnt name ls)).u := by omega
              simp [heldB, hh, h1, h2, h3, h3', encR, E_nil]
            · have h3' : now < (nth ls (cnt name ls)).u := by omega
              have hm : (if now + dur > (nth ls (cnt name ls)).u then now + dur else (nth ls (cnt name ls)).u) = max (nth ls (cnt name ls)).u (now + dur) := by split <;> omega
              have hb1 : ((nth ls (cnt name ls)).h != holder) = false := by simpa using h1
              have hb2 : ((nth ls (cnt name ls)).t != token) = false := by simpa using h2
              rw [hb1, hb2, cond_false, cond_false, if_neg h3, hm, hnm]
              have hs : has (mk name (nth ls (cnt name ls)).h (nth ls (cnt name ls)).t (max (nth ls (cnt name ls)).u (now + dur))).n ls = true := hh
              have hpb : bub (mk name (nth ls (cnt name ls)).h (nth ls (cnt name ls)).t (max (nth ls (cnt name ls)).u (now + dur))) (others name ls).reverse [] = _ := put_bub (l := mk name (nth ls (cnt name ls)).h (nth ls (cnt name ls)).t (max (nth ls (cnt name ls)).u (now + dur))) v5
              rw [hpb, put_set hs]
              simp [heldB, hh, h1, h2, h3', encR, mk, hnm]
          · have hb1 : ((nth ls (cnt name ls)).h != holder) = false := by simpa using h1
            have hb2 : ((nth ls (cnt name ls)).t != token) = true := by simpa using h2
            rw [hb1, hb2]
            simp [heldB, h2, encR, E_nil]
        · have hb1 : ((nth ls (cnt name ls)).h != holder) = true := by simpa using h1
          rw [hb1]
          simp [heldB, h1, encR, E_nil]
      | false =>
        rw [atI_not v5 hh]
        simp [heldB, hh, encR, E_nil]

/-! 29: Release -/
def f29 (a : i29) : o29 := encR (rel a.1 (D a.2.1) a.2.2.1 a.2.2.2.1 a.2.2.2.2)
def p29 (a : i29) : Prop := isE a.2.1
theorem s29 : Sd29 (prt p29 f29) := by
  refine of_prt (ok29 _ _ _ s23 s32 s37) ?_
  rintro ⟨nx, rows, name, holder, token⟩ ⟨ls, rfl, hl⟩
  simp only [t29, sh0, cond_dec]
  rw [prt_eq (by exact ⟨ls, rfl, hl⟩)]
  simp only [f23, Option.bind_some, D_E, f29, rel]
  cases hv : validB nx ls with
  | false => simp [encR, E_nil]
  | true =>
    obtain ⟨v1, v2, v3, v4, v5⟩ := valid_spec.1 hv
    simp only [Bool.not_true, cond_false]
    rw [prt_eq (by exact ⟨ls, rfl, hl⟩)]
    simp only [f32, Option.bind_some, D_E, Bool.not_true, cond_false, E_len, c0, c1, c2, c3, ↓reduceIte]
    rw [prt_eq (by exact ⟨ls, rfl, by omega⟩)]
    simp only [f37, Option.bind_some, D_E]
    cases hh : has name ls with
    | true =>
      obtain ⟨hlt, hnm⟩ := has_spec.1 hh
      rw [atI_has v5 hh]
      have h0' : ¬ (cnt name ls : Int) < 0 := by omega
      have hr : (0 : Int) ≤ (cnt name ls : Int) ∧ (cnt name ls : Int) < (ls.length : Int) := by omega
      simp only [Int.toNat_natCast]
      rw [if_neg h0', if_pos hr, if_pos hr]
      by_cases h1 : (nth ls (cnt name ls)).h = holder
      · have hb1 : ((nth ls (cnt name ls)).h != holder) = false := by simpa using h1
        by_cases h2 : (nth ls (cnt name ls)).t = token
        · have hb2 : ((nth ls (cnt name ls)).t != token) = false := by simpa using h2
          rw [hb1, hb2]
          simp [heldB, hh, h1, h2, encR]
        · have hb2 : ((nth ls (cnt name ls)).t != token) = true := by simpa using h2
          rw [hb1, hb2]
          simp [heldB, h2, encR, E_nil]
      · have hb1 : ((nth ls (cnt name ls)).h != holder) = true := by simpa using h1
        rw [hb1]
        simp [heldB, h1, encR, E_nil]
    | false =>
      rw [atI_not v5 hh]
      simp [heldB, hh, encR, E_nil]

/-! 22: Find -/
def f22 (a : i22) : o22 := encF (find a.1 (D a.2.1) a.2.2.1 a.2.2.2)
def p22 (a : i22) : Prop := isE a.2.1
theorem s22 : Sd22 (prt p22 f22) := by
  refine of_prt (ok22 _ _ s32 s23) ?_
  rintro ⟨nx, rows, name, now⟩ ⟨ls, rfl, hl⟩
  simp only [t22, sh0, c0, c1, c2, c3, cond_dec]
  rw [prt_eq (by exact ⟨ls, rfl, hl⟩)]
  simp only [f32, Option.bind_some]
  rw [prt_eq (by exact ⟨ls, rfl, hl⟩)]
  simp only [f23, Option.bind_some, D_E, f22, find]
  cases hv : validB nx ls with
  | false => simp [encF, z0]
  | true =>
    obtain ⟨v1, v2, v3, v4, v5⟩ := valid_spec.1 hv
    simp only [Bool.not_true, cond_false, Bool.true_and, E_len]
    cases hh : has name ls with
    | false => rw [atI_not v5 hh]; simp [encF, z0]
    | true =>
      have hlt := (has_spec.1 hh).1
      rw [atI_has v5 hh]
      have h0' : ¬ (cnt name ls : Int) < 0 := by omega
      have hr : (0 : Int) ≤ (cnt name ls : Int) ∧ (cnt name ls : Int) < (ls.length : Int) := by omega
      simp only [Int.toNat_natCast]
      rw [if_neg h0', if_pos hr, if_pos hr]
      by_cases h : now ≥ (nth ls (cnt name ls)).u
      · rw [if_pos h]; simp [show ¬ now < (nth ls (cnt name ls)).u by omega, encF, z0]
      · rw [if_neg h]; simp [show now < (nth ls (cnt name ls)).u by omega, encF]

/-! 30: Expire -/
def f30L (a : iL30_5) : oL30_5 := (a.2.2.2.2.1, a.2.2.2.2.2.1, a.2.2.2.2.2.2.1, E (D a.2.2.2.2.2.2.2 ++ alive a.1 ((D a.2.2.2.1).drop a.2.1.toNat)))
def p30L (a : iL30_5) : Prop := ∃ ls os, a.2.2.2.1 = E ls ∧ a.2.2.2.2.2.2.2 = E os ∧ ls.length ≤ 500 ∧ os.length ≤ a.2.1 ∧ a.2.1 ≤ ls.length
theorem s30L : SdL30_5 (prt p30L f30L) := by
  refine of_iterL (step := fun l a => u30_5 sh0 l a.1 a.2.1 a.2.2.1 a.2.2.2.1 a.2.2.2.2.1 a.2.2.2.2.2.1 a.2.2.2.2.2.2.1 a.2.2.2.2.2.2.2 some) okL30_5 (fun a => a.2.2.2.1.length - a.2.1.toNat) ?_
  rintro F ⟨now, i, x3, rows, x5, x6, x7, outs⟩ ⟨ls, os, rfl, rfl, hl, ho, hi⟩ ih
  simp only at ho hi
  obtain ⟨k, rfl⟩ := Int.eq_ofNat_of_zero_le (show 0 ≤ i by omega)
  simp only [E_len] at ih
  simp only [u30_5, sh0, c0, c1, c2, c3, nth_enc, E_one, E_app, E_len, cond_dec, Int.toNat_natCast, f30L, D_E]
  by_cases hlt : k < ls.length
  · have hw : IntKind.i64.wrap ((k : Int) + 1) = (k : Int) + 1 := wrap_i64 (by omega) (by omega)
    have e1 : ((k : Int) + 1).toNat = k + 1 := by omega
    rw [if_pos (by omega), if_pos (by omega), hw, drop_cons hlt]
    by_cases h1 : now < (nth ls k).u
    · rw [if_pos h1, if_pos (by omega), room38 (by simp; omega), cond_true]
      have hF := ih (now, (k : Int) + 1, x3, E ls, x5, x6, x7, E (os ++ [nth ls k])) ⟨ls, _, rfl, rfl, hl, by simp; omega, by simp only; omega⟩ (by simp; omega)
      rw [hF]
      simp [f30L, e1, alive, h1]
    · rw [if_neg h1]
      have hF := ih (now, (k : Int) + 1, x3, E ls, x5, x6, x7, E os) ⟨ls, _, rfl, rfl, hl, by simp only; omega, by simp only; omega⟩ (by simp; omega)
      rw [hF]
      simp [f30L, e1, alive, h1]
  · rw [if_neg (by omega), List.drop_of_length_le (by omega)]
    simp [alive]

def f30 (a : i30) : o30 := ((expi a.1 (D a.2.1) a.2.2).1, E (expi a.1 (D a.2.1) a.2.2).2)
def p30 (a : i30) : Prop := isE a.2.1
theorem s30 : Sd30 (prt p30 f30) := by
  refine of_prt (ok30 _ _ s23 s30L) ?_
  rintro ⟨nx, rows, now⟩ ⟨ls, rfl, hl⟩
  simp only [t30, sh0]
  rw [prt_eq (by exact ⟨ls, rfl, hl⟩)]
  simp only [f23, Option.bind_some, D_E, f30, expi]
  cases hv : validB nx ls with
  | false => simp [E_nil]
  | true =>
    obtain ⟨v1, v2, v3, v4, v5⟩ := valid_spec.1 hv
    simp only [Bool.not_true, cond_false, ↓reduceIte]
    rw [prt_eq (by exact ⟨ls, [], rfl, rfl, by omega, by simp, by simp⟩)]
    simp only [f30L, D_E, show D [] = [] from rfl, List.nil_append, Int.toNat_zero, List.drop_zero, Option.bind_some]

/-! 20: Same -/
def sameB (a b : List Le) : Bool := decide (a = b)
def f20L (a : iL20_4) : oL20_4 := if (D a.2.2.1).drop a.1.toNat = (D a.2.2.2.2).drop a.1.toNat then .inr () else .inl false
def p20L (a : iL20_4) : Prop := ∃ ls ms, a.2.2.1 = E ls ∧ a.2.2.2.2 = E ms ∧ ls.length = ms.length ∧ ls.length ≤ 9223372036854775807 ∧ 0 ≤ a.1 ∧ a.1 ≤ ls.length
theorem s20L : SdL20_4 (prt p20L f20L) := by
  refine of_iterL (step := fun l a => u20_4 sh0 l a.1 a.2.1 a.2.2.1 a.2.2.2.1 a.2.2.2.2 some) okL20_4 (fun a => a.2.2.1.length - a.1.toNat) ?_
  rintro F ⟨i, x2, rows, x4, rows2⟩ ⟨ls, ms, rfl, rfl, he, hl, h0, hi⟩ ih
  simp only at h0 hi
  obtain ⟨k, rfl⟩ := Int.eq_ofNat_of_zero_le h0
  simp only [E_len] at ih
  simp only [u20_4, sh0, c0, c1, c2, c3, E_len, cond_dec, Int.toNat_natCast, f20L, D_E]
  by_cases hlt : k < ls.length
  · have hw : IntKind.i64.wrap ((k : Int) + 1) = (k : Int) + 1 := wrap_i64 (by omega) (by omega)
    have e1 : ((k : Int) + 1).toNat = k + 1 := by omega
    rw [if_pos (by omega), if_pos ⟨by omega, by omega⟩, if_pos ⟨by omega, by omega⟩, hw, drop_cons hlt, drop_cons (by omega : k < ms.length)]
    have heq : ((nth ls k).n == (nth ms k).n && ((nth ls k).h == (nth ms k).h && ((nth ls k).t == (nth ms k).t && ((nth ls k).u == (nth ms k).u && true)))) = decide (nth ls k = nth ms k) := by
      generalize nth ls k = x
      generalize nth ms k = y
      obtain ⟨a, b, c, d⟩ := x
      obtain ⟨a', b', c', d'⟩ := y
      rw [Bool.eq_iff_iff]
      simp
    rw [heq]
    by_cases h : nth ls k = nth ms k
    · have hF := ih ((k : Int) + 1, x2, E ls, x4, E ms) ⟨ls, ms, rfl, rfl, he, hl, by simp only; omega, by simp only; omega⟩ (by simp; omega)
      rw [hF]
      simp [h, f20L, e1]
    · simp [h]
  · rw [if_neg (by omega), List.drop_of_length_le (by omega), List.drop_of_length_le (by omega)]
    simp

def f20 (a : i20) : o20 := decide (a.1 = a.2.2.1) && decide (D a.2.1 = D a.2.2.2)
def p20 (a : i20) : Prop := isE a.2.1 ∧ isE a.2.2.2
theorem s20 : Sd20 (prt p20 f20) := by
  refine of_prt (ok20 _ s20L) ?_
  rintro ⟨x1, rows, x3, rows2⟩ ⟨⟨ls, rfl, hl⟩, ms, rfl, hm⟩
  simp only [t20, sh0, f20, D_E, E_len]
  by_cases h1 : x1 = x3
  · have hb : (x1 != x3) = false := by simpa using h1
    rw [hb, cond_false]
    by_cases h2 : ls.length = ms.length
    · have hb2 : ((ls.length : Int) != (ms.length : Int)) = false := by simp [h2]
      rw [hb2, cond_false, prt_eq (by exact ⟨ls, ms, rfl, rfl, h2, hl, by simp, by simp⟩)]
      simp only [f20L, D_E, Int.toNat_zero, List.drop_zero, Option.bind_some]
      by_cases h3 : ls = ms
      · simp [h3, h1, two]
      · simp [h3, two]
    · have hb2 : ((ls.length : Int) != (ms.length : Int)) = true := by simp; omega
      rw [hb2]
      simp [show ls ≠ ms from fun e => h2 (by rw [e])]
  · have hb : (x1 != x3) = true := by simpa using h1
    rw [hb]
    simp [h1]

end Go.Proofs.Lea

namespace Go.Proofs.Lea
open Go Go.Ev Go.Proofs.LeG

theorem put_len {l : Le} {ls : List Le} : (put l ls).length = ls.length + if has l.n ls then 0 else 1 := by
  have hc := cnt_le l.n ls
  cases hh : has l.n ls with
  | true => have := (has_spec.1 hh).1; simp [put, hh]; omega
  | false => simp [put, hh]; omega

theorem acq_len {nx : Int} {ls : List Le} {n h now d : Int} : (acq nx ls n h now d).2.1.length ≤ 64 := by
  unfold acq
  split
  · rename_i hv
    simp only [Bool.and_eq_true] at hv
    obtain ⟨v1, v2, v3, v4, v5⟩ := valid_spec.1 hv.1
    split
    · simp
    · split
      · simp
      · rename_i h1
        simp only [put_len, mk]
        simp only [Bool.or_eq_true, Bool.and_eq_true, Bool.not_eq_true', decide_eq_true_eq, not_or, not_and] at h1
        cases hh : has n ls with
        | true => simp; omega
        | false => have := h1.1 hh; simp; omega
  · simp
theorem rnw_len {nx : Int} {ls : List Le} {n h t now d : Int} : (rnw nx ls n h t now d).2.1.length ≤ 64 := by
  unfold rnw
  split
  · rename_i hv
    simp only [Bool.and_eq_true] at hv
    obtain ⟨v1, v2, v3, v4, v5⟩ := valid_spec.1 hv.1
    split <;> simp; omega
  · simp
theorem rel_len {nx : Int} {ls : List Le} {n h t : Int} : (rel nx ls n h t).2.1.length ≤ 64 := by
  unfold rel
  split
  · rename_i hv
    obtain ⟨v1, v2, v3, v4, v5⟩ := valid_spec.1 hv
    split
    · exact Nat.le_trans (List.length_filter_le ..) v3
    · simp
  · simp
theorem expi_len {nx : Int} {ls : List Le} {now : Int} : (expi nx ls now).2.length ≤ 64 := by
  unfold expi
  split
  · rename_i hv
    obtain ⟨v1, v2, v3, v4, v5⟩ := valid_spec.1 hv
    exact Nat.le_trans (List.length_filter_le ..) v3
  · simp

theorem isE_of {ls : List Le} (h : ls.length ≤ 1000) : isE (E ls) := ⟨ls, rfl, by omega⟩
theorem isE_acq {nx : Int} {ls : List Le} {n h now d : Int} : isE (E (acq nx ls n h now d).2.1) := isE_of (by have := acq_len (nx := nx) (ls := ls) (n := n) (h := h) (now := now) (d := d); omega)
theorem isE_rnw {nx : Int} {ls : List Le} {n h t now d : Int} : isE (E (rnw nx ls n h t now d).2.1) := isE_of (by have := rnw_len (nx := nx) (ls := ls) (n := n) (h := h) (t := t) (now := now) (d := d); omega)
theorem isE_rel {nx : Int} {ls : List Le} {n h t : Int} : isE (E (rel nx ls n h t).2.1) := isE_of (by have := rel_len (nx := nx) (ls := ls) (n := n) (h := h) (t := t); omega)
theorem isE_expi {nx : Int} {ls : List Le} {now : Int} : isE (E (expi nx ls now).2) := isE_of (by have := expi_len (nx := nx) (ls := ls) (now := now); omega)

/-! 13: awake -/
def f13 (_ : i13) : o13 := true
theorem s13 : Sd13 (tot f13) := by
  refine of_tot (ok13 _ _ s10 s11) ?_
  rintro ⟨⟩
  simp only [t13, sh0, tot, f10, Option.bind_some]
  rw [prt_eq (by exact isE_of (by simp))]
  simp only [f11, D_E, encAcq, Option.bind_some]
  rw [prt_eq (by exact isE_acq)]
  simp only [f11, D_E, encAcq, Option.bind_some]
  rw [prt_eq (by exact isE_acq)]
  simp only [f11, D_E, encAcq, Option.bind_some, f13]
  rfl

/-! 21: step -/
structure Act where
  k : Int
  n : Int
  h : Int
  t : Int
  now : Int
  d : Int

def kd (x : Int) : Int := IntKind.i64.wrap (((BitVec.ofInt 64 x &&& BitVec.ofInt 64 3).toNat : Nat) : Int)
theorem kd_range (x : Int) : kd x = 0 ∨ kd x = 1 ∨ kd x = 2 ∨ kd x = 3 := by
  have h : (BitVec.ofInt 64 x &&& BitVec.ofInt 64 3).toNat ≤ 3 := by
    rw [BitVec.toNat_and]
    exact Nat.and_le_right
  have : kd x = (BitVec.ofInt 64 x &&& BitVec.ofInt 64 3).toNat := wrap_i64 (by omega) (by omega)
  omega

def stepT (T : Int × List Le) (a : Act) : Int × List Le :=
  if kd a.k = 0 then (if (acq T.1 T.2 a.n a.h a.now a.d).2.2.2 = 0 then ((acq T.1 T.2 a.n a.h a.now a.d).1, (acq T.1 T.2 a.n a.h a.now a.d).2.1) else T)
  else if kd a.k = 1 then (if (rnw T.1 T.2 a.n a.h a.t a.now a.d).2.2 = 0 then ((rnw T.1 T.2 a.n a.h a.t a.now a.d).1, (rnw T.1 T.2 a.n a.h a.t a.now a.d).2.1) else T)
  else if kd a.k = 2 then (if (rel T.1 T.2 a.n a.h a.t).2.2 = 0 then ((rel T.1 T.2 a.n a.h a.t).1, (rel T.1 T.2 a.n a.h a.t).2.1) else T)
  else expi T.1 T.2 a.now

def actOf (a : i21) : Act := ⟨a.2.2.2.2.1, a.2.2.2.2.2.1, a.2.2.2.2.2.2.1, a.2.2.2.2.2.2.2.1, a.2.2.2.2.2.2.2.2.1, a.2.2.2.2.2.2.2.2.2⟩
def f21 (a : i21) : o21 := ((stepT (a.1, D a.2.1) (actOf a)).1, E (stepT (a.1, D a.2.1) (actOf a)).2, (stepT (a.1, D a.2.1) (actOf a)).1, E (stepT (a.1, D a.2.1) (actOf a)).2, true)
def p21 (a : i21) : Prop := isE a.2.1 ∧ a.2.2.1 = a.1 ∧ a.2.2.2.1 = a.2.1
theorem s21 : Sd21 (prt p21 f21) := by
  refine of_prt (ok21 _ _ _ _ _ _ _ _ _ s11 s27 s20 s17 s28 s18 s29 s12 s30) ?_
  rintro ⟨nx, rows, nx2, rows2, k, n, h, t, now, d⟩ ⟨⟨ls, rfl, hl⟩, he1, he2⟩
  simp only at he1 he2
  subst he1; subst he2
  have hE : isE (E ls) := ⟨ls, rfl, hl⟩
  have hkd : IntKind.i64.wrap ((((BitVec.ofInt 64 k &&& BitVec.ofInt 64 3)).toNat : Nat) : Int) = kd k := rfl
  simp only [t21, sh0, hkd, f21, D_E, actOf, stepT]
  rcases kd_range k with e | e | e | e
  · simp only [e, beq_self_eq_true, cond_true, ↓reduceIte]
    rw [prt_eq (by exact hE), prt_eq (by exact hE)]
    simp only [f11, f27, D_E, encAcq, Option.bind_some, bne_self_eq_false, cond_false]
    rw [prt_eq (by exact ⟨isE_acq, isE_acq⟩)]
    simp only [f20, decide_true, Bool.and_self, Option.bind_some, Bool.not_true, cond_false]
    by_cases h0 : (acq nx2 ls n h now d).2.2.2 = 0
    · rw [h0]; simp
    · have hb : ((acq nx2 ls n h now d).2.2.2 != 0) = true := by simpa using h0
      rw [hb]; simp [h0]
  · simp only [e, cond_true, cond_false, ↓reduceIte, show ((1 : Int) == 0) = false from rfl, show ((1 : Int) == 1) = true from rfl, show ¬ ((1 : Int) = 0) by omega]
    rw [prt_eq (by exact hE), prt_eq (by exact hE)]
    simp only [f17, f28, D_E, encR, Option.bind_some, bne_self_eq_false, cond_false]
    rw [prt_eq (by exact ⟨isE_rnw, isE_rnw⟩)]
    simp only [f20, decide_true, Bool.and_self, Option.bind_some, Bool.not_true, cond_false]
    by_cases h0 : (rnw nx2 ls n h t now d).2.2 = 0
    · rw [h0]; simp
    · have hb : ((rnw nx2 ls n h t now d).2.2 != 0) = true := by simpa using h0
      rw [hb]; simp [h0]
  · simp only [e, cond_true, cond_false, ↓reduceIte, show ((2 : Int) == 0) = false from rfl, show ((2 : Int) == 1) = false from rfl, show ((2 : Int) == 2) = true from rfl, show ¬ ((2 : Int) = 0) by omega, show ¬ ((2 : Int) = 1) by omega]
    rw [prt_eq (by exact hE), prt_eq (by exact hE)]
    simp only [f18, f29, D_E, encR, Option.bind_some, bne_self_eq_false, cond_false]
    rw [prt_eq (by exact ⟨isE_rel, isE_rel⟩)]
    simp only [f20, decide_true, Bool.and_self, Option.bind_some, Bool.not_true, cond_false]
    by_cases h0 : (rel nx2 ls n h t).2.2 = 0
    · rw [h0]; simp
    · have hb : ((rel nx2 ls n h t).2.2 != 0) = true := by simpa using h0
      rw [hb]; simp [h0]
  · simp only [e, cond_true, cond_false, ↓reduceIte, show ((3 : Int) == 0) = false from rfl, show ((3 : Int) == 1) = false from rfl, show ((3 : Int) == 2) = false from rfl, show ((3 : Int) == 3) = true from rfl, show ¬ ((3 : Int) = 0) by omega, show ¬ ((3 : Int) = 1) by omega, show ¬ ((3 : Int) = 2) by omega]
    rw [prt_eq (by exact hE), prt_eq (by exact hE)]
    simp only [f12, f30, D_E, Option.bind_some]
    rw [prt_eq (by exact ⟨isE_expi, isE_expi⟩)]
    simp [f20]

theorem stepT_len {T : Int × List Le} {a : Act} (h : T.2.length ≤ 1000) : (stepT T a).2.length ≤ 1000 := by
  unfold stepT
  split
  · split
    · have := acq_len (nx := T.1) (ls := T.2) (n := a.n) (h := a.h) (now := a.now) (d := a.d); simp only; omega
    · exact h
  · split
    · split
      · have := rnw_len (nx := T.1) (ls := T.2) (n := a.n) (h := a.h) (t := a.t) (now := a.now) (d := a.d); simp only; omega
      · exact h
    · split
      · split
        · have := rel_len (nx := T.1) (ls := T.2) (n := a.n) (h := a.h) (t := a.t); simp only; omega
        · exact h
      · have := expi_len (nx := T.1) (ls := T.2) (now := a.now); omega

/-! 8: LeaseRaw -/
theorem encF_same (r : Le × Bool) : (Prod.fst (encF r) == Prod.fst (encF r) && (Prod.fst (encF r).2 == Prod.fst (encF r).2 && (Prod.fst (Prod.snd (encF r)).2 == Prod.fst (Prod.snd (encF r)).2 && (Prod.fst (Prod.snd (Prod.snd (encF r))).2 == Prod.fst (Prod.snd (Prod.snd (encF r))).2 && true)))) = true := by simp
theorem law8 (a : i8) (hE : isE a.2.1) : t8 sh0 (tot f13) (prt p21 f21) (prt p15 f15) (prt p22 f22) (prt p16 f16) (prt p23 f23) a.1 a.2.1 a.2.2.1 a.2.2.2.1 a.2.2.2.2.1 a.2.2.2.2.2.1 a.2.2.2.2.2.2.1 a.2.2.2.2.2.2.2 some = some true := by
  obtain ⟨nx, rows, k, n, h, t, now, d⟩ := a
  obtain ⟨ls, e, hl⟩ := id hE
  simp only at e hE ⊢
  subst e
  simp only [t8, sh0, cond_dec, E_len, tot, f13, Option.bind_some]
  by_cases h1 : (ls.length : Int) > 70
  · rw [if_pos h1]
  · rw [if_neg h1, prt_eq (by exact ⟨hE, rfl, rfl⟩)]
    simp only [f21, Option.bind_some, cond_true]
    rw [prt_eq (by exact hE), prt_eq (by exact hE), prt_eq (by exact hE), prt_eq (by exact hE)]
    simp only [f15, f22, f16, f23, D_E, Option.bind_some, beq_self_eq_true, cond_true, Bool.and_self]

end Go.Proofs.Lea

namespace Go.Proofs.Lea
open Go Go.Ev Go.Proofs.LeG

def look (name : Int) (ls : List Le) : Option Le := ls.find? fun l => l.n == name

theorem look_sorted {name : Int} {ls : List Le} (h : Sorted ls) : look name ls = if has name ls then some (nth ls (cnt name ls)) else none := by
  unfold look
  cases hh : has name ls with
  | true =>
    obtain ⟨h1, h2⟩ := has_spec.1 hh
    simp only [↓reduceIte]
    rw [List.find?_eq_some_iff_getElem]
    refine ⟨by simpa using h2, cnt name ls, h1, (nth_lt h1).symm, fun j hj => ?_⟩
    have := cnt_lo (name := name) (ls := ls) hj
    rw [nth_lt (by omega)] at this
    simp; omega
  | false =>
    have := atI_not h hh
    unfold atI atFrom at this
    simp only [List.drop_zero, Bool.false_eq_true, ↓reduceIte] at this ⊢
    rw [List.find?_eq_none]
    intro l hl
    cases hx : ls.findIdx? (fun l => l.n == name) with
    | none => have := List.findIdx?_eq_none_iff.1 hx l hl; simpa using this
    | some i => rw [hx] at this; simp at this

theorem put_eq {l : Le} {ls : List Le} (h : Sorted ls) : put l ls = ls.take (cnt l.n ls) ++ l :: ls.drop (cnt l.n ls + if has l.n ls then 1 else 0) := rfl

theorem take_lt {name : Int} {ls : List Le} : ∀ x ∈ ls.take (cnt name ls), x.n < name := by
  intro x hx
  obtain ⟨i, hi, rfl⟩ := List.getElem_of_mem hx
  rw [List.length_take] at hi
  have h1 := cnt_lo (name := name) (ls := ls) (i := i) (by omega)
  rw [List.getElem_take, ← nth_lt]; exact h1

theorem drop_gt {name : Int} {ls : List Le} (h : Sorted ls) : ∀ x ∈ ls.drop (cnt name ls + if has name ls then 1 else 0), name < x.n := by
  intro x hx
  have ho := others_sorted (name := name) h
  have h1 : x ∈ others name ls := by rw [ho]; exact List.mem_append_right _ hx
  have hne : x.n ≠ name := by have := (List.mem_filter.1 h1).2; simpa using this
  obtain ⟨i, hi, rfl⟩ := List.getElem_of_mem hx
  rw [List.length_drop] at hi
  rw [List.getElem_drop] at hne ⊢
  have hlt : (cnt name ls + if has name ls then 1 else 0) + i < ls.length := by omega
  rw [← nth_lt hlt] at hne ⊢
  have := cnt_hi (name := name) h (i := (cnt name ls + if has name ls then 1 else 0) + i) (by omega) hlt
  omega

theorem others_sub {name : Int} {ls : List Le} : (others name ls).Sublist ls := List.filter_sublist
theorem sorted_sub {a b : List Le} (h : a.Sublist b) (hb : Sorted b) : Sorted a := List.Pairwise.sublist h hb

theorem put_sorted {l : Le} {ls : List Le} (h : Sorted ls) : Sorted (put l ls) := by
  have ho := sorted_sub (others_sub (name := l.n)) h
  rw [others_sorted h] at ho
  unfold Sorted at *
  rw [List.pairwise_append] at ho
  unfold put
  rw [List.pairwise_append]
  refine ⟨ho.1, List.pairwise_cons.2 ⟨fun x hx => drop_gt h x hx, ho.2.1⟩, fun a ha b hb => ?_⟩
  have h1 := take_lt a ha
  rcases List.mem_cons.1 hb with rfl | hb
  · exact h1
  · have := drop_gt h b hb; omega

theorem look_put {l : Le} {ls : List Le} (h : Sorted ls) (m : Int) : look m (put l ls) = if m = l.n then some l else look m ls := by
  have hmem : ∀ x ∈ ls.take (cnt l.n ls), x.n < l.n := take_lt
  unfold look put
  by_cases hm : m = l.n
  · subst hm
    rw [if_pos rfl, List.find?_append]
    have : (ls.take (cnt l.n ls)).find? (fun x => x.n == l.n) = none := by
      rw [List.find?_eq_none]; intro x hx; have := hmem x hx; simp; omega
    rw [this]; simp
  · rw [if_neg hm]
    have e : ls.find? (fun x => x.n == m) = (others l.n ls).find? (fun x => x.n == m) := by
      unfold others
      rw [List.find?_filter]
      congr 1; funext x
      by_cases hx : x.n = m
      · simp [hx, hm]
      · simp [hx]
    rw [e, others_sorted h, List.find?_append, List.find?_append, List.find?_cons]
    have : (l.n == m) = false := by simp; omega
    rw [this]

theorem look_others {n : Int} {ls : List Le} (m : Int) (hm : m ≠ n) : look m (others n ls) = look m ls := by
  unfold look others
  rw [List.find?_filter]
  congr 1; funext x
  by_cases hx : x.n = m
  · simp [hx, hm]
  · simp [hx]

theorem look_alive {now : Int} {ls : List Le} (h : Sorted ls) (m : Int) : look m (alive now ls) = (look m ls).filter fun l => decide (now < l.u) := by
  induction ls with
  | nil => rfl
  | cons l r ih =>
    have h2 := List.pairwise_cons.1 h
    have ih := ih h2.2
    unfold look alive at ih ⊢
    by_cases hm : l.n = m
    · have hr : ∀ x ∈ r, x.n ≠ m := fun x hx => by have := h2.1 x hx; omega
      have h3 : (r.filter fun l => decide (now < l.u)).find? (fun l => l.n == m) = none := by
        rw [List.find?_eq_none]; intro x hx; have := hr x (List.mem_filter.1 hx).1; simpa using this
      by_cases hu : now < l.u
      · simp [hm, hu, Option.filter]
      · have e : (l :: r).filter (fun l => decide (now < l.u)) = r.filter fun l => decide (now < l.u) := by simp [hu]
        rw [e, h3]; simp [hm, hu, Option.filter]
    · have hb : (l.n == m) = false := by simpa using hm
      by_cases hu : now < l.u
      · simp only [List.filter_cons, hu, decide_true, ↓reduceIte, List.find?_cons, hb]
        exact ih
      · simp only [List.filter_cons, hu, decide_false, Bool.false_eq_true, ↓reduceIte, List.find?_cons, hb]
        exact ih

theorem find_look {nx : Int} {ls : List Le} {name now : Int} (hv : validB nx ls = true) : find nx ls name now = match look name ls with | some l => if now < l.u then (l, true) else (z0, false) | none => (z0, false) := by
  have h5 := (valid_spec.1 hv).2.2.2.2
  rw [look_sorted h5]
  unfold find
  rw [hv]
  cases hh : has name ls with
  | true => by_cases hn : now < (nth ls (cnt name ls)).u <;> simp [hn]
  | false => simp

/-! ### Validity -/

theorem valid_put {nx : Int} {ls : List Le} {l : Le} (hv : validB nx ls = true) (h1 : nx ≠ T40) (hl : has l.n ls = true ∨ ls.length < 64) (ht : l.t = nx) : validB (nx + 1) (put l ls) = true := by
  obtain ⟨v1, v2, v3, v4, v5⟩ := valid_spec.1 hv
  refine valid_spec.2 ⟨by omega, by omega, ?_, fun x hx => ?_, put_sorted v5⟩
  · rw [put_len]; rcases hl with hl | hl
    · rw [hl]; simp; omega
    · cases has l.n ls <;> simp <;> omega
  · unfold put at hx
    rcases List.mem_append.1 hx with hx | hx
    · have := v4 x (List.mem_of_mem_take hx); omega
    · rcases List.mem_cons.1 hx with rfl | hx
      · omega
      · have := v4 x (List.mem_of_mem_drop hx); omega

theorem valid_sub {nx : Int} {ls ms : List Le} (hv : validB nx ls = true) (h : ms.Sublist ls) : validB nx ms = true := by
  obtain ⟨v1, v2, v3, v4, v5⟩ := valid_spec.1 hv
  exact valid_spec.2 ⟨v1, v2, Nat.le_trans h.length_le v3, fun x hx => v4 x (h.subset hx), sorted_sub h v5⟩

/-- What an Acquire that succeeds has found. -/
theorem acq_ok {nx : Int} {ls : List Le} {n h now d : Int} (he : (acq nx ls n h now d).2.2.2 = 0) : validB nx ls = true ∧ timelyB now d = true ∧ nx ≠ T40 ∧ (has n ls = true ∨ ls.length < 64) ∧ acq nx ls n h now d = (nx + 1, put (mk n h nx (now + d)) ls, nx, 0) ∧ ¬ (has n ls = true ∧ now < (nth ls (cnt n ls)).u) := by
  unfold acq at he ⊢
  split at he
  · rename_i hv
    simp only [Bool.and_eq_true] at hv
    rw [if_pos (by simp [hv.1, hv.2])]
    split at he
    · simp at he
    · rename_i h1
      rw [if_neg h1]
      split at he
      · simp at he
      · rename_i h2
        rw [if_neg h2]
        simp only [Bool.or_eq_true, Bool.and_eq_true, Bool.not_eq_true', decide_eq_true_eq, not_or, not_and] at h1 h2
        refine ⟨hv.1, hv.2, h2.2, ?_, rfl, fun hx => h1 hx.1 hx.2⟩
        cases hh : has n ls with
        | true => exact .inl rfl
        | false => exact .inr (by have := h2.1 hh; omega)
  · simp at he

theorem acq_valid {nx : Int} {ls : List Le} {n h now d : Int} (he : (acq nx ls n h now d).2.2.2 = 0) : validB (acq nx ls n h now d).1 (acq nx ls n h now d).2.1 = true := by
  obtain ⟨hv, _, h1, h2, h3, _⟩ := acq_ok he
  rw [h3]
  exact valid_put (l := mk n h nx (now + d)) hv h1 h2 rfl

theorem rnw_ok {nx : Int} {ls : List Le} {n h t now d : Int} (he : (rnw nx ls n h t now d).2.2 = 0) : validB nx ls = true ∧ ∃ l, l.n = n ∧ (∃ i, i < ls.length ∧ l.t = (nth ls i).t) ∧ rnw nx ls n h t now d = (nx, put l ls, 0) ∧ has n ls = true := by
  unfold rnw at he ⊢
  split at he
  · rename_i hv
    simp only [Bool.and_eq_true] at hv
    rw [if_pos (by simp [hv.1, hv.2])]
    split at he
    · rename_i h1
      rw [if_pos h1]
      simp only [Bool.and_eq_true] at h1
      have hh := held_has h1.1
      obtain ⟨h2, h3⟩ := has_spec.1 hh
      refine ⟨hv.1, { nth ls (cnt n ls) with u := max (nth ls (cnt n ls)).u (now + d) }, h3, ⟨cnt n ls, h2, rfl⟩, ?_, hh⟩
      have hs : has ({ nth ls (cnt n ls) with u := max (nth ls (cnt n ls)).u (now + d) } : Le).n ls = true := by
        show has (nth ls (cnt n ls)).n ls = true
        rw [h3]; exact hh
      rw [put_set hs]
      show (nx, ls.set (cnt n ls) _, (0 : Int)) = (nx, ls.set (cnt (nth ls (cnt n ls)).n ls) _, 0)
      rw [h3]
    · simp at he
  · simp at he

theorem rnw_valid {nx : Int} {ls : List Le} {n h t now d : Int} (he : (rnw nx ls n h t now d).2.2 = 0) : validB (rnw nx ls n h t now d).1 (rnw nx ls n h t now d).2.1 = true := by
  obtain ⟨hv, l, h1, ⟨i, hi, ht⟩, h3, hh⟩ := rnw_ok he
  rw [h3]
  obtain ⟨v1, v2, v3, v4, v5⟩ := valid_spec.1 hv
  refine valid_spec.2 ⟨v1, v2, ?_, fun x hx => ?_, put_sorted v5⟩
  · rw [put_len, h1, hh]; simp; omega
  · simp only [put] at hx
    rcases List.mem_append.1 hx with hx | hx
    · exact v4 x (List.mem_of_mem_take hx)
    · rcases List.mem_cons.1 hx with rfl | hx
      · rw [ht, nth_lt hi]; exact v4 _ (List.getElem_mem hi)
      · exact v4 x (List.mem_of_mem_drop hx)

theorem rel_ok {nx : Int} {ls : List Le} {n h t : Int} (he : (rel nx ls n h t).2.2 = 0) : validB nx ls = true ∧ rel nx ls n h t = (nx, others n ls, 0) := by
  unfold rel at he ⊢
  split at he
  · rename_i hv
    rw [if_pos hv]
    split at he
    · rename_i h1; rw [if_pos h1]; exact ⟨hv, rfl⟩
    · simp at he
  · simp at he

theorem stepT_valid {T : Int × List Le} {a : Act} (hv : validB T.1 T.2 = true) : validB (stepT T a).1 (stepT T a).2 = true := by
  unfold stepT
  split
  · split
    · rename_i h; exact acq_valid h
    · exact hv
  · split
    · split
      · rename_i h; exact rnw_valid h
      · exact hv
    · split
      · split
        · rename_i h; rw [(rel_ok h).2]; exact valid_sub hv others_sub
        · exact hv
      · unfold expi; rw [if_pos hv]; exact valid_sub hv List.filter_sublist

theorem stepT_grow {T : Int × List Le} {a : Act} : (stepT T a).2.length ≤ T.2.length + 1 := by
  unfold stepT
  split
  · split
    · rename_i h; rw [(acq_ok h).2.2.2.2.1]; simp only [put_len]; split <;> omega
    · omega
  · split
    · split
      · rename_i h; obtain ⟨_, l, _, _, h3, _⟩ := rnw_ok h; rw [h3]; simp only [put_len]; split <;> omega
      · omega
    · split
      · split
        · rename_i h; rw [(rel_ok h).2]; have := (others_sub (name := a.n) (ls := T.2)).length_le; simp only; omega
        · omega
      · unfold expi; split
        · have := List.length_filter_le (fun l : Le => decide (a.now < l.u)) T.2; simp only [alive]; omega
        · simp

/-- An operation on one name leaves the others. -/
theorem stepT_others {T : Int × List Le} {a : Act} (hv : validB T.1 T.2 = true) (hk : kd a.k ≠ 3) {m : Int} (hm : m ≠ a.n) : look m (stepT T a).2 = look m T.2 := by
  have h5 := (valid_spec.1 hv).2.2.2.2
  unfold stepT
  rcases kd_range a.k with e | e | e | e
  · simp only [e, ↓reduceIte]
    split
    · rename_i h; rw [(acq_ok h).2.2.2.2.1]; simp only [look_put h5, mk]; rw [if_neg hm]
    · rfl
  · simp only [e, ↓reduceIte, show ¬ ((1 : Int) = 0) by omega]
    split
    · rename_i h; obtain ⟨_, l, h1, _, h3, _⟩ := rnw_ok h; rw [h3]; simp only [look_put h5, h1]; rw [if_neg hm]
    · rfl
  · simp only [e, ↓reduceIte, show ¬ ((2 : Int) = 0) by omega, show ¬ ((2 : Int) = 1) by omega]
    split
    · rename_i h; rw [(rel_ok h).2]; exact look_others m hm
    · rfl
  · exact absurd e hk

/-! 14: made -/
def actAt (rows : Rows) (i : Nat) : Act := ⟨(cellAt rows i 0).getI, (cellAt rows i 1).getI, (cellAt rows i 2).getI, (cellAt rows i 3).getI, (cellAt rows i 4).getI, (cellAt rows i 5).getI⟩
def runs (rows : Rows) : Nat → Nat → Int × List Le → Int × List Le
  | 0, _, T => T
  | n + 1, i, T => if i < rows.length then runs rows n (i + 1) (stepT T (actAt rows i)) else T

theorem runs_ok {rows : Rows} : ∀ {n i : Nat} {T : Int × List Le}, validB T.1 T.2 = true → validB (runs rows n i T).1 (runs rows n i T).2 = true ∧ (runs rows n i T).2.length ≤ T.2.length + n := by
  intro n
  induction n with
  | zero => intro i T h; exact ⟨h, Nat.le_refl _⟩
  | succ n ih =>
    intro i T h
    unfold runs
    split
    · obtain ⟨h1, h2⟩ := ih (i := i + 1) (stepT_valid (a := actAt rows i) h)
      exact ⟨h1, by have := stepT_grow (T := T) (a := actAt rows i); omega⟩
    · exact ⟨h, by omega⟩

def f14L (a : iL14_3) : oL14_3 := (a.2.2.1, (runs a.1 (30 - a.2.1.toNat) a.2.1.toNat (a.2.2.2.1, D a.2.2.2.2.1)).1, E (runs a.1 (30 - a.2.1.toNat) a.2.1.toNat (a.2.2.2.1, D a.2.2.2.2.1)).2, a.2.2.2.2.2)
def p14L (a : iL14_3) : Prop := ∃ ls, a.2.2.2.2.1 = E ls ∧ ls.length ≤ 1000 ∧ 0 ≤ a.2.1 ∧ a.2.1 ≤ 30
theorem s14L : SdL14_3 (prt p14L f14L) := by
  refine of_iterL (step := fun l a => u14_3 sh0 (prt p27 f27) (prt p28 f28) (prt p29 f29) (prt p30 f30) l a.1 a.2.1 a.2.2.1 a.2.2.2.1 a.2.2.2.2.1 a.2.2.2.2.2 some) (fun l hl => okL14_3 _ _ _ _ l s27 s28 s29 s30 hl) (fun a => 30 - a.2.1.toNat) ?_
  rintro F ⟨acts, i, x3, nx, rows, x6⟩ ⟨ls, rfl, hl, h0, hi⟩ ih
  simp only at h0 hi
  obtain ⟨k, rfl⟩ := Int.eq_ofNat_of_zero_le h0
  have hE : isE (E ls) := isE_of hl
  simp only [u14_3, sh0, cond_dec, Int.toNat_natCast, f14L, D_E]
  by_cases hlt : (k : Int) < acts.length
  · by_cases h30 : (k : Int) < 30
    · have hw : IntKind.i64.wrap ((k : Int) + 1) = (k : Int) + 1 := wrap_i64 (by omega) (by omega)
      have e1 : ((k : Int) + 1).toNat = k + 1 := by omega
      obtain ⟨m, hm⟩ : ∃ m, 30 - k = m + 1 := ⟨29 - k, by omega⟩
      have hm2 : 30 - (k + 1) = m := by omega
      have hr : runs acts (30 - k) k (nx, ls) = runs acts m (k + 1) (stepT (nx, ls) (actAt acts k)) := by
        rw [hm]; show (if k < acts.length then _ else _) = _; rw [if_pos (by omega)]
      have hF : ∀ T : Int × List Le, T.2.length ≤ 1000 → F (acts, (k : Int) + 1, x3, T.1, E T.2, x6) = some (f14L (acts, (k : Int) + 1, x3, T.1, E T.2, x6)) := fun T hT =>
        ih _ ⟨T.2, rfl, hT, by simp only; omega, by simp only; omega⟩ (by simp only; omega)
      have fin : ∀ T : Int × List Le, (some (f14L (acts, (k : Int) + 1, x3, T.1, E T.2, x6))).bind some = some (x3, (runs acts m (k + 1) T).1, E (runs acts m (k + 1) T).2, x6) := fun T => by simp [f14L, e1, hm2]
      obtain ⟨a, ha⟩ : ∃ a : Act, actAt acts k = a := ⟨_, rfl⟩
      have a0 : (cellAt acts k 0).getI = a.k := by rw [← ha]; rfl
      have a1 : (cellAt acts k 1).getI = a.n := by rw [← ha]; rfl
      have a2 : (cellAt acts k 2).getI = a.h := by rw [← ha]; rfl
      have a3 : (cellAt acts k 3).getI = a.t := by rw [← ha]; rfl
      have a4 : (cellAt acts k 4).getI = a.now := by rw [← ha]; rfl
      have a5 : (cellAt acts k 5).getI = a.d := by rw [← ha]; rfl
      rw [ha] at hr
      simp only [a0, a1, a2, a3, a4, a5]
      have hkd : IntKind.i64.wrap ((((BitVec.ofInt 64 a.k &&& BitVec.ofInt 64 3)).toNat : Nat) : Int) = kd a.k := rfl
      have hst := stepT_len (T := (nx, ls)) (a := a) hl
      rw [if_pos hlt, if_pos h30, if_pos ⟨by omega, hlt⟩, hkd, hw, hr]
      generalize hS : stepT (nx, ls) a = S at hst
      unfold stepT at hS
      rcases kd_range a.k with e | e | e | e
      · simp only [e, beq_self_eq_true, cond_true, ↓reduceIte] at hS ⊢
        rw [prt_eq (by exact hE)]
        simp only [f27, D_E, encAcq, Option.bind_some]
        by_cases h : (acq nx ls a.n a.h a.now a.d).2.2.2 = 0
        · rw [if_pos h] at hS; rw [h]; subst hS
          simp only [beq_self_eq_true, cond_true]
          rw [hF _ hst, fin]
        · rw [if_neg h] at hS; subst hS
          have hb : ((acq nx ls a.n a.h a.now a.d).2.2.2 == 0) = false := by simpa using h
          rw [hb, cond_false, hF (nx, ls) hl, fin (nx, ls)]
      · simp only [e, cond_true, cond_false, ↓reduceIte, show ((1 : Int) == 0) = false from rfl, show ((1 : Int) == 1) = true from rfl, show ¬ ((1 : Int) = 0) by omega] at hS ⊢
        rw [prt_eq (by exact hE)]
        simp only [f28, D_E, encR, Option.bind_some]
        by_cases h : (rnw nx ls a.n a.h a.t a.now a.d).2.2 = 0
        · rw [if_pos h] at hS; rw [h]; subst hS
          simp only [beq_self_eq_true, cond_true]
          rw [hF _ hst, fin]
        · rw [if_neg h] at hS; subst hS
          have hb : ((rnw nx ls a.n a.h a.t a.now a.d).2.2 == 0) = false := by simpa using h
          rw [hb, cond_false, hF (nx, ls) hl, fin (nx, ls)]
      · simp only [e, cond_true, cond_false, ↓reduceIte, show ((2 : Int) == 0) = false from rfl, show ((2 : Int) == 1) = false from rfl, show ((2 : Int) == 2) = true from rfl, show ¬ ((2 : Int) = 0) by omega, show ¬ ((2 : Int) = 1) by omega] at hS ⊢
        rw [prt_eq (by exact hE)]
        simp only [f29, D_E, encR, Option.bind_some]
        by_cases h : (rel nx ls a.n a.h a.t).2.2 = 0
        · rw [if_pos h] at hS; rw [h]; subst hS
          simp only [beq_self_eq_true, cond_true]
          rw [hF _ hst, fin]
        · rw [if_neg h] at hS; subst hS
          have hb : ((rel nx ls a.n a.h a.t).2.2 == 0) = false := by simpa using h
          rw [hb, cond_false, hF (nx, ls) hl, fin (nx, ls)]
      · simp only [e, cond_true, cond_false, ↓reduceIte, show ((3 : Int) == 0) = false from rfl, show ((3 : Int) == 1) = false from rfl, show ((3 : Int) == 2) = false from rfl, show ((3 : Int) == 3) = true from rfl, show ¬ ((3 : Int) = 0) by omega, show ¬ ((3 : Int) = 1) by omega, show ¬ ((3 : Int) = 2) by omega] at hS ⊢
        rw [prt_eq (by exact hE)]
        simp only [f30, D_E, Option.bind_some]
        subst hS
        rw [hF _ hst, fin]
    · rw [if_pos hlt, if_neg h30]
      have : 30 - k = 0 := by omega
      simp [this, runs]
  · rw [if_neg hlt]
    have hr : runs acts (30 - k) k (nx, ls) = (nx, ls) := by
      cases 30 - k with
      | zero => rfl
      | succ m => show (if k < acts.length then _ else _) = _; rw [if_neg (by omega)]
    rw [hr]

def madeT (rows : Rows) : Int × List Le := runs rows 30 0 (1, [])
theorem made_ok (rows : Rows) : validB (madeT rows).1 (madeT rows).2 = true ∧ (madeT rows).2.length ≤ 30 := by
  have := runs_ok (rows := rows) (n := 30) (i := 0) (T := (1, [])) (by decide)
  simpa [madeT] using this
def f14 (a : i14) : o14 := ((madeT a).1, E (madeT a).2)
theorem s14 : Sd14 (tot f14) := by
  refine of_tot (ok14 _ _ s19 s14L) ?_
  intro rows
  simp only [t14, sh0, tot, f19, Option.bind_some]
  rw [prt_eq (by exact ⟨[], rfl, by simp, by simp, by simp⟩)]
  simp [f14L, f14, madeT, D_E]

end Go.Proofs.Lea

namespace Go.Proofs.Lea
open Go Go.Ev Go.Proofs.LeG

theorem isE_made (rows : Rows) : isE (E (madeT rows).2) := isE_of (by have := (made_ok rows).2; omega)

/-! 9: LeaseOthers -/
theorem law9 (a : i9) : t9 sh0 (tot f14) (tot f13) (prt p21 f21) (prt p15 f15) a.1 a.2.1 a.2.2.1 a.2.2.2.1 a.2.2.2.2.1 a.2.2.2.2.2.1 a.2.2.2.2.2.2.1 a.2.2.2.2.2.2.2 some = some true := by
  obtain ⟨rows, k, n, h, t, now, d, m⟩ := a
  have hkd : IntKind.i64.wrap ((((BitVec.ofInt 64 k &&& BitVec.ofInt 64 3)).toNat : Nat) : Int) = kd k := rfl
  simp only [t9, sh0, tot, f14, f13, Option.bind_some, hkd]
  obtain ⟨hv, hl⟩ := made_ok rows
  have hE := isE_made rows
  generalize madeT rows = T at *
  by_cases hk : kd k = 3
  · simp [hk]
  · have hb : (kd k == 3) = false := by simpa using hk
    rw [hb, cond_false]
    by_cases hn : n = m
    · simp [hn]
    · have hb2 : (n == m) = false := by simpa using hn
      rw [hb2, cond_false, prt_eq (by exact ⟨hE, rfl, rfl⟩)]
      simp only [f21, D_E, Option.bind_some, cond_true]
      obtain ⟨A, hA⟩ : ∃ A, actOf (T.1, E T.2, T.1, E T.2, k, n, h, t, now, d) = A := ⟨_, rfl⟩
      have hAk : A.k = k := by rw [← hA]; rfl
      have hAn : A.n = n := by rw [← hA]; rfl
      rw [hA]
      clear hA
      have hst := stepT_len (T := T) (a := A) (by omega)
      have hsv := stepT_valid (a := A) hv
      have hso := stepT_others (a := A) hv (by rw [hAk]; exact hk) (m := m) (by rw [hAn]; exact fun e => hn e.symm)
      obtain ⟨S, hS⟩ : ∃ S, stepT T A = S := ⟨_, rfl⟩
      have hS' : stepT (T.1, T.2) A = S := hS
      rw [hS] at hst hsv hso
      rw [hS']
      rw [prt_eq (by exact hE), prt_eq (by exact isE_of hst)]
      have e : find S.1 S.2 m now = find T.1 T.2 m now := by rw [find_look hsv, find_look hv, hso]
      simp only [f15, D_E, e, Option.bind_some, beq_self_eq_true, Bool.and_self, cond_true]

/-! 6: LeaseTokens -/
def f6L (a : iL6_4) : oL6_4 := .inr ()
def p6L (a : iL6_4) : Prop := ∃ ls, a.2.2.2.2 = E ls ∧ validB a.2.2.2.1 ls = true ∧ a.2.1 < a.2.2.2.1 ∧ 0 ≤ a.2.2.1 ∧ a.2.2.1 ≤ 40
theorem len_of_valid {nx : Int} {ls : List Le} (h : validB nx ls = true) : ls.length ≤ 64 := (valid_spec.1 h).2.2.1
theorem s6L : SdL6_4 (prt p6L f6L) := by
  refine of_iterL (step := fun l a => u6_4 sh0 (prt p11 f11) (prt p17 f17) (prt p18 f18) (prt p12 f12) l a.1 a.2.1 a.2.2.1 a.2.2.2.1 a.2.2.2.2 some) (fun l hl => okL6_4 _ _ _ _ l s11 s17 s18 s12 hl) (fun a => 40 - a.2.2.1.toNat) ?_
  rintro F ⟨acts, last, i, nx, rows⟩ ⟨ls, rfl, hv, hlast, h0, hi⟩ ih
  simp only at hv hlast h0 hi
  obtain ⟨k, rfl⟩ := Int.eq_ofNat_of_zero_le h0
  have hE : isE (E ls) := isE_of (by have := len_of_valid hv; omega)
  simp only [u6_4, sh0, cond_dec, Int.toNat_natCast, f6L]
  by_cases hlt : (k : Int) < acts.length
  · by_cases h40 : (k : Int) < 40
    · have hw : IntKind.i64.wrap ((k : Int) + 1) = (k : Int) + 1 := wrap_i64 (by omega) (by omega)
      obtain ⟨a, ha⟩ : ∃ a : Act, actAt acts k = a := ⟨_, rfl⟩
      have a0 : (cellAt acts k 0).getI = a.k := by rw [← ha]; rfl
      have a1 : (cellAt acts k 1).getI = a.n := by rw [← ha]; rfl
      have a2 : (cellAt acts k 2).getI = a.h := by rw [← ha]; rfl
      have a3 : (cellAt acts k 3).getI = a.t := by rw [← ha]; rfl
      have a4 : (cellAt acts k 4).getI = a.now := by rw [← ha]; rfl
      have a5 : (cellAt acts k 5).getI = a.d := by rw [← ha]; rfl
      have hkd : IntKind.i64.wrap ((((BitVec.ofInt 64 a.k &&& BitVec.ofInt 64 3)).toNat : Nat) : Int) = kd a.k := rfl
      simp only [a0, a1, a2, a3, a4, a5, hkd, hw]
      rw [if_pos hlt, if_pos h40, if_pos ⟨by omega, hlt⟩]
      have hF : ∀ (l' nx' : Int) (ls' : List Le), validB nx' ls' = true → l' < nx' → (F (acts, l', (k : Int) + 1, nx', E ls')).bind some = some (.inr ()) := fun l' nx' ls' h1 h2 => by
        rw [ih (acts, l', (k : Int) + 1, nx', E ls') ⟨ls', rfl, h1, h2, by simp only; omega, by simp only; omega⟩ (by simp only; omega)]; rfl
      rcases kd_range a.k with e | e | e | e
      · simp only [e, beq_self_eq_true, cond_true]
        rw [prt_eq (by exact hE)]
        simp only [f11, D_E, encAcq, Option.bind_some]
        by_cases h : (acq nx ls a.n a.h a.now a.d).2.2.2 = 0
        · have hav := acq_valid h
          obtain ⟨_, _, _, _, hr, _⟩ := acq_ok h
          rw [hr] at hav ⊢
          simp only [beq_self_eq_true, cond_true]
          rw [if_neg (by omega), hF _ _ _ hav (by omega)]
        · have hb : ((acq nx ls a.n a.h a.now a.d).2.2.2 == 0) = false := by simpa using h
          rw [hb, cond_false, cond_false, hF _ _ _ hv hlast]
      · simp only [e, cond_true, cond_false, show ((1 : Int) == 0) = false from rfl, show ((1 : Int) == 1) = true from rfl]
        rw [prt_eq (by exact hE)]
        simp only [f17, D_E, encR, Option.bind_some]
        by_cases h : (rnw nx ls a.n a.h a.t a.now a.d).2.2 = 0
        · have hav := rnw_valid h
          obtain ⟨_, l, _, _, hr, _⟩ := rnw_ok h
          rw [hr] at hav ⊢
          simp only [beq_self_eq_true, cond_true]
          rw [hF _ _ _ hav hlast]
        · have hb : ((rnw nx ls a.n a.h a.t a.now a.d).2.2 == 0) = false := by simpa using h
          rw [hb, cond_false, hF _ _ _ hv hlast]
      · simp only [e, cond_true, cond_false, show ((2 : Int) == 0) = false from rfl, show ((2 : Int) == 1) = false from rfl, show ((2 : Int) == 2) = true from rfl]
        rw [prt_eq (by exact hE)]
        simp only [f18, D_E, encR, Option.bind_some]
        by_cases h : (rel nx ls a.n a.h a.t).2.2 = 0
        · obtain ⟨_, hr⟩ := rel_ok h
          rw [hr]
          simp only [beq_self_eq_true, cond_true]
          rw [hF _ _ _ (valid_sub hv others_sub) hlast]
        · have hb : ((rel nx ls a.n a.h a.t).2.2 == 0) = false := by simpa using h
          rw [hb, cond_false, hF _ _ _ hv hlast]
      · simp only [e, cond_true, cond_false, show ((3 : Int) == 0) = false from rfl, show ((3 : Int) == 1) = false from rfl, show ((3 : Int) == 2) = false from rfl, show ((3 : Int) == 3) = true from rfl]
        rw [prt_eq (by exact hE)]
        simp only [f12, D_E, Option.bind_some, expi, hv, ↓reduceIte]
        rw [hF _ _ _ (valid_sub (ms := alive a.now ls) hv List.filter_sublist) hlast]
    · rw [if_pos hlt, if_neg h40]
  · rw [if_neg hlt]

theorem law6 (a : i6) : t6 sh0 (tot f10) (tot f13) (prt p6L f6L) a some = some true := by
  simp only [t6, sh0, tot, f10, f13, Option.bind_some]
  rw [prt_eq (by exact ⟨[], rfl, (show validB 1 [] = true from rfl), by simp, by simp, by simp⟩)]
  simp [f6L, two]

/-! 7: LeasePlays -/
def f7L (a : iL7_5) : oL7_5 := .inr ()
def p7L (a : iL7_5) : Prop := ∃ ls, a.2.2.2.1 = E ls ∧ a.2.2.2.2.1 = a.2.2.1 ∧ a.2.2.2.2.2 = E ls ∧ validB a.2.2.1 ls = true ∧ 0 ≤ a.2.1 ∧ a.2.1 ≤ 40
theorem s7L : SdL7_5 (prt p7L f7L) := by
  refine of_iterL (step := fun l a => u7_5 sh0 (prt p21 f21) (prt p15 f15) (prt p22 f22) (prt p16 f16) l a.1 a.2.1 a.2.2.1 a.2.2.2.1 a.2.2.2.2.1 a.2.2.2.2.2 some) (fun l hl => okL7_5 _ _ _ _ l s21 s15 s22 s16 hl) (fun a => 40 - a.2.1.toNat) ?_
  rintro F ⟨acts, i, nx, rows, nx2, rows2⟩ ⟨ls, rfl, e1, rfl, hv, h0, hi⟩ ih
  simp only at hv h0 hi e1
  subst e1
  obtain ⟨k, rfl⟩ := Int.eq_ofNat_of_zero_le h0
  have hl := len_of_valid hv
  have hE : isE (E ls) := isE_of (by omega)
  simp only [u7_5, sh0, cond_dec, Int.toNat_natCast, f7L]
  by_cases hlt : (k : Int) < acts.length
  · by_cases h40 : (k : Int) < 40
    · have hw : IntKind.i64.wrap ((k : Int) + 1) = (k : Int) + 1 := wrap_i64 (by omega) (by omega)
      have hr : (0 : Int) ≤ (k : Int) ∧ (k : Int) < (acts.length : Int) := by omega
      rw [if_pos hlt, if_pos h40, if_pos hr, prt_eq (by exact ⟨hE, rfl, rfl⟩)]
      simp only [f21, D_E, Option.bind_some, cond_false, hw]
      generalize hA : actOf _ = A
      have hst := stepT_len (T := (nx2, ls)) (a := A) (by simp only; omega)
      have hsv := stepT_valid (T := (nx2, ls)) (a := A) hv
      generalize stepT (nx2, ls) A = S at *
      rw [if_pos hr, if_pos hr, prt_eq (by exact isE_of hst)]
      simp only [f15, D_E, Option.bind_some]
      rw [if_pos hr, if_pos hr, prt_eq (by exact isE_of hst), prt_eq (by exact isE_of hst)]
      simp only [f22, f16, D_E, Option.bind_some, hsv, Bool.not_true, cond_false, beq_self_eq_true, Bool.and_self]
      rw [ih (acts, (k : Int) + 1, S.1, E S.2, S.1, E S.2) ⟨S.2, rfl, rfl, rfl, hsv, by simp only; omega, by simp only; omega⟩ (by simp only; omega)]
      rfl
    · rw [if_pos hlt, if_neg h40]
  · rw [if_neg hlt]

theorem law7 (a : i7) : t7 sh0 (tot f10) (tot f19) (prt p20 f20) (tot f13) (prt p7L f7L) a some = some true := by
  simp only [t7, sh0, tot, f10, f19, f13, Option.bind_some]
  rw [prt_eq (by exact ⟨isE_of (by simp), isE_of (by simp)⟩)]
  simp only [f20, decide_true, Bool.and_self, Option.bind_some, Bool.not_true, cond_false]
  rw [prt_eq (by exact ⟨[], rfl, rfl, rfl, (show validB 1 [] = true from rfl), by simp, by simp⟩)]
  simp [f7L, two]

/-! 4: LeaseExpires -/
theorem has_look {name : Int} {ls : List Le} (h : Sorted ls) : has name ls = (look name ls).isSome := by
  rw [look_sorted h]; cases has name ls <;> simp

theorem find_put {nx : Int} {ls : List Le} {n h now d : Int} (hv : validB (nx + 1) (put (mk n h nx (now + d)) ls) = true) (hs : Sorted ls) (hd : 1 ≤ d) (later : Int) : find (nx + 1) (put (mk n h nx (now + d)) ls) n later = if later < now + d then (mk n h nx (now + d), true) else (z0, false) := by
  rw [find_look hv, look_put hs]
  simp [mk]

theorem law4 (a : i4) : t4 sh0 (tot f14) (prt p12 f12) (prt p15 f15) (prt p11 f11) (tot f13) (prt p16 f16) a.1 a.2.1 a.2.2.1 a.2.2.2.1 a.2.2.2.2.1 a.2.2.2.2.2.1 a.2.2.2.2.2.2 some = some true := by
  obtain ⟨rows, k, n, h, t, now, d⟩ := a
  simp only [t4, sh0, tot, f14, f13, Option.bind_some]
  obtain ⟨hv, hl⟩ := made_ok rows
  have hE := isE_made rows
  generalize madeT rows = T at *
  obtain ⟨nx, ls⟩ := T
  simp only at hv hl hE ⊢
  have h5 := (valid_spec.1 hv).2.2.2.2
  have hx : expi nx ls now = (nx, alive now ls) := by unfold expi; rw [if_pos hv]
  have hxv : validB nx (alive now ls) = true := valid_sub hv List.filter_sublist
  have hx5 := (valid_spec.1 hxv).2.2.2.2
  have hxl : (alive now ls).length ≤ 30 := Nat.le_trans (List.length_filter_le ..) hl
  have hEx : isE (E (alive now ls)) := isE_of (by omega)
  rw [prt_eq (by exact hE)]
  simp only [f12, D_E, hx, Option.bind_some]
  rw [prt_eq (by exact hE), prt_eq (by exact hEx), prt_eq (by exact hE), prt_eq (by exact hEx)]
  simp only [f15, f11, D_E, Option.bind_some]
  have hf : find nx (alive now ls) n now = find nx ls n now := by
    rw [find_look hxv, find_look hv, look_alive h5]
    cases look n ls with
    | none => rfl
    | some l => by_cases hu : now < l.u <;> simp [Option.filter, hu]
  rw [hf]
  have hsame : ((encF (find nx ls n now)).1 == (encF (find nx ls n now)).1 && ((encF (find nx ls n now)).2.1 == (encF (find nx ls n now)).2.1 && ((encF (find nx ls n now)).2.2.1 == (encF (find nx ls n now)).2.2.1 && ((encF (find nx ls n now)).2.2.2.1 == (encF (find nx ls n now)).2.2.2.1 && true)))) = true := by simp
  rw [hsame]
  simp only [Bool.not_true, cond_false, beq_self_eq_true]
  -- both Acquires succeed, or none
  have hh : has n (alive now ls) = (has n ls && decide (now < (nth ls (cnt n ls)).u)) := by
    rw [has_look hx5, look_alive h5, look_sorted h5]
    cases has n ls with
    | false => rfl
    | true => by_cases hu : now < (nth ls (cnt n ls)).u <;> simp [Option.filter, hu]
  have hhu : has n (alive now ls) = true → now < (nth (alive now ls) (cnt n (alive now ls))).u := fun he => by
    have h1 := look_sorted (name := n) hx5
    rw [he, look_alive h5] at h1
    simp only [↓reduceIte] at h1
    have h2 := Option.eq_some_of_isSome (o := (look n ls).filter fun l => decide (now < l.u)) (by rw [h1]; rfl)
    obtain ⟨l, hl1, hl2⟩ := Option.filter_eq_some_iff.1 h1 |> fun ⟨p, q⟩ => (⟨_, p, q⟩ : ∃ l, look n ls = some l ∧ _)
    simpa using hl2
  by_cases hok : timelyB now d = true ∧ (has n ls && decide (now < (nth ls (cnt n ls)).u)) = false ∧ nx ≠ T40
  · obtain ⟨o1, o2, o3⟩ := hok
    have o4 : has n (alive now ls) = false := by rw [hh]; exact o2
    have r1 : acq nx ls n h now d = (nx + 1, put (mk n h nx (now + d)) ls, nx, 0) := by
      unfold acq; rw [hv, o1, o2]; simp [o3]; omega
    have r2 : acq nx (alive now ls) n h now d = (nx + 1, put (mk n h nx (now + d)) (alive now ls), nx, 0) := by
      unfold acq; rw [hxv, o1, o4]; simp [o3]; omega
    have v1 : validB (nx + 1) (put (mk n h nx (now + d)) ls) = true := valid_put hv o3 (.inr (by omega)) rfl
    have v2 : validB (nx + 1) (put (mk n h nx (now + d)) (alive now ls)) = true := valid_put hxv o3 (.inr (by omega)) rfl
    have hd := (timely_spec.1 o1).2.2.1
    rw [r1, r2]
    simp only [encAcq, bne_self_eq_false, cond_false, beq_self_eq_true, Bool.not_true]
    have e1 : isE (E (put (mk n h nx (now + d)) ls)) := isE_of (by rw [put_len]; split <;> omega)
    have e2 : isE (E (put (mk n h nx (now + d)) (alive now ls))) := isE_of (by rw [put_len]; split <;> omega)
    rw [prt_eq (by exact e1), prt_eq (by exact e2), prt_eq (by exact e2)]
    simp only [f15, f16, D_E, Option.bind_some, find_put v1 h5 hd, find_put v2 hx5 hd, show now < now + d by omega, ↓reduceIte, encF, cond_true, beq_self_eq_true, Bool.and_self, v2]
  · have bad : ∀ e, e ≠ 0 → (bif e != (0 : Int) then some true else (prt p15 f15 ((encAcq (acq nx ls n h now d)).1, (encAcq (acq nx ls n h now d)).2.1, n, now)).bind fun _ => some true) = some true := fun e he => by
      have : (e != 0) = true := by simpa using he
      rw [this]; rfl
    have key : (acq nx ls n h now d).2.2.2 ≠ 0 ∧ (acq nx (alive now ls) n h now d).2.2.2 ≠ 0 ∧ (acq nx ls n h now d).2.2.1 = 0 ∧ (acq nx (alive now ls) n h now d).2.2.1 = 0 := by
      unfold acq
      rw [hv, hxv]
      cases ht : timelyB now d with
      | false => simp
      | true =>
        simp only [Bool.and_self, ↓reduceIte]
        cases hb : (has n ls && decide (now < (nth ls (cnt n ls)).u)) with
        | true =>
          have h1 : has n (alive now ls) = true := by rw [hh]; exact hb
          have h2 := hhu h1
          simp [h1, h2]
        | false =>
          have h1 : has n (alive now ls) = false := by rw [hh]; exact hb
          have h3 : nx = T40 := by
            apply Classical.byContradiction; intro h3
            exact hok ⟨ht, hb, h3⟩
          simp [h1, h3]
    obtain ⟨k1, k2, k3, k4⟩ := key
    have b1 : ((encAcq (acq nx ls n h now d)).2.2.2 == 0) = false := by simpa [encAcq] using k1
    have b2 : ((encAcq (acq nx (alive now ls) n h now d)).2.2.2 == 0) = false := by simpa [encAcq] using k2
    have b3 : ((encAcq (acq nx ls n h now d)).2.2.1 != (encAcq (acq nx (alive now ls) n h now d)).2.2.1) = false := by simp [encAcq, k3, k4]
    have b4 : ((encAcq (acq nx ls n h now d)).2.2.2 != 0) = true := by simpa [encAcq] using k1
    rw [b1, b2, b3, b4]
    rfl

end Go.Proofs.Lea

namespace Go.Proofs.Lea
open Go Go.Ev Go.Proofs.LeG

theorem has_put {l : Le} {ls : List Le} (h : Sorted ls) : has l.n (put l ls) = true := by
  rw [has_look (put_sorted h), look_put h, if_pos rfl]; rfl
theorem nth_put {l : Le} {ls : List Le} (h : Sorted ls) : nth (put l ls) (cnt l.n (put l ls)) = l := by
  have h1 := look_sorted (name := l.n) (put_sorted (l := l) h)
  rw [has_put h, look_put h, if_pos rfl] at h1
  simpa using h1.symm

/-! 5: LeaseExclusive -/
theorem law5 (a : i5) (hb : -9223372036854775808 ≤ a.2.2.2.2.2.2.2.1 ∧ a.2.2.2.2.2.2.2.1 ≤ 9223372036854775807) : t5 sh0 (tot f14) (prt p11 f11) (tot f13) (prt p15 f15) (prt p17 f17) (prt p18 f18) a.1 a.2.1 a.2.2.1 a.2.2.2.1 a.2.2.2.2.1 a.2.2.2.2.2.1 a.2.2.2.2.2.2.1 a.2.2.2.2.2.2.2.1 a.2.2.2.2.2.2.2.2.1 a.2.2.2.2.2.2.2.2.2 some = some true := by
  obtain ⟨rows, k, n, h, t, now, d, o1, o2, o3⟩ := a
  simp only at hb
  simp only [t5, sh0, cond_dec, tot, f14, f13, Option.bind_some]
  obtain ⟨hv, hl⟩ := made_ok rows
  have hE := isE_made rows
  generalize madeT rows = T at *
  obtain ⟨nx, ls⟩ := T
  simp only at hv hl hE ⊢
  have h5 := (valid_spec.1 hv).2.2.2.2
  rw [prt_eq (by exact hE)]
  simp only [f11, D_E, Option.bind_some]
  by_cases h0 : (acq nx ls n h now d).2.2.2 = 0
  · obtain ⟨_, o, onx, oh, hr, _⟩ := acq_ok h0
    have hv1 : validB (nx + 1) (put (mk n h nx (now + d)) ls) = true := valid_put hv onx oh rfl
    obtain ⟨t1, t2, t3, t4⟩ := timely_spec.1 o
    unfold T40 at *
    obtain ⟨v1, v2, _⟩ := valid_spec.1 hv
    unfold T40 at *
    rw [hr]
    simp only [encAcq, bne_self_eq_false, cond_false]
    obtain ⟨L, hL⟩ : ∃ L, mk n h nx (now + d) = L := ⟨_, rfl⟩
    have hLn : L.n = n := by rw [← hL]; rfl
    have hLh : L.h = h := by rw [← hL]; rfl
    have hLt : L.t = nx := by rw [← hL]; rfl
    have hLu : L.u = now + d := by rw [← hL]; rfl
    rw [hL] at hv1 ⊢
    have hs1 := put_sorted (l := L) h5
    have hh1 := has_put (l := L) h5
    have hn1 := nth_put (l := L) h5
    have hl1 := len_of_valid hv1
    obtain ⟨M, hM⟩ : ∃ M, put L ls = M := ⟨_, rfl⟩
    rw [hM] at hv1 hs1 hh1 hn1 hl1 ⊢
    rw [hLn] at hh1 hn1
    have hEM : isE (E M) := isE_of (by omega)
    have wu1 : IntKind.u64.wrap d = d := by simp [IntKind.wrap, IntKind.bits, IntKind.signed]; omega
    have wu2 : 0 ≤ IntKind.u64.wrap o1 := by simp [IntKind.wrap, IntKind.bits, IntKind.signed]; omega
    obtain ⟨y, hy⟩ : ∃ y, Int.tmod (IntKind.u64.wrap o1) d = y := ⟨_, rfl⟩
    have hy1 : 0 ≤ y := by rw [← hy]; exact Int.tmod_nonneg _ wu2
    have hy2 : y < d := by rw [← hy]; exact Int.tmod_lt_of_pos _ (by omega)
    have wy : IntKind.i64.wrap y = y := wrap_i64 (by omega) (by omega)
    have wl : IntKind.i64.wrap (now + y) = now + y := wrap_i64 (by omega) (by omega)
    have wd : IntKind.i64.wrap (now + d) = now + d := wrap_i64 (by omega) (by omega)
    rw [if_neg (by omega), wu1, if_pos (by omega), hy, wy, wl, wd]
    rw [prt_eq (by exact hEM), prt_eq (by exact hEM), prt_eq (by exact hEM), prt_eq (by exact hEM)]
    simp only [f11, f15, D_E, Option.bind_some]
    -- later: kept out
    have a1 : (acq (nx + 1) M n o2 (now + y) 1).2.2.1 = 0 ∧ ((acq (nx + 1) M n o2 (now + y) 1).2.2.2 = 1 ∨ (acq (nx + 1) M n o2 (now + y) 1).2.2.2 = 11) := by
      unfold acq
      rw [hv1, hh1, hn1, hLu]
      cases timelyB (now + y) 1 with
      | false => simp
      | true => simp [show now + y < now + d by omega]
    have f1 : find (nx + 1) M n (now + y) = (L, true) := by
      unfold find; rw [hv1, hh1, hn1, hLu]; simp [show now + y < now + d by omega]
    have f2 : find (nx + 1) M n (now + d) = (z0, false) := by
      unfold find; rw [hv1, hh1, hn1, hLu]; simp
    rw [f1, f2]
    simp only [encF, hLh, hLt, bne_self_eq_false, cond_false, Bool.not_true]
    have k1 : ((encAcq (acq (nx + 1) M n o2 (now + y) 1)).2.2.1 != 0) = false := by simp [encAcq, a1.1]
    rw [k1]
    -- at its end: lost
    by_cases g0 : (acq (nx + 1) M n o2 (now + d) 5).2.2.2 = 0
    · obtain ⟨_, ot, onx2, oh2, hr2, _⟩ := acq_ok g0
      have hv2 : validB (nx + 1 + 1) (put (mk n o2 (nx + 1) (now + d + 5)) M) = true := valid_put hv1 onx2 oh2 rfl
      have hs2 := put_sorted (l := mk n o2 (nx + 1) (now + d + 5)) hs1
      have hh2 : has n (put (mk n o2 (nx + 1) (now + d + 5)) M) = true := has_put (l := mk n o2 (nx + 1) (now + d + 5)) hs1
      have hn2 : nth (put (mk n o2 (nx + 1) (now + d + 5)) M) (cnt n (put (mk n o2 (nx + 1) (now + d + 5)) M)) = mk n o2 (nx + 1) (now + d + 5) := nth_put (l := mk n o2 (nx + 1) (now + d + 5)) hs1
      have hl2 := len_of_valid hv2
      rw [hr2]
      obtain ⟨Q, hQ⟩ : ∃ Q, put (mk n o2 (nx + 1) (now + d + 5)) M = Q := ⟨_, rfl⟩
      rw [hQ] at hv2 hh2 hn2 hl2 ⊢
      have hEQ : isE (E Q) := isE_of (by omega)
      have hnot : heldB n h nx Q = false := by
        have hne : ¬ ((nx + 1 : Int) = nx) := by omega
        unfold heldB; rw [hh2, hn2]; simp [mk, hne]
      have r1 : (rnw (nx + 1 + 1) Q n h nx (now + d) 5) = (0, [], 102) := by
        unfold rnw; rw [hv2, ot, hnot]; simp
      have r2 : (rel (nx + 1 + 1) Q n h nx) = (0, [], 102) := by
        unfold rel; rw [hv2, hnot]; simp
      simp only [encAcq, bne_self_eq_false, cond_false]
      rw [prt_eq (by exact hEQ), prt_eq (by exact hEQ)]
      simp only [f17, f18, D_E, Option.bind_some, r1, r2, encR, beq_self_eq_true, cond_true]
      rw [if_pos (by omega)]
      rcases a1.2 with e | e
      · rw [e]; simp
      · rw [e]; simp
    · have g1 : (acq (nx + 1) M n o2 (now + d) 5).2.2.2 = 1 ∨ (acq (nx + 1) M n o2 (now + d) 5).2.2.2 = 8 := by
        revert g0
        unfold acq
        rw [hv1, hh1, hn1, hLu]
        cases timelyB (now + d) 5 with
        | false => simp
        | true =>
          simp only [Bool.and_self, ↓reduceIte, Bool.true_and, Int.lt_irrefl, decide_false, Bool.false_eq_true, Bool.not_true, Bool.false_and, Bool.false_or]
          by_cases hq : nx + 1 = T40 <;> simp [hq]
      have kb : ((encAcq (acq (nx + 1) M n o2 (now + d) 5)).2.2.2 != 0) = true := by simpa [encAcq] using g0
      have ke : (encAcq (acq (nx + 1) M n o2 (now + d) 5)).2.2.2 = (acq (nx + 1) M n o2 (now + d) 5).2.2.2 := rfl
      have kf : (encAcq (acq (nx + 1) M n o2 (now + y) 1)).2.2.2 = (acq (nx + 1) M n o2 (now + y) 1).2.2.2 := rfl
      rw [kb, ke, kf]
      rcases g1 with e | e <;> rcases a1.2 with e' | e' <;> rw [e, e'] <;> rfl
  · have kb : ((encAcq (acq nx ls n h now d)).2.2.2 != 0) = true := by simpa [encAcq] using h0
    rw [kb]; rfl

/-! 3: LeaseFull -/
def tab (k : Nat) : List Le := (List.range k).map fun (j : Nat) => mk (7 * (j : Int)) 1 (1 + (j : Int)) 5
theorem tab_len (k : Nat) : (tab k).length = k := by simp [tab]
theorem tab_step : (List.range 64).all (fun k => decide (acq (1 + (k : Int)) (tab k) (7 * (k : Int)) 1 0 5 = (2 + (k : Int), tab (k + 1), 1 + (k : Int), 0))) = true := by kernel_rfl
theorem tab_step' {k : Nat} (h : k < 64) : acq (1 + (k : Int)) (tab k) (7 * (k : Int)) 1 0 5 = (2 + (k : Int), tab (k + 1), 1 + (k : Int), 0) := by
  have := List.all_eq_true.1 tab_step k (List.mem_range.2 h)
  exact of_decide_eq_true this

def f3L (a : iL3_3) : oL3_3 := .inr (a.1, 65, E (tab 64))
def p3L (a : iL3_3) : Prop := 0 ≤ a.2.1 ∧ a.2.1 ≤ 64 ∧ a.2.2.1 = 1 + a.2.1 ∧ a.2.2.2 = E (tab a.2.1.toNat)
theorem s3L : SdL3_3 (prt p3L f3L) := by
  refine of_iterL (step := fun l a => u3_3 sh0 (prt p11 f11) l a.1 a.2.1 a.2.2.1 a.2.2.2 some) (fun l hl => okL3_3 _ l s11 hl) (fun a => 64 - a.2.1.toNat) ?_
  rintro F ⟨n, i, nx, rows⟩ ⟨h0, hi, e1, e2⟩ ih
  simp only at h0 hi e1 e2
  obtain ⟨k, rfl⟩ := Int.eq_ofNat_of_zero_le h0
  subst e1
  simp only [Int.toNat_natCast] at e2
  subst e2
  simp only [u3_3, sh0, cond_dec, f3L]
  by_cases hlt : (k : Int) < 64
  · have hk : k < 64 := by omega
    have w1 : IntKind.i64.wrap (7 * (k : Int)) = 7 * (k : Int) := wrap_i64 (by omega) (by omega)
    have w2 : IntKind.i64.wrap ((k : Int) + 1) = (k : Int) + 1 := wrap_i64 (by omega) (by omega)
    have e1 : ((k : Int) + 1).toNat = k + 1 := by omega
    rw [if_pos hlt, w1, w2, prt_eq (by exact isE_of (by rw [tab_len]; omega))]
    simp only [f11, D_E, Option.bind_some, tab_step' hk, encAcq, bne_self_eq_false, cond_false]
    rw [ih (n, (k : Int) + 1, 2 + (k : Int), E (tab (k + 1))) ⟨by simp only; omega, by simp only; omega, by simp only; omega, by simp only [e1]⟩ (by simp only; omega)]
    rfl
  · rw [if_neg hlt]
    have : k = 64 := by omega
    subst this
    rfl

theorem full1 : acq 65 (tab 64) (-1) 1 9 5 = (0, [], 0, 8) := by kernel_rfl
theorem full2 : (List.range 64).all (fun k => decide ((acq 65 (tab 64) (7 * (k : Int)) 2 9 5).2.2 = (65, 0) ∧ (acq 65 (tab 64) (7 * (k : Int)) 2 9 5).2.1.length = 64 ∧
    (acq (expi (acq 65 (tab 64) (7 * (k : Int)) 2 9 5).1 (acq 65 (tab 64) (7 * (k : Int)) 2 9 5).2.1 9).1 (expi (acq 65 (tab 64) (7 * (k : Int)) 2 9 5).1 (acq 65 (tab 64) (7 * (k : Int)) 2 9 5).2.1 9).2 (-1) 1 9 5).2.2.2 = 0)) = true := by kernel_rfl

theorem law3 (a : i3) : t3 sh0 (tot f10) (prt p11 f11) (prt p12 f12) (tot f13) (prt p3L f3L) a some = some true := by
  simp only [t3, sh0, tot, f10, f13, Option.bind_some]
  rw [prt_eq (by exact ⟨by simp, by simp, by simp, rfl⟩)]
  simp only [f3L, two, Option.bind_some]
  have wu : 0 ≤ IntKind.u64.wrap a := by simp [IntKind.wrap, IntKind.bits, IntKind.signed]; omega
  obtain ⟨y, hy⟩ : ∃ y, Int.tmod (IntKind.u64.wrap a) 64 = y := ⟨_, rfl⟩
  have hy1 : 0 ≤ y := by rw [← hy]; exact Int.tmod_nonneg _ wu
  have hy2 : y < 64 := by rw [← hy]; exact Int.tmod_lt_of_pos _ (by omega)
  obtain ⟨k, rfl⟩ := Int.eq_ofNat_of_zero_le hy1
  have w1 : IntKind.i64.wrap (k : Int) = (k : Int) := wrap_i64 (by omega) (by omega)
  have w2 : IntKind.i64.wrap (7 * (k : Int)) = 7 * (k : Int) := wrap_i64 (by omega) (by omega)
  rw [hy, w1, w2, prt_eq (by exact isE_of (by rw [tab_len]; omega)), prt_eq (by exact isE_of (by rw [tab_len]; omega))]
  simp only [f11, D_E, Option.bind_some, full1]
  have h2 := of_decide_eq_true (List.all_eq_true.1 full2 k (List.mem_range.2 (by omega)))
  obtain ⟨Q, hQ⟩ : ∃ Q, acq 65 (tab 64) (7 * (k : Int)) 2 9 5 = Q := ⟨_, rfl⟩
  rw [hQ] at h2 ⊢
  obtain ⟨q1, q2, q3, q4⟩ := Q
  obtain ⟨h3, h4, h5⟩ := h2
  simp only [Prod.mk.injEq] at h3
  obtain ⟨rfl, rfl⟩ := h3
  simp only at h4 h5
  simp only [encAcq]
  rw [prt_eq (by exact isE_of (by omega))]
  simp only [f12, D_E, Option.bind_some]
  rw [prt_eq (by exact isE_expi)]
  simp only [f11, D_E, Option.bind_some, encAcq, h5, beq_self_eq_true, cond_true, E_len, h4]
  rfl

end Go.Proofs.Lea
