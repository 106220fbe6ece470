/- Values: the order is total; tapes; the law about the order. -/
import Derived.Test.YtfnehcadocfmoaaDoorQ3
import Derived.Test.YtfnehcadocfmoaaDoorL7
set_option linter.unusedVariables false
set_option linter.unusedSimpArgs false

namespace Go.Proofs.Val
open Go Go.Ev Go.Proofs.VaG

/-! ### The order -/
theorem ltl_tri : ∀ a b : List By, a ≠ b → (ltl a b = true ∧ ltl b a = false) ∨ (ltl a b = false ∧ ltl b a = true)
  | [], [], h => absurd rfl h
  | [], _ :: _, _ => .inl ⟨rfl, rfl⟩
  | _ :: _, [], _ => .inr ⟨rfl, rfl⟩
  | x :: a, y :: b, h => by
    simp only [ltl]
    by_cases hxy : x = y
    · subst hxy
      have := ltl_tri a b (fun e => h (by rw [e]))
      simpa using this
    · have hn : x.toNat ≠ y.toNat := fun e => hxy (BitVec.eq_of_toNat_eq e)
      have hyx : ¬ y = x := fun e => hxy e.symm
      by_cases hl : x.toNat < y.toNat
      · left; simp [hl, hyx]; omega
      · right; simp [hl, hxy]; omega
theorem ltl_trans : ∀ a b c : List By, ltl a b = true → ltl b c = true → ltl a c = true
  | _, _, [], _, h => by cases ‹List By› <;> simp [ltl] at h
  | [], _, _ :: _, _, _ => rfl
  | _ :: _, [], _ :: _, h, _ => by simp [ltl] at h
  | x :: a, y :: b, z :: c, h1, h2 => by
    simp only [ltl, Bool.or_eq_true, decide_eq_true_eq, Bool.and_eq_true] at h1 h2 ⊢
    rcases h1 with h1 | ⟨rfl, h1⟩
    · rcases h2 with h2 | ⟨rfl, _⟩
      · left; omega
      · left; exact h1
    · rcases h2 with h2 | ⟨rfl, h2⟩
      · left; exact h2
      · right; exact ⟨rfl, ltl_trans a b c h1 h2⟩
theorem cmpS_eq (a : List By) : cmpS a a = 0 := by simp [cmpS, ltl_self]
theorem cmpS_cases (a b : List By) : (a = b ∧ cmpS a b = 0 ∧ cmpS b a = 0) ∨ (a ≠ b ∧ ltl a b = true ∧ cmpS a b = -1 ∧ cmpS b a = 1) ∨ (a ≠ b ∧ ltl b a = true ∧ cmpS a b = 1 ∧ cmpS b a = -1) := by
  by_cases h : a = b
  · subst h; exact .inl ⟨rfl, cmpS_eq a, cmpS_eq a⟩
  · have hs : ¬ b = a := fun e => h e.symm
    rcases ltl_tri a b h with ⟨h1, h2⟩ | ⟨h1, h2⟩
    · exact .inr (.inl ⟨h, h1, by simp [cmpS, h1], by simp [cmpS, h2, hs]⟩)
    · exact .inr (.inr ⟨h, h2, by simp [cmpS, h1, h], by simp [cmpS, h2]⟩)
theorem cmpI_cases (a b : Int) : (a = b ∧ cmpI a b = 0 ∧ cmpI b a = 0) ∨ (a < b ∧ cmpI a b = -1 ∧ cmpI b a = 1) ∨ (b < a ∧ cmpI a b = 1 ∧ cmpI b a = -1) := by
  rcases Int.lt_trichotomy a b with h | h | h
  · refine .inr (.inl ⟨h, by unfold cmpI; rw [if_pos h], ?_⟩)
    unfold cmpI; rw [if_neg (by omega), if_pos h]
  · subst h; exact .inl ⟨rfl, by simp [cmpI], by simp [cmpI]⟩
  · refine .inr (.inr ⟨h, ?_, by unfold cmpI; rw [if_pos h]⟩)
    unfold cmpI; rw [if_neg (by omega), if_pos h]
theorem cmpV_neg (a b : V) : cmpV b a = - cmpV a b := by
  unfold cmpV
  by_cases hk : a.k = b.k
  · rw [if_neg (show ¬ b.k ≠ a.k by omega), if_neg (show ¬ a.k ≠ b.k by omega), hk]
    by_cases h1 : b.k = 1
    · rw [if_pos h1, if_pos h1]
      rcases cmpI_cases a.n b.n with ⟨_, h, h'⟩ | ⟨_, h, h'⟩ | ⟨_, h, h'⟩ <;> rw [h, h'] <;> rfl
    · rw [if_neg h1, if_neg h1]
      rcases cmpS_cases a.t b.t with ⟨_, h, h'⟩ | ⟨_, _, h, h'⟩ | ⟨_, _, h, h'⟩ <;> rw [h, h'] <;> rfl
  · rw [if_pos (show b.k ≠ a.k from fun e => hk e.symm), if_pos (show a.k ≠ b.k from hk)]
    rcases cmpI_cases a.k b.k with ⟨e, _⟩ | ⟨_, h, h'⟩ | ⟨_, h, h'⟩
    · exact absurd e hk
    · omega
    · omega
theorem cmpV_zero {a b : V} (ha : okv a = true) (hb : okv b = true) : cmpV a b = 0 ↔ a = b := by
  have sa := ok_shape ha
  have sb := ok_shape hb
  obtain ⟨k, n, t⟩ := a
  obtain ⟨k', n', t'⟩ := b
  simp only at sa sb
  simp only [cmpV, V.mk.injEq]
  by_cases hk : k = k'
  · subst hk
    rw [if_neg (by simp)]
    by_cases h1 : k = 1
    · subst h1
      rw [if_pos rfl]
      have ht : t = [] := by rcases sa with ⟨h, _⟩ | ⟨_, h⟩ | ⟨h, _⟩ <;> first | exact h | omega
      have ht' : t' = [] := by rcases sb with ⟨h, _⟩ | ⟨_, h⟩ | ⟨h, _⟩ <;> first | exact h | omega
      subst ht; subst ht'
      rcases cmpI_cases n n' with ⟨e, h, _⟩ | ⟨e, h, _⟩ | ⟨e, h, _⟩ <;> rw [h] <;> simp <;> omega
    · rw [if_neg h1]
      have hn : n = 0 := by rcases sa with ⟨_, h, _⟩ | ⟨h, _⟩ | ⟨_, h⟩ <;> first | exact h | omega
      have hn' : n' = 0 := by rcases sb with ⟨_, h, _⟩ | ⟨h, _⟩ | ⟨_, h⟩ <;> first | exact h | omega
      subst hn; subst hn'
      rcases cmpS_cases t t' with ⟨e, h, _⟩ | ⟨e, _, h, _⟩ | ⟨e, _, h, _⟩ <;> rw [h] <;> simp [e]
  · rw [if_pos hk]
    rcases cmpI_cases k k' with ⟨e, _⟩ | ⟨e, h, _⟩ | ⟨e, h, _⟩
    · exact absurd e hk
    · rw [h]; simp [hk]
    · rw [h]; simp [hk]
theorem cmpV_trans {a b c : V} (h1 : cmpV a b < 0) (h2 : cmpV b c < 0) : cmpV a c < 0 := by
  unfold cmpV at *
  by_cases hab : a.k = b.k
  · rw [if_neg (by simp [hab])] at h1
    by_cases hbc : b.k = c.k
    · rw [if_neg (by simp [hbc])] at h2
      rw [if_neg (by simp [hab, hbc])]
      by_cases hk : a.k = 1
      · rw [if_pos hk] at h1 ⊢
        rw [if_pos (by rw [← hab]; exact hk)] at h2
        rcases cmpI_cases a.n b.n with ⟨_, h, _⟩ | ⟨e1, h, _⟩ | ⟨_, h, _⟩ <;> rw [h] at h1 <;> try omega
        rcases cmpI_cases b.n c.n with ⟨_, h', _⟩ | ⟨e2, h', _⟩ | ⟨_, h', _⟩ <;> rw [h'] at h2 <;> try omega
        rcases cmpI_cases a.n c.n with ⟨e, _⟩ | ⟨_, h'', _⟩ | ⟨e, _⟩
        · omega
        · rw [h'']; omega
        · omega
      · rw [if_neg hk] at h1 ⊢
        rw [if_neg (by rw [← hab]; exact hk)] at h2
        rcases cmpS_cases a.t b.t with ⟨_, h, _⟩ | ⟨_, l1, h, _⟩ | ⟨_, _, h, _⟩ <;> rw [h] at h1 <;> try omega
        rcases cmpS_cases b.t c.t with ⟨_, h', _⟩ | ⟨_, l2, h', _⟩ | ⟨_, _, h', _⟩ <;> rw [h'] at h2 <;> try omega
        unfold cmpS
        rw [if_pos (ltl_trans _ _ _ l1 l2)]
        omega
    · rw [if_pos hbc] at h2
      rw [if_pos (by rw [hab]; exact hbc), hab]
      exact h2
  · rw [if_pos hab] at h1
    by_cases hbc : b.k = c.k
    · rw [if_pos (by rw [← hbc]; exact hab), ← hbc]
      exact h1
    · rw [if_pos hbc] at h2
      rcases cmpI_cases a.k b.k with ⟨_, h, _⟩ | ⟨e1, h, _⟩ | ⟨_, h, _⟩ <;> rw [h] at h1 <;> try omega
      rcases cmpI_cases b.k c.k with ⟨_, h', _⟩ | ⟨e2, h', _⟩ | ⟨_, h', _⟩ <;> rw [h'] at h2 <;> try omega
      rw [if_pos (by omega)]
      rcases cmpI_cases a.k c.k with ⟨e, _⟩ | ⟨_, h'', _⟩ | ⟨e, _⟩
      · omega
      · rw [h'']; omega
      · omega
theorem cmpR_neg : ∀ x y : List V, cmpR y x = - cmpR x y
  | [], [] => rfl
  | [], _ :: _ => rfl
  | _ :: _, [] => rfl
  | a :: x, b :: y => by
    simp only [cmpR]
    have h := cmpV_neg (cl a) (cl b)
    by_cases h0 : cmpV (cl a) (cl b) = 0
    · rw [if_neg (by omega), if_neg (by omega)]; exact cmpR_neg x y
    · rw [if_pos (by omega), if_pos h0, h]
theorem all_cons {a : V} {x : List V} (h : ∀ v ∈ a :: x, okv v = true) : okv a = true ∧ ∀ v ∈ x, okv v = true :=
  ⟨h a (List.mem_cons_self ..), fun v hv => h v (List.mem_cons_of_mem _ hv)⟩
theorem cmpR_zero : ∀ x y : List V, (∀ v ∈ x, okv v = true) → (∀ v ∈ y, okv v = true) → (cmpR x y = 0 ↔ x = y)
  | [], [], _, _ => by simp [cmpR]
  | [], _ :: _, _, _ => by simp [cmpR]
  | _ :: _, [], _, _ => by simp [cmpR]
  | a :: x, b :: y, hx, hy => by
    obtain ⟨ha, hx⟩ := all_cons hx
    obtain ⟨hb, hy⟩ := all_cons hy
    simp only [cmpR, cl_ok ha, cl_ok hb]
    have h := cmpV_zero ha hb
    by_cases h0 : cmpV a b = 0
    · rw [if_neg (by omega), cmpR_zero x y hx hy]
      simp [h.1 h0]
    · rw [if_pos h0]
      have : a ≠ b := fun e => h0 (h.2 e)
      simp [h0, this]
theorem cmpR_trans : ∀ x y z : List V, (∀ v ∈ x, okv v = true) → (∀ v ∈ y, okv v = true) → (∀ v ∈ z, okv v = true) → cmpR x y < 0 → cmpR y z < 0 → cmpR x z < 0
  | [], _, _ :: _, _, _, _, _, _ => by simp [cmpR]
  | _, [], [], _, _, _, _, h => by simp [cmpR] at h
  | _, _ :: _, [], _, _, _, _, h => by simp [cmpR] at h
  | _ :: _, [], _ :: _, _, _, _, h, _ => by simp [cmpR] at h
  | a :: x, b :: y, c :: z, hx, hy, hz, h1, h2 => by
    obtain ⟨ha, kx⟩ := all_cons hx
    obtain ⟨hb, ky⟩ := all_cons hy
    obtain ⟨hc, kz⟩ := all_cons hz
    clear hx hy hz
    simp only [cmpR, cl_ok ha, cl_ok hb, cl_ok hc] at h1 h2 ⊢
    by_cases e1 : cmpV a b = 0
    · rw [if_neg (by omega)] at h1
      have := (cmpV_zero ha hb).1 e1
      subst this
      by_cases e2 : cmpV a c = 0
      · rw [if_neg (by omega)] at h2 ⊢
        exact cmpR_trans x y z kx ky kz h1 h2
      · rw [if_pos e2] at h2 ⊢
        exact h2
    · rw [if_pos e1] at h1
      by_cases e2 : cmpV b c = 0
      · have := (cmpV_zero hb hc).1 e2
        subst this
        rw [if_pos e1]; exact h1
      · rw [if_pos e2] at h2
        have := cmpV_trans h1 h2
        rw [if_pos (by omega)]; exact this

/-! ### Same -/
def p30L (a : iL30_4) : Prop := ∃ (xs ys : List V) (i : Nat), xs.length = ys.length ∧ xs.length ≤ 1000000 ∧ i ≤ xs.length ∧ a = (VR xs, VR ys, (i : Int))
def f30L (a : iL30_4) : oL30_4 := if (unV a.1).drop a.2.2.toNat = (unV a.2.1).drop a.2.2.toNat then .inr () else .inl false
theorem beq_c (xs ys : List V) (i : Nat) : ((cellAt (VR xs) i 0).getI == (cellAt (VR ys) i 0).getI && ((cellAt (VR xs) i 1).getI == (cellAt (VR ys) i 1).getI && ((cellAt (VR xs) i 2).getS == (cellAt (VR ys) i 2).getS && true))) = decide (gv xs i = gv ys i) := by
  rw [cV0, cV1, cV2, cV0, cV1, cV2]
  exact beq_v3 (gv xs i) (gv ys i)
theorem s30L : SdL30_4 (prt p30L f30L) := by
  refine of_iterL (step := fun l a => u30_4 sh0 l a.1 a.2.1 a.2.2 some) okL30_4 (fun a => a.1.length - a.2.2.toNat) ?_
  rintro F _ ⟨xs, ys, i, hl, hb, hi, rfl⟩ ih
  unfold u30_4
  simp only [sh0_eq, cond_dec, f30L, Int.toNat_natCast, unV_VR, VR_len, succ_w i (by omega), Option.bind_fun_some, beq_c]
  by_cases h : i < xs.length
  · rw [if_pos (by omega), if_pos (by omega), if_pos (by omega), drop_gv xs i h, drop_gv ys i (by omega)]
    by_cases he : gv xs i = gv ys i
    · rw [decide_eq_true he, Bool.not_true, cond_false, ih (VR xs, VR ys, ((i + 1 : Nat) : Int)) ⟨xs, ys, i + 1, hl, hb, by omega, rfl⟩ (by simp only [VR_len, Int.toNat_natCast]; omega)]
      simp only [f30L, unV_VR, Int.toNat_natCast, he, List.cons.injEq, true_and]
    · rw [decide_eq_false he, Bool.not_false, cond_true, if_neg (by simp [he])]
  · rw [if_neg (by omega), List.drop_of_length_le (by omega), List.drop_of_length_le (by omega), if_pos rfl]
def f30 (a : Rows × Rows) : Bool := decide (unV a.1 = unV a.2)
theorem s30 : Sd30 (prt p2R f30) := by
  refine of_prt (ok30 _ s30L) ?_
  rintro _ ⟨xs, ys, hx, hy, rfl⟩
  unfold t30
  simp only [sh0_eq, VR_len, f30, unV_VR]
  by_cases hl : xs.length = ys.length
  · have e : prt p30L f30L (VR xs, VR ys, (0 : Int)) = some (if xs = ys then .inr () else .inl false) := by
      rw [prt_eq (by exact ⟨xs, ys, 0, hl, hx, by omega, rfl⟩)]
      simp only [f30L, unV_VR, Int.toNat_zero, List.drop_zero]
    rw [hl, bne_self_eq_false, cond_false, e, Option.bind_some]
    by_cases h : xs = ys
    · rw [if_pos h, decide_eq_true h]; rfl
    · rw [if_neg h, decide_eq_false h]; rfl
  · rw [show (((xs.length : Nat) : Int) != ((ys.length : Nat) : Int)) = true by simp; omega, cond_true, decide_eq_false (fun h => hl (by rw [h]))]
theorem e30 (xs ys : List V) (hx : xs.length ≤ 1000000) (hy : ys.length ≤ 1000000) : prt p2R f30 (VR xs, VR ys) = some (decide (xs = ys)) := by
  rw [prt_eq (by exact ⟨xs, ys, hx, hy, rfl⟩)]; simp [f30, unV_VR]

/-! ### Tapes -/
def IR (xs : List Int) : Rows := xs.map fun n => [DL.int .i64 n]
theorem IR_len (xs : List Int) : (IR xs).length = xs.length := by simp [IR]
theorem cIR (xs : List Int) (i : Nat) (h : i < xs.length) : (cellAt (IR xs) i 0).getI = xs[i] := by
  unfold cellAt IR
  rw [getD_map, List.getElem?_eq_getElem h]; rfl
/-- A tape: numbers of 64 bits, a place. -/
def tape (l : List Int) (at_ : Int) : Prop := (∀ x ∈ l, -9223372036854775808 ≤ x ∧ x ≤ 9223372036854775807) ∧ l.length * 8 ≤ 140737488351232 ∧ 0 ≤ at_ ∧ at_ ≤ 4 * l.length
def tp (at_ : Int) (r : Rows) : Prop := ∃ l : List Int, r = IR l ∧ tape l at_
theorem tmod_bd (x n : Int) (hn : 2 ≤ n) : 0 ≤ Int.tmod (Int.tmod x n + n) n ∧ Int.tmod (Int.tmod x n + n) n < n := by
  have h1 : -n < Int.tmod x n := by
    have := Int.tmod_lt_of_pos (-x) (show 0 < n by omega)
    rw [Int.neg_tmod] at this
    omega
  have h0 : 0 ≤ Int.tmod x n + n := by omega
  exact ⟨Int.tmod_nonneg n h0, Int.tmod_lt_of_pos _ (by omega)⟩
theorem tmod_hi (x n : Int) (hn : 2 ≤ n) : Int.tmod x n < n ∧ -n < Int.tmod x n := by
  refine ⟨Int.tmod_lt_of_pos _ (by omega), ?_⟩
  have := Int.tmod_lt_of_pos (-x) (show 0 < n by omega)
  rw [Int.neg_tmod] at this
  omega
theorem next_run (n at_ : Int) (r : Rows) (hn : n ≤ 1000000000) (ht : tp at_ r) : ∃ x a, t31 sh0 n at_ r some = some (x, a, r) ∧ tp a r ∧ 0 ≤ x ∧ (2 ≤ n → x < n) ∧ (n < 2 → x = 0) := by
  obtain ⟨l, rfl, hl, hlen, h0, h4⟩ := ht
  have same : tp at_ (IR l) := ⟨l, rfl, hl, hlen, h0, h4⟩
  unfold t31
  simp only [sh0_eq, IR_len, cond_dec, int_beq]
  by_cases h1 : n < 2
  · rw [if_pos h1]; exact ⟨0, at_, rfl, same, Int.le_refl _, fun h => by omega, fun _ => rfl⟩
  · rw [if_neg h1]
    by_cases h2 : (l.length : Int) = 0
    · rw [if_pos h2]; exact ⟨0, at_, rfl, same, Int.le_refl _, fun h => by omega, fun _ => rfl⟩
    · have hw : IntKind.i64.wrap (4 * (l.length : Int)) = 4 * (l.length : Int) := wrap_i64 (by omega) (by omega)
      rw [if_neg h2, hw]
      by_cases h3 : at_ ≥ 4 * (l.length : Int)
      · rw [if_pos h3]; exact ⟨0, at_, rfl, same, Int.le_refl _, fun h => by omega, fun _ => rfl⟩
      · rw [if_neg h3, if_pos h2, if_pos h2]
        obtain ⟨k, rfl⟩ := Int.eq_ofNat_of_zero_le h0
        have hm : Int.tmod (k : Int) (l.length : Int) = ((k % l.length : Nat) : Int) := by rw [Int.tmod_eq_emod_of_nonneg (by omega)]; omega
        have hlt : k % l.length < l.length := Nat.mod_lt _ (by omega)
        have hq : IntKind.i64.wrap (Int.tdiv (k : Int) (l.length : Int)) = ((k / l.length : Nat) : Int) := by
          have hdv : Int.tdiv (k : Int) (l.length : Int) = ((k / l.length : Nat) : Int) := by rw [Int.tdiv_eq_ediv_of_nonneg (by omega)]; omega
          have : k / l.length ≤ k := Nat.div_le_self _ _
          rw [hdv]
          generalize k / l.length = e at this ⊢
          exact wrap_i64 (by omega) (by omega)
        have hk : IntKind.i64.wrap ((k : Int) + 1) = (k : Int) + 1 := wrap_i64 (by omega) (by omega)
        have nxt : tp ((k : Int) + 1) (IR l) := ⟨l, rfl, hl, hlen, by omega, by omega⟩
        have hn0 : n ≠ 0 := by omega
        rw [hm, hq, hk, if_pos (by omega), Int.toNat_natCast, if_pos hlt]
        simp only [if_pos hn0]
        have fin : ∀ y : Int, IntKind.i64.wrap (Int.tmod y n + n) = Int.tmod y n + n := fun y => by
          have := tmod_hi y n (by omega)
          exact wrap_i64 (by omega) (by omega)
        by_cases h5 : ((k / l.length : Nat) : Int) > 0
        · rw [if_pos h5, if_pos (by rw [wrap_u64]; omega), fin]
          obtain ⟨b1, b2⟩ := tmod_bd (IntKind.i64.wrap (((BitVec.ofInt 64 ((cellAt (IR l) (k % l.length) 0).getI.fdiv (2 ^ min (IntKind.u64.wrap ((k / l.length : Nat) : Int)).toNat 64)) ^^^ BitVec.ofInt 64 ((k / l.length : Nat) : Int)).toNat : Nat) : Int)) n (by omega)
          exact ⟨_, _, rfl, nxt, b1, fun _ => b2, fun h => by omega⟩
        · rw [if_neg h5, fin]
          obtain ⟨b1, b2⟩ := tmod_bd ((cellAt (IR l) (k % l.length) 0).getI) n (by omega)
          exact ⟨_, _, rfl, nxt, b1, fun _ => b2, fun h => by omega⟩

noncomputable def F31 (a : i31) : Option o31 := t31 sh0 a.1 a.2.1 a.2.2 some
theorem S31 : Sd31 F31 := ok31
theorem next' (n at_ : Int) (r : Rows) (hn : n ≤ 1000000000) (h2 : 2 ≤ n) (ht : tp at_ r) : ∃ x a, F31 (n, at_, r) = some (x, a, r) ∧ tp a r ∧ 0 ≤ x ∧ x < n := by
  obtain ⟨x, a, h, h1, h3, h4, _⟩ := next_run n at_ r hn ht
  exact ⟨x, a, h, h1, h3, h4 h2⟩

/-- What a tape's value is: clean. -/
def isCl (x : V3) : Prop := ∃ v : V, okv v = true ∧ x = v3 v
noncomputable def F57 (a : i57) : Option o57 := t57 sh0 (tot f20) a some
theorem S57 : Sd57 F57 := ok57 _ s21
theorem run57 (s : ByteArray) : ∃ v, okv v = true ∧ F57 s = some (v3 v) := by
  refine ⟨cl ⟨2, 0, unS s⟩, okv_cl _, ?_⟩
  have e : tot f20 ((2 : Int), (0 : Int), s) = some (v3 (cl ⟨2, 0, unS s⟩)) := rfl
  unfold F57 t57
  rw [e]; rfl
noncomputable def F59 (a : i59) : Option o59 := t59 sh0 (tot f20) a some
theorem S59 : Sd59 F59 := ok59 _ s21
theorem run59 (n : Int) : ∃ v, okv v = true ∧ F59 n = some (v3 v) := by
  refine ⟨cl ⟨1, n, []⟩, okv_cl _, ?_⟩
  have e : tot f20 ((1 : Int), n, ({ data := #[] } : ByteArray)) = some (v3 (cl ⟨1, n, []⟩)) := rfl
  unfold F59 t59
  rw [e]; rfl
noncomputable def F50 (a : i50) : Option o50 := t50 sh0 F31 F57 a.1 a.2 some
theorem S50 : Sd50 F50 := ok50 _ _ S31 S57
theorem run50 (at_ : Int) (r : Rows) (ht : tp at_ r) : ∃ v a, okv v = true ∧ F50 (at_, r) = some (v.k, v.n, S8 v.t, a, r) ∧ tp a r := by
  obtain ⟨x, a, h, h1, h3, h4⟩ := next' 10 at_ r (by omega) (by omega) ht
  unfold F50 t50
  simp only [sh0_eq]
  rw [h, Option.bind_some]
  generalize hrows : (colD _ : Rows) = rows
  have hlen : rows.length = 10 := by rw [← hrows]; rfl
  obtain ⟨v, hv, hv2⟩ := run57 ((cellAt rows x.toNat 0).getS)
  simp only [hlen]
  rw [decide_eq_true (by omega), cond_true, decide_eq_true (by omega), cond_true, hv2, Option.bind_some]
  exact ⟨v, a, hv, rfl, h1⟩
noncomputable def F51 (a : i51) : Option o51 := t51 sh0 F31 F59 a.1 a.2 some
theorem S51 : Sd51 F51 := ok51 _ _ S31 S59
theorem run51 (at_ : Int) (r : Rows) (ht : tp at_ r) : ∃ v a, okv v = true ∧ F51 (at_, r) = some (v.k, v.n, S8 v.t, a, r) ∧ tp a r := by
  obtain ⟨x, a, h, h1, h3, h4⟩ := next' 12 at_ r (by omega) (by omega) ht
  unfold F51 t51
  simp only [sh0_eq]
  rw [h, Option.bind_some]
  generalize hrows : (colD _ : Rows) = rows
  have hlen : rows.length = 12 := by rw [← hrows]; rfl
  obtain ⟨v, hv, hv2⟩ := run59 ((cellAt rows x.toNat 0).getI)
  simp only [hlen]
  rw [decide_eq_true (by omega), cond_true, decide_eq_true (by omega), cond_true, hv2, Option.bind_some]
  exact ⟨v, a, hv, rfl, h1⟩
noncomputable def F32 (a : i32) : Option o32 := t32 sh0 F31 F50 F51 a.1 a.2 some
theorem S32 : Sd32 F32 := ok32 _ _ _ S31 S50 S51
theorem run32 (at_ : Int) (r : Rows) (ht : tp at_ r) : ∃ v a, okv v = true ∧ F32 (at_, r) = some (v.k, v.n, S8 v.t, a, r) ∧ tp a r := by
  obtain ⟨x, a, h, h1, h3, h4⟩ := next' 5 at_ r (by omega) (by omega) ht
  unfold F32 t32
  rw [h, Option.bind_some]
  simp only [int_beq, cond_dec]
  by_cases h0 : x = 0
  · rw [if_pos h0]; exact ⟨nv, a, okv_nv, rfl, h1⟩
  · rw [if_neg h0]
    obtain ⟨v, b, hv, hv2, hb⟩ := run50 a r h1
    by_cases e1 : x = 1
    · rw [if_pos e1, hv2, Option.bind_some]; exact ⟨v, b, hv, rfl, hb⟩
    · rw [if_neg e1]
      by_cases e2 : x = 2
      · rw [if_pos e2, hv2, Option.bind_some]; exact ⟨v, b, hv, rfl, hb⟩
      · rw [if_neg e2]
        obtain ⟨v, b, hv, hv2, hb⟩ := run51 a r h1
        rw [hv2, Option.bind_some]; exact ⟨v, b, hv, rfl, hb⟩

end Go.Proofs.Val

namespace Go.Proofs.Val
open Go Go.Ev Go.Proofs.VaG

theorem sdL_iter {α β : Type} {G : Nat → α → β → Prop} {step : (α → Option β) → α → Option β} (hs : ∀ F : α → Option β, (∀ nt a b, F a = some b → G nt a b) → ∀ nt a b, step F a = some b → G nt a b) : ∀ n nt a b, iter step n a = some b → G nt a b := by
  intro n
  induction n with
  | zero => intro nt a b h; simp [iter] at h
  | succ n ih => intro nt a b h; exact hs _ ih nt a b h
theorem room3 {n : Nat} (h : n * 8 ≤ 140737488351232) : roomE Tryd.prog 3 n = true := by
  have h1 : rowOk Tryd.prog 3 = true := by kernel_rfl
  have h2 : Tryd.prog.bytesOf 3 = 8 := by kernel_rfl
  unfold roomE
  rw [h1, h2]
  simp; omega

noncomputable def st29 (l : iL29_3 → Option oL29_3) (a : iL29_3) : Option oL29_3 := u29_3 sh0 F32 l a.1 a.2.1 a.2.2.1 a.2.2.2 some
theorem SL29 (n : Nat) : SdL29_3 (iter st29 n) := sdL_iter (fun l hl => okL29_3 _ l S32 hl) n
theorem runL29 : ∀ (k : Nat) (at_ : Int) (r : Rows) (vs : List V), k ≤ 50 → vs.length + k ≤ 100 → tp at_ r → (∀ v ∈ vs, okv v = true) →
    ∃ us a, iter st29 (k + 1) ((k : Int), at_, r, VR vs) = some (a, r, VR (vs ++ us)) ∧ us.length = k ∧ (∀ v ∈ us, okv v = true) ∧ tp a r := by
  intro k
  induction k with
  | zero =>
    intro at_ r vs _ _ ht hv
    refine ⟨[], at_, ?_, rfl, by simp, ht⟩
    show u29_3 sh0 F32 (iter st29 0) (0 : Int) at_ r (VR vs) some = _
    unfold u29_3
    simp
  | succ k ih =>
    intro at_ r vs hk hl ht hv
    obtain ⟨v, b, hok, hrun, hb⟩ := run32 at_ r ht
    have hw : IntKind.i64.wrap (((k + 1 : Nat) : Int) - 1) = (k : Int) := by rw [wrap_i64 (by omega) (by omega)]; omega
    obtain ⟨us, a, h1, h2, h3, h4⟩ := ih b r (vs ++ [v]) (by omega) (by simp; omega) hb (fun x hx => by
      rcases List.mem_append.1 hx with hx | hx
      · exact hv x hx
      · rw [List.mem_singleton.1 hx]; exact hok)
    refine ⟨v :: us, a, ?_, by simp [h2], fun x hx => ?_, h4⟩
    · show u29_3 sh0 F32 (iter st29 (k + 1)) ((k + 1 : Nat) : Int) at_ r (VR vs) some = _
      unfold u29_3
      have hrow : ([[DL.int .i64 v.k, DL.int .i64 v.n, DL.str (S8 v.t)]] : Rows) = VR [v] := rfl
      rw [cond_dec, if_pos (by omega), hrun, Option.bind_some]
      simp only [sh0_eq, hrow, VR_app, VR_len, hw, Option.bind_fun_some]
      rw [room23 (by simp; omega), cond_true, h1]
      simp
    · rcases List.mem_cons.1 hx with rfl | hx
      · exact hok
      · exact h3 x hx
noncomputable def F29 (a : i29) : Option o29 := t29 sh0 F31 (iter st29 20) a.1 a.2.1 a.2.2 some
theorem S29 : Sd29 F29 := ok29 _ _ S31 (SL29 20)
theorem iter_more {α β : Type} {step : (α → Option β) → α → Option β} (hm : ∀ F G : α → Option β, (∀ a b, F a = some b → G a = some b) → ∀ a b, step F a = some b → step G a = some b) : ∀ n m, n ≤ m → ∀ a b, iter step n a = some b → iter step m a = some b := by
  intro n
  induction n with
  | zero => intro m _ a b h; simp [iter] at h
  | succ n ih =>
    intro m hm' a b h
    obtain ⟨m', rfl⟩ : ∃ m', m = m' + 1 := ⟨m - 1, by omega⟩
    exact hm _ _ (ih m' (by omega)) a b h
theorem st29_mono (F G : iL29_3 → Option oL29_3) (h : ∀ a b, F a = some b → G a = some b) : ∀ a b, st29 F a = some b → st29 G a = some b := by
  intro a b hb
  unfold st29 u29_3 at hb ⊢
  simp only [sh0_eq, Option.bind_fun_some] at hb ⊢
  rw [cond_dec] at hb ⊢
  by_cases hc : a.1 > 0
  · rw [if_pos hc] at hb ⊢
    obtain ⟨r, h1, h2⟩ := Option.bind_eq_some_iff.1 hb
    rw [h1, Option.bind_some]
    generalize roomE Tryd.prog 23 _ = c at h2 ⊢
    cases c with
    | true => exact h _ _ h2
    | false => exact absurd h2 (by simp)
  · rw [if_neg hc] at hb ⊢
    exact hb
theorem run29 (n : Nat) (at_ : Int) (r : Rows) (hn1 : 1 ≤ n) (hn : n ≤ 10) (ht : tp at_ r) : ∃ vs a, F29 ((n : Int), at_, r) = some (VR vs, a, r) ∧ vs.length ≤ n ∧ (∀ v ∈ vs, okv v = true) ∧ tp a r := by
  have hw : IntKind.i64.wrap ((n : Int) + 1) = (n : Int) + 1 := wrap_i64 (by omega) (by omega)
  obtain ⟨x, a, h, h1, h3, h4⟩ := next' ((n : Int) + 1) at_ r (by omega) (by omega) ht
  obtain ⟨k, rfl⟩ := Int.eq_ofNat_of_zero_le h3
  obtain ⟨us, b, e, e1, e2, e3⟩ := runL29 k a r [] (by omega) (by simp; omega) h1 (by simp)
  refine ⟨us, b, ?_, by omega, e2, e3⟩
  have e' := iter_more st29_mono (k + 1) 20 (by omega) _ _ e
  unfold F29 t29
  simp only [sh0_eq, hw]
  rw [h, Option.bind_some]
  have e'' : iter st29 20 ((k : Int), a, r, ([] : Rows)) = some (b, r, VR us) := e'
  rw [e'', Option.bind_some]

noncomputable def F28 (a : i28) : Option o28 := t28 sh0 a some
theorem S28 : Sd28 F28 := ok28
def isTape (r : Rows) : Prop := ∃ l : List Int, r = IR l ∧ (∀ x ∈ l, -9223372036854775808 ≤ x ∧ x ≤ 9223372036854775807) ∧ l.length * 8 ≤ 140737488351232
theorem run28 (r : Rows) (h : isTape r) : F28 r = some (0, r) ∧ tp 0 r := by
  obtain ⟨l, rfl, h1, h2⟩ := h
  refine ⟨?_, l, rfl, h1, h2, by omega, by omega⟩
  unfold F28 t28
  simp only [sh0_eq, List.length_nil, Nat.zero_add, IR_len, room3 h2, cond_true, List.nil_append]

theorem s7 : Sd7 (prt isTape fun _ => true) := by
  refine of_prt (ok7 _ _ _ _ _ S28 S29 s26 s30 s14) ?_
  intro r hr
  obtain ⟨h0, ht⟩ := run28 r hr
  obtain ⟨a, t1, r1, l1, k1, ht⟩ := run29 3 0 r (by omega) (by omega) ht
  obtain ⟨b, t2, r2, l2, k2, ht⟩ := run29 3 t1 r (by omega) (by omega) ht
  obtain ⟨c, t3, r3, l3, k3, ht⟩ := run29 3 t2 r (by omega) (by omega) ht
  have hab := cmpR_neg a b
  have hz := cmpR_zero a b k1 k2
  have haa := (cmpR_zero a a k1 k1).2 rfl
  have bd : ∀ x y : List V, -1 ≤ cmpR x y ∧ cmpR x y ≤ 1 := by
    intro x
    induction x with
    | nil => intro y; cases y <;> simp [cmpR]
    | cons p x ih =>
      intro y
      cases y with
      | nil => simp [cmpR]
      | cons q y =>
        simp only [cmpR]
        split
        · have : -1 ≤ cmpV (cl p) (cl q) ∧ cmpV (cl p) (cl q) ≤ 1 := by
            unfold cmpV
            split
            · rcases cmpI_cases (cl p).k (cl q).k with ⟨_, h, _⟩ | ⟨_, h, _⟩ | ⟨_, h, _⟩ <;> rw [h] <;> omega
            · split
              · rcases cmpI_cases (cl p).n (cl q).n with ⟨_, h, _⟩ | ⟨_, h, _⟩ | ⟨_, h, _⟩ <;> rw [h] <;> omega
              · rcases cmpS_cases (cl p).t (cl q).t with ⟨_, h, _⟩ | ⟨_, _, h, _⟩ | ⟨_, _, h, _⟩ <;> rw [h] <;> omega
          exact this
        · exact ih y
  have bab := bd a b
  have hw : IntKind.i64.wrap (0 - cmpR a b) = - cmpR a b := by rw [wrap_i64 (by omega) (by omega)]; omega
  have tr : ∀ x y z : List V, (∀ v ∈ x, okv v = true) → (∀ v ∈ y, okv v = true) → (∀ v ∈ z, okv v = true) → cmpR x y ≤ 0 → cmpR y z ≤ 0 → cmpR x z ≤ 0 := by
    intro x y z kx ky kz h1 h2
    by_cases e1 : cmpR x y = 0
    · rw [(cmpR_zero x y kx ky).1 e1]; exact h2
    · by_cases e2 : cmpR y z = 0
      · rw [← (cmpR_zero y z ky kz).1 e2]; exact h1
      · exact Int.le_of_lt (cmpR_trans x y z kx ky kz (by omega) (by omega))
  have t1' := tr a b c k1 k2 k3
  have t2' := cmpR_trans a b c k1 k2 k3
  have r1' : F29 ((3 : Int), (0 : Int), r) = _ := r1
  have r2' : F29 ((3 : Int), t1, r) = _ := r2
  have r3' : F29 ((3 : Int), t2, r) = _ := r3
  have n1 : a.length ≤ 1000000 := by omega
  have n2 : b.length ≤ 1000000 := by omega
  have n3 : c.length ≤ 1000000 := by omega
  have hsame : (!(decide (cmpR a b = 0)) == decide (a = b)) = false := by
    rw [decide_eq_decide.2 hz]
    cases decide (a = b) <;> rfl
  unfold t7
  simp only [h0, Option.bind_some, r1', r2', r3', e26 a b n1 n2, e26 b c n2 n3, e26 a c n1 n3, e26 b a n2 n1, e26 a a n1 n1, e30 a b n1 n2, sh0_eq, hw, hab, bne_self_eq_false, cond_false, haa, int_beq, hsame, e14, cond_dec]
  clear hw hz haa bd tr r1 r2 r3 r1' r2' r3' hab
  generalize cmpR a b = p at *
  generalize cmpR b c = q at *
  generalize cmpR a c = s at *
  by_cases c1 : p ≤ 0 <;> by_cases c2 : q ≤ 0 <;> by_cases c3 : s > 0 <;> by_cases c4 : p < 0 <;> by_cases c5 : q < 0 <;> by_cases c6 : s ≥ 0 <;>
    first
    | (exfalso; omega)
    | (simp only [c1, c2, c3, c4, c5, c6, if_true, if_false, decide_true, decide_false, Bool.not_true, Bool.not_false, cond_true, cond_false])

end Go.Proofs.Val

namespace Go.Proofs.Val
open Go Go.Ev Go.Proofs.VaG

theorem rwf_IR {P : Program} {S : Nat → Prop} {V' : TypeId → Nat → Prop} : ∀ {xs : List (List DL)}, RWf P S V' [.int .i64] xs → ∃ l : List Int, xs = IR l ∧ ∀ x ∈ l, -9223372036854775808 ≤ x ∧ x ≤ 9223372036854775807 := by
  intro xs
  induction xs with
  | nil => intro _; exact ⟨[], rfl, by simp⟩
  | cons x xs ih =>
    intro h
    obtain ⟨l, hl, hb⟩ := ih fun y hy => h y (List.mem_cons_of_mem _ hy)
    obtain ⟨hlen, hx⟩ := h x (List.mem_cons_self ..)
    match x, hlen with
    | [a], _ =>
      obtain ⟨n, rfl, h0, h1⟩ := (hx 0 _ a rfl rfl).int_inv
      refine ⟨n :: l, by rw [hl]; rfl, fun y hy => ?_⟩
      rcases List.mem_cons.1 hy with rfl | hy
      · have e1 : IntKind.i64.min = -9223372036854775808 := by decide
        have e2 : IntKind.i64.max = 9223372036854775807 := by decide
        omega
      · exact hb y hy
theorem rwf_tape {P : Program} {S : Nat → Prop} {V' : TypeId → Nat → Prop} {xs : List (List DL)} (h : RWf P S V' [.int .i64] xs) (hl : xs.length * 8 ≤ reachBytes) : isTape xs := by
  obtain ⟨l, rfl, hb⟩ := rwf_IR h
  rw [IR_len] at hl
  have e : reachBytes = 140737488351232 := by decide
  exact ⟨l, rfl, hb, by omega⟩

end Go.Proofs.Val
