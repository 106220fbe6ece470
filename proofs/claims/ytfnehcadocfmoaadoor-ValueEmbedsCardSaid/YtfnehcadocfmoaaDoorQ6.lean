/- Values: byte forms are ordered as the rows are; the law about that. -/
import Derived.Test.YtfnehcadocfmoaaDoorQ4
import Derived.Test.YtfnehcadocfmoaaDoorL8
set_option linter.unusedVariables false
set_option linter.unusedSimpArgs false

namespace Go.Proofs.Val
open Go Go.Ev Go.Proofs.VaG

theorem ltl_app (p : List By) : ∀ x y : List By, ltl (p ++ x) (p ++ y) = ltl x y := by
  induction p with
  | nil => intro x y; rfl
  | cons a p ih => intro x y; simp [ltl, ih]
theorem ltl_hd {a b : By} (h : a.toNat < b.toNat) (x y : List By) : ltl (a :: x) (b :: y) = true := by simp [ltl, h]
theorem ltl_tl (a : By) (x y : List By) : ltl (a :: x) (a :: y) = ltl x y := by simp [ltl]
theorem ltl_gt {a b : By} (h : b.toNat < a.toNat) (x y : List By) : ltl (a :: x) (b :: y) = false := by
  have hn : a ≠ b := fun e => by subst e; omega
  simp only [ltl, hn, decide_false, Bool.false_and, Bool.or_false]
  exact decide_eq_false (by omega)

theorem stp (a b : Nat) (x y : List By) (h : a % 256 < b % 256 ∨ (a % 256 = b % 256 ∧ ltl x y = true)) : ltl (BitVec.ofNat 8 a :: x) (BitVec.ofNat 8 b :: y) = true := by
  simp only [ltl, Bool.or_eq_true, Bool.and_eq_true, decide_eq_true_eq, BitVec.toNat_ofNat, ← BitVec.toNat_inj]
  exact h
theorem dstep (k q m m' : Nat) (h : m ≤ m') (hk : k = q * 256) (hq : 0 < q) (e : m / k = m' / k) (hn : ¬ m / q % 256 < m' / q % 256) : m / q = m' / q := by
  have h1 := Nat.div_le_div_right (c := q) h
  have h2 : m / q / 256 = m' / q / 256 := by rw [Nat.div_div_eq_div_mul, Nat.div_div_eq_div_mul, ← hk, e]
  generalize m / q = x at *
  generalize m' / q = y at *
  omega
theorem ltl_five (m m' : Nat) (h : m < m') (hm : m' < 2 ^ 40) (r s : List By) : ltl (five m ++ r) (five m' ++ s) = true := by
  simp only [five, List.cons_append, List.nil_append]
  have hl : m ≤ m' := Nat.le_of_lt h
  have e0 : m / 2 ^ 40 = m' / 2 ^ 40 := by rw [Nat.div_eq_of_lt hm, Nat.div_eq_of_lt (Nat.lt_trans h hm)]
  refine stp _ _ _ _ ?_
  by_cases h1 : m / 2 ^ 32 % 256 < m' / 2 ^ 32 % 256
  · exact .inl h1
  have e1 := dstep (2 ^ 40) (2 ^ 32) m m' hl (by decide) (by decide) e0 h1
  refine .inr ⟨by rw [e1], stp _ _ _ _ ?_⟩
  by_cases h2 : m / 2 ^ 24 % 256 < m' / 2 ^ 24 % 256
  · exact .inl h2
  have e2 := dstep (2 ^ 32) (2 ^ 24) m m' hl (by decide) (by decide) e1 h2
  refine .inr ⟨by rw [e2], stp _ _ _ _ ?_⟩
  by_cases h3 : m / 2 ^ 16 % 256 < m' / 2 ^ 16 % 256
  · exact .inl h3
  have e3 := dstep (2 ^ 24) (2 ^ 16) m m' hl (by decide) (by decide) e2 h3
  refine .inr ⟨by rw [e3], stp _ _ _ _ ?_⟩
  by_cases h4 : m / 2 ^ 8 % 256 < m' / 2 ^ 8 % 256
  · exact .inl h4
  have e4 := dstep (2 ^ 16) (2 ^ 8) m m' hl (by decide) (by decide) e3 h4
  refine .inr ⟨by rw [e4], stp _ _ _ _ (.inl ?_)⟩
  clear h1 h2 h3 h4 e0 e1 e2 e3 hm
  have : m / 2 ^ 8 = m / 256 := rfl
  have : m' / 2 ^ 8 = m' / 256 := rfl
  omega
theorem es_nz {b : By} (h : b ≠ 0) (u : List By) : es (b :: u) = b :: es u := by
  have : es (b :: u) = e1 b ++ es u := by simp [es]
  rw [this, e1, if_neg h]; rfl
theorem ltl_es : ∀ (t u r s : List By), ltl t u = true → ltl (es t ++ [0, 0] ++ r) (es u ++ [0, 0] ++ s) = true
  | _, [], _, _, h => by cases ‹List By› <;> simp [ltl] at h
  | [], b :: u, r, s, _ => by
    by_cases h0 : b = 0
    · subst h0; rfl
    · have : es (b :: u) = b :: es u := es_nz h0 u
      rw [this]
      refine ltl_hd ?_ _ _
      have : b.toNat ≠ 0 := fun e => h0 (BitVec.eq_of_toNat_eq e)
      show 0 < b.toNat
      omega
  | a :: t, b :: u, r, s, h => by
    simp only [ltl, Bool.or_eq_true, decide_eq_true_eq, Bool.and_eq_true] at h
    have he : ∀ (c : By) (x : List By), es (c :: x) = e1 c ++ es x := fun c x => by simp [es]
    rcases h with h | ⟨rfl, h⟩
    · have hb : b ≠ 0 := fun e => by subst e; simp at h
      have e2 : es (b :: u) = b :: es u := es_nz hb u
      rw [e2]
      by_cases ha : a = 0
      · subst ha
        have e3 : es (0 :: t) = 0 :: 255 :: es t := rfl
        rw [e3]
        exact ltl_hd h _ _
      · have e3 : es (a :: t) = a :: es t := es_nz ha t
        rw [e3]
        exact ltl_hd h _ _
    · rw [he, he]
      simp only [List.append_assoc]
      rw [ltl_app]
      have := ltl_es t u r s h
      simpa only [List.append_assoc] using this

theorem eV_ok {v : V} (h : okv v = true) : eV v = if v.k = 1 then 2 :: five (v.n + 4294967296).toNat else if v.k = 2 then 3 :: es v.t ++ [0, 0] else [1] := by
  unfold eV; rw [cl_ok h]
theorem eV_lt {u v : V} (hu : okv u = true) (hv : okv v = true) (h : cmpV u v < 0) (r s : List By) : ltl (eV u ++ r) (eV v ++ s) = true := by
  have cu := cl_cases u
  have cv := cl_cases v
  rw [cl_ok hu] at cu
  rw [cl_ok hv] at cv
  rw [eV_ok hu, eV_ok hv]
  unfold cmpV at h
  rcases cu with ⟨ku, _⟩ | ⟨ku, iu, tu⟩ | ⟨ku, nu, _⟩
  · rcases cv with ⟨kv, ev⟩ | ⟨kv, _, _⟩ | ⟨kv, _, _⟩
    · rename_i eu
      subst eu; subst ev
      exact absurd h (by decide)
    · rw [ku, kv]; exact ltl_hd (by decide) _ _
    · rw [ku, kv]; exact ltl_hd (by decide) _ _
  · rcases cv with ⟨kv, _⟩ | ⟨kv, iv, tv⟩ | ⟨kv, _, _⟩
    · rw [ku, kv] at h; simp [cmpI] at h
    · rw [ku, kv] at h
      rw [ku, kv, if_pos rfl, if_pos rfl]
      simp only [ne_eq, not_true_eq_false, if_false, if_true] at h
      simp only [List.cons_append, ltl_tl]
      have bu : -4294967296 ≤ u.n ∧ u.n ≤ 4294967296 := by simpa [inr] using iu
      have bv : -4294967296 ≤ v.n ∧ v.n ≤ 4294967296 := by simpa [inr] using iv
      rcases cmpI_cases u.n v.n with ⟨_, h1, _⟩ | ⟨h2, _, _⟩ | ⟨_, h1, _⟩
      · omega
      · exact ltl_five _ _ (by omega) (by omega) _ _
      · omega
    · rw [ku, kv]; exact ltl_hd (by decide) _ _
  · rcases cv with ⟨kv, _⟩ | ⟨kv, _, _⟩ | ⟨kv, nv', _⟩
    · rw [ku, kv] at h; simp [cmpI] at h
    · rw [ku, kv] at h; simp [cmpI] at h
    · rw [ku, kv] at h
      rw [ku, kv, if_neg (by omega), if_pos rfl, if_neg (by omega), if_pos rfl]
      simp only [ne_eq, not_true_eq_false, if_false, show ¬ (2 : Int) = 1 by omega] at h
      simp only [List.cons_append, ltl_tl]
      rcases cmpS_cases u.t v.t with ⟨_, h1, _⟩ | ⟨_, h2, _, _⟩ | ⟨_, _, h1, _⟩
      · omega
      · exact ltl_es u.t v.t r s h2
      · omega
theorem eV_ne (v : V) : eV v ≠ [] := by
  unfold eV; split
  · simp
  · split <;> simp
theorem enc_cons (v : V) (x : List V) : enc (v :: x) = eV v ++ enc x := by simp [enc]
theorem enc_lt : ∀ x y : List V, (∀ v ∈ x, okv v = true) → (∀ v ∈ y, okv v = true) → cmpR x y < 0 → ltl (enc x) (enc y) = true
  | [], [], _, _, h => by simp [cmpR] at h
  | _ :: _, [], _, _, h => by simp [cmpR] at h
  | [], b :: y, _, _, _ => by
    rw [enc_cons]
    have := eV_ne b
    cases hb : eV b with
    | nil => exact absurd hb this
    | cons p q => rfl
  | a :: x, b :: y, hx, hy, h => by
    obtain ⟨ha, kx⟩ := all_cons hx
    obtain ⟨hb, ky⟩ := all_cons hy
    clear hx hy
    simp only [cmpR, cl_ok ha, cl_ok hb] at h
    rw [enc_cons, enc_cons]
    by_cases e : cmpV a b = 0
    · rw [if_neg (by omega)] at h
      have := (cmpV_zero ha hb).1 e
      subst this
      rw [ltl_app]
      exact enc_lt x y kx ky h
    · rw [if_pos e] at h
      exact eV_lt ha hb h _ _
theorem enc_ltl (x y : List V) (hx : ∀ v ∈ x, okv v = true) (hy : ∀ v ∈ y, okv v = true) : ltl (enc x) (enc y) = decide (cmpR x y < 0) ∧ decide (enc x = enc y) = decide (cmpR x y = 0) := by
  have hz := cmpR_zero x y hx hy
  have hn := cmpR_neg x y
  rcases Int.lt_trichotomy (cmpR x y) 0 with h | h | h
  · have h1 := enc_lt x y hx hy h
    rw [h1, decide_eq_true h]
    refine ⟨rfl, ?_⟩
    have : enc x ≠ enc y := fun e => by rw [e, ltl_self] at h1; exact absurd h1 (by simp)
    rw [decide_eq_false this, decide_eq_false (by omega)]
  · have := hz.1 h
    subst this
    rw [ltl_self]
    exact ⟨(decide_eq_false (by omega)).symm, by rw [decide_eq_true rfl, decide_eq_true h]⟩
  · have h1 := enc_lt y x hy hx (by omega)
    have hne : enc x ≠ enc y := fun e => by rw [e, ltl_self] at h1; exact absurd h1 (by simp)
    rcases ltl_tri _ _ hne with ⟨_, h2⟩ | ⟨h2, _⟩
    · rw [h1] at h2; exact absurd h2 (by simp)
    · rw [h2]
      exact ⟨(decide_eq_false (by omega)).symm, by rw [decide_eq_false hne, decide_eq_false (by omega)]⟩

def p8L (a : iL8_3) : Prop := ∃ (i : Nat), i ≤ 4 ∧ a.1 = (i : Int) ∧ tp a.2.1 a.2.2
theorem bnot_eq (b : Bool) : ((!b) == b) = false := by cases b <;> rfl
theorem s8L : SdL8_3 (prt p8L fun _ => .inr ()) := by
  refine of_iterL (step := fun l a => u8_3 sh0 F29 F31 F32 _ _ l a.1 a.2.1 a.2.2 some) (fun l => okL8_3 _ _ _ _ _ l S29 S31 S32 s33 s26) (fun a => 4 - a.1.toNat) ?_
  rintro F ⟨x1, at_, r⟩ ⟨i, hi, hx, ht⟩ ih
  simp only at hx ht
  subst hx
  unfold u8_3
  rw [cond_dec]
  by_cases h : i < 4
  · rw [if_pos (by omega)]
    obtain ⟨a, t1, r1, l1, k1, ht⟩ := run29 3 at_ r (by omega) (by omega) ht
    obtain ⟨b, t2, r2, l2, k2, ht⟩ := run29 3 t1 r (by omega) (by omega) ht
    obtain ⟨x, t3, n3, ht, h0, _⟩ := next' 3 t2 r (by omega) (by omega) ht
    have r1' : F29 ((3 : Int), at_, r) = _ := r1
    have r2' : F29 ((3 : Int), t1, r) = _ := r2
    have hF : ∀ t', tp t' r → F (((i + 1 : Nat) : Int), t', r) = some (.inr ()) := fun t' ht' => ih (((i + 1 : Nat) : Int), t', r) ⟨i + 1, by omega, rfl, ht'⟩ (by simp only [Int.toNat_natCast]; omega)
    simp only [r1', r2', n3, Option.bind_some, sh0_eq, succ_w i (by omega), int_beq, Option.bind_fun_some, cond_dec]
    by_cases hx0 : x = 0
    · obtain ⟨v, t4, hv, hrun, ht⟩ := run32 t3 r ht
      have hrow : ([[DL.int .i64 v.k, DL.int .i64 v.n, DL.str (S8 v.t)]] : Rows) = VR [v] := rfl
      have kb : ∀ u ∈ a ++ [v], okv u = true := fun u hu => by
        rcases List.mem_append.1 hu with hu | hu
        · exact k1 u hu
        · rw [List.mem_singleton.1 hu]; exact hv
      obtain ⟨m1, m2⟩ := enc_ltl a (a ++ [v]) k1 kb
      rw [if_pos hx0]
      simp only [hrun, Option.bind_some, List.length_nil, Nat.zero_add, VR_len, room23 (n := a.length) (by omega), cond_true, List.nil_append, hrow, VR_app, List.length_singleton, room23 (n := a.length + 1) (by omega), e33 a (by omega), e33 (a ++ [v]) (by simp; omega), e26 a (a ++ [v]) (by omega) (by simp; omega), strLt_S8, strEq_S8, m1, m2, beq_self_eq_true, Bool.not_true, cond_false]
      exact hF t4 ht
    · obtain ⟨m1, m2⟩ := enc_ltl a b k1 k2
      rw [if_neg hx0]
      simp only [e33 a (by omega), e33 b (by omega), e26 a b (by omega) (by omega), Option.bind_some, strLt_S8, strEq_S8, m1, m2, beq_self_eq_true, Bool.not_true, cond_false]
      exact hF t3 ht
  · rw [if_neg (by omega)]
theorem s8 : Sd8 (prt isTape fun _ => true) := by
  refine of_prt (ok8 _ _ _ S28 s14 s8L) ?_
  intro r hr
  obtain ⟨h0, ht⟩ := run28 r hr
  unfold t8
  have e : prt p8L (fun _ => (.inr () : oL8_3)) ((0 : Int), (0 : Int), r) = some (.inr ()) := prt_eq (by exact ⟨0, by omega, rfl, ht⟩)
  rw [h0, Option.bind_some, e, Option.bind_some]
  simp only [two, e14, Option.bind_some]

end Go.Proofs.Val
