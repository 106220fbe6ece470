/- One operation at a time: addresses, slices, parts. -/
import Derived.Test.YtfnehcadocfmoaaDoorE1
import Derived.Laws.Append
import Derived.Laws.IdiomStrings
import Derived.Laws.MakeOwn
import Derived.Laws.BitsLemmas
import Derived.DeepKeys
import Derived.Laws.Tables
set_option linter.unusedVariables false
set_option linter.unusedSimpArgs false

namespace Go.Ev
open Go Go.RowKit

section
variable {P : Program} {K : Nat → Prop} {w : World} {Z : Addr → Prop} {bl : Bl} {m : Nat → Obj}

theorem fieldOf_some {t : TypeId} {f off : Nat} {ft : TypeId} (h : fieldOf P t f = some (off, ft)) : ∃ fs x, P.underlying t = some (.struct fs) ∧ fs[f]? = some x ∧ x.offset = off ∧ x.type = ft := by
  unfold fieldOf at h
  split at h
  · rename_i fs hu
    split at h
    · rename_i x hx
      injection h with h; injection h with h1 h2
      exact ⟨fs, x, hu, hx, h1, h2⟩
    · exact absurd h (by simp)
  · exact absurd h (by simp)

theorem fieldAddrE_sound {t : TypeId} {f : Nat} {x y : SL} {u : Value} (h : fieldAddrE P t f x = some y) (hx : LRep P w Z bl m x u) :
    ∃ u', (Instr.fieldAt t u f).run P w = .ok u' w ∧ LRep P w Z bl m y u' ∧ allKeysL y = allKeysL x := by
  unfold fieldAddrE at h
  obtain ⟨⟨off, ft⟩, hf, h⟩ := Option.bind_eq_some_iff.1 h
  obtain ⟨fs, fd, hu, hfd, rfl, rfl⟩ := fieldOf_some hf
  split at h
  · exact absurd h (by simp)
  rename_i hsz
  obtain ⟨i, hi⟩ := info_of_cells hsz
  have hrun : ∀ b o, (Instr.fieldAt t (.pointer (some ⟨b, o, none⟩)) f).run P w = .ok (.pointer (some ⟨b, o + fd.offset, none⟩)) w := by
    intro b o
    simp [Instr.fieldAt, run_under hu, hfd, Instr.sureAddr, fieldPlace, run_sizeOf hi, hsz, addr_add]
  cases x with
  | ptr k o =>
    simp only [Option.some.injEq] at h; subst h
    obtain ⟨b, o0, hb, rfl⟩ := hx
    exact ⟨_, hrun _ _, ⟨b, o0, hb, by rw [Nat.add_assoc]⟩, rfl⟩
  | ept k i' j =>
    simp only [Option.some.injEq] at h; subst h
    simp only [LRep] at hx
    split at hx
    · rename_i e f' xs hk
      obtain ⟨b, o0, hb, rfl⟩ := hx
      refine ⟨_, hrun _ _, ?_, rfl⟩
      simp only [LRep, hk]
      exact ⟨b, o0, hb, by rw [Nat.add_assoc, Nat.add_assoc]⟩
    · rename_i hk
      obtain ⟨b, q, rfl⟩ := hx
      refine ⟨_, hrun _ _, ?_, rfl⟩
      simp only [LRep]
      exact ⟨_, _, rfl⟩
  | rpt e xs i' j =>
    simp only [Option.some.injEq] at h; subst h
    obtain ⟨hi', b, off, cap, hd, rfl⟩ := hx
    exact ⟨_, hrun _ _, ⟨hi', b, off, cap, hd, by rw [Nat.add_assoc, Nat.add_assoc]⟩, rfl⟩
  | _ => exact absurd h (by simp)

theorem asIntOf_int (k : IntKind) (n : Int) : (asIntOf (.int k n)).run P w = .ok (k, n) w := rfl

theorem toNat_lt {i : Int} {n : Nat} (h0 : 0 ≤ i) (h : i < n) : i.toNat < n := by omega

theorem indexAt_slice {t e : TypeId} (hu : P.underlying t = some (.slice e)) (he : ∃ i, P.info? e = some i) {b o len C : Nat} {k : IntKind} {i : Int} (h0 : 0 ≤ i) (h1 : i < len) :
    (Instr.indexAt t (.slice (some ⟨b, o, none⟩) len C) (.int k i)).run P w = .ok (.pointer (some ⟨b, o + i.toNat * P.cellsOf e, none⟩)) w := by
  obtain ⟨inf, hi⟩ := he
  simp [Instr.indexAt, asIntOf, run_under hu, h0, h1, run_sizeOf hi, addr_add]

theorem indexAt_array {t e : TypeId} {n : Nat} (hu : P.underlying t = some (.array n e)) (he : ∃ i, P.info? e = some i) {b o : Nat} {k : IntKind} {i : Int} (h0 : 0 ≤ i) (h1 : i < n) :
    (Instr.indexAt t (.pointer (some ⟨b, o, none⟩)) (.int k i)).run P w = .ok (.pointer (some ⟨b, o + i.toNat * P.cellsOf e, none⟩)) w := by
  obtain ⟨inf, hi⟩ := he
  simp [Instr.indexAt, asIntOf, run_under hu, h0, h1, run_sizeOf hi, addr_add, Instr.sureAddr]

theorem indexAddrE_sound (c : Cx P K Z bl m w) {m1 : Nat → Obj} (hm : ∀ k, alive (m1 k) = true → m k = m1 k) {t : TypeId} {x y : SL} {u : Value} {k : IntKind} {i : Int} (h : indexAddrE P m1 t x i = some (true, y)) (hx : LRep P w Z bl m x u) :
    ∃ u', (Instr.indexAt t u (.int k i)).run P w = .ok u' w ∧ LRep P w Z bl m y u' ∧ ∀ j ∈ allKeysL y, j ∈ allKeysL x := by
  unfold indexAddrE at h
  split at h
  · rename_i e hu
    cases x with
    | vr key =>
      simp only at h
      split at h
      · rename_i e' f xs hk
        split at h
        · rename_i hee
          subst hee
          have hmk : m key = .vec e f xs := (hm key (by rw [hk]; rfl)).trans hk
          simp only [Option.some.injEq, Prod.mk.injEq, decide_eq_true_eq] at h
          obtain ⟨⟨h0, h1⟩, rfl⟩ := h
          obtain ⟨ks, hks, hl, hb⟩ := vecAt c.mem hmk
          simp only [LRep, hmk] at hx ⊢
          rcases hb with ⟨hn, rfl⟩ | ⟨b, o, hb, hsz, hrow⟩
          · simp at h1; omega
          · rw [hb] at hx
            obtain ⟨A, C, rfl, hle, hA⟩ := hx.whole
            rw [hA (by omega)]
            refine ⟨_, indexAt_slice hu (by obtain ⟨d, hd⟩ := elemKinds_under hks; exact info_of_under hd) h0 h1, ⟨b, o, hb, ?_⟩, fun j hj => hj⟩
            rw [szOf_eq hks, (elemKinds_len hks).1, Nat.add_zero]
        · exact absurd h (by simp)
      · exact absurd h (by simp)
    | vs key off len =>
      simp only at h
      split at h
      · rename_i e' f xs hk
        split at h
        · rename_i hee
          subst hee
          have hmk : m key = .vec e f xs := (hm key (by rw [hk]; rfl)).trans hk
          simp only [Option.some.injEq, Prod.mk.injEq, decide_eq_true_eq] at h
          obtain ⟨⟨h0, h1⟩, rfl⟩ := h
          obtain ⟨ks, hks, hl, hb⟩ := vecAt c.mem hmk
          simp only [LRep, hmk] at hx ⊢
          rcases hb with ⟨hn, rfl⟩ | ⟨b, o, hb, hsz, hrow⟩
          · rw [hn] at hx
            obtain ⟨A, _, h2, _⟩ := hx
            omega
          · rw [hb] at hx
            obtain ⟨A, C, rfl, hle, hol, hn, hA, hC⟩ := hx
            rw [hA (by omega)]
            refine ⟨_, indexAt_slice hu (by obtain ⟨d, hd⟩ := elemKinds_under hks; exact info_of_under hd) h0 h1, ⟨b, o, hb, ?_⟩, fun j hj => hj⟩
            rw [szOf_eq hks, (elemKinds_len hks).1, Nat.add_zero, Nat.add_mul, Nat.add_assoc]
        · exact absurd h (by simp)
      · exact absurd h (by simp)
    | asl key off len =>
      simp only at h
      split at h
      · rename_i q hq
        simp only [Option.some.injEq, Prod.mk.injEq, decide_eq_true_eq] at h
        obtain ⟨⟨h0, h1⟩, rfl⟩ := h
        obtain ⟨b, o, hb, A, C, rfl, hle, hA⟩ := hx
        rw [hA (by omega)]
        refine ⟨_, indexAt_slice hu (by obtain ⟨d, hd⟩ := elemKinds_under hq; exact info_of_under hd) h0 h1, ⟨b, o, hb, ?_⟩, fun j hj => hj⟩
        rw [← (elemKinds_len hq).1]; simp [Nat.add_assoc]
      · exact absurd h (by simp)
    | d z =>
      cases z with
      | lst e' xs =>
        simp only at h
        split at h
        · rename_i hee
          subst hee
          simp only [Option.some.injEq, Prod.mk.injEq, decide_eq_true_eq] at h
          obtain ⟨⟨h0, h1⟩, rfl⟩ := h
          obtain ⟨kk, hd⟩ := hx
          have hd' := hd
          cases hd with
          | nil => simp at h1; omega
          | lst _ ks _ b off cap cell hk hc hl hm' hr =>
            refine ⟨_, indexAt_slice hu (by obtain ⟨d, hd⟩ := elemKinds_under hk; exact info_of_under hd) h0 h1, ⟨by omega, b, off, cap, hd', ?_⟩, fun j hj => by simp [allKeysL] at hj⟩
            rw [szOf_eq hk, (elemKinds_len hk).1, Nat.add_zero]
        · exact absurd h (by simp)
      | _ => exact absurd h (by simp)
    | _ => exact absurd h (by simp)
  · rename_i n e hu
    split at h
    · exact absurd h (by simp)
    rename_i hz
    have hi := info_of_cells hz
    cases x with
    | ptr key off =>
      simp only [Option.some.injEq, Prod.mk.injEq, decide_eq_true_eq] at h
      obtain ⟨⟨h0, h1⟩, rfl⟩ := h
      obtain ⟨b, o, hb, rfl⟩ := hx
      exact ⟨_, indexAt_array hu hi h0 h1, ⟨b, o, hb, by rw [Nat.add_assoc]⟩, fun j hj => hj⟩
    | ept key a j =>
      simp only at h
      split at h
      · rename_i p harr
        obtain ⟨n', q⟩ := p
        simp only [Option.some.injEq, Prod.mk.injEq, decide_eq_true_eq] at h
        obtain ⟨⟨h0, h1⟩, rfl⟩ := h
        split at harr
        · rename_i e' f xs hk
          have hmk : m key = .vec e' f xs := (hm key (by rw [hk]; rfl)).trans hk
          obtain ⟨hut, hq, rfl, rfl, _⟩ := arrLen_some harr
          rw [hu] at hut; injection hut with hut; injection hut with en ee; subst en; subst ee
          simp only [LRep, hmk] at hx ⊢
          obtain ⟨b, o, hb, rfl⟩ := hx
          refine ⟨_, indexAt_array hu hi h0 h1, ⟨b, o, hb, ?_⟩, fun j hj => hj⟩
          rw [szOf_eq hq, ← (elemKinds_len hq).1]; simp
        · exact absurd harr (by simp)
      simp only [Option.some.injEq, Prod.mk.injEq, decide_eq_true_eq] at h
      obtain ⟨⟨h0, h1⟩, rfl⟩ := h
      simp only [LRep] at hx
      split at hx
      · rename_i e' f xs hk
        obtain ⟨b, o, hb, rfl⟩ := hx
        refine ⟨_, indexAt_array hu hi h0 h1, ?_, fun j hj => hj⟩
        simp only [LRep, hk]
        exact ⟨b, o, hb, by rw [Nat.add_assoc, Nat.add_assoc]⟩
      · rename_i hk
        obtain ⟨b, q, rfl⟩ := hx
        refine ⟨_, indexAt_array hu hi h0 h1, ?_, fun j hj => hj⟩
        simp only [LRep]
        exact ⟨_, _, rfl⟩
    | rpt e' xs a j =>
      simp only at h
      split at h
      · rename_i p harr
        obtain ⟨n', q⟩ := p
        simp only [Option.some.injEq, Prod.mk.injEq, decide_eq_true_eq] at h
        obtain ⟨⟨h0, h1, h2⟩, rfl⟩ := h
        obtain ⟨hut, hq, rfl, rfl, _⟩ := arrLen_some harr
        rw [hu] at hut; injection hut with hut; injection hut with en ee; subst en; subst ee
        obtain ⟨hi', b, off, cap, hd, rfl⟩ := hx
        refine ⟨_, indexAt_array hu hi h0 h1, ⟨by omega, b, off, cap, hd, ?_⟩, fun j hj => hj⟩
        rw [szOf_eq hq, ← (elemKinds_len hq).1]; simp
      simp only [Option.some.injEq, Prod.mk.injEq, decide_eq_true_eq] at h
      obtain ⟨⟨h0, h1⟩, rfl⟩ := h
      obtain ⟨hi', b, off, cap, hd, rfl⟩ := hx
      exact ⟨_, indexAt_array hu hi h0 h1, ⟨hi', b, off, cap, hd, by rw [Nat.add_assoc, Nat.add_assoc]⟩, fun j hj => hj⟩
    | _ => exact absurd h (by simp)
  · exact absurd h (by simp)

theorem part_run {t : TypeId} {d : TypeDesc} (hu : P.underlying t = some d) {us : List Value} {off : Nat} {cs : List SL} {v : SV} (hc : All2 (LRep P w Z bl m) cs us) (h : partE P t cs off = some v) :
    ∃ u, (part t us.toArray off).run P w = .ok u w ∧ SVRep P w Z bl m v u := by
  obtain ⟨i, hi⟩ := info_of_under hu
  unfold partE at h
  split at h
  · rename_i hle
    obtain ⟨_, hv⟩ := mkT_some h
    have hlen := hc.length
    unfold part
    simp only [Sem.run_bind, run_isAgg hu, Result.andThen_ok]
    cases hg : isAggT P t with
    | true =>
      rw [hg] at hv
      simp only [if_true] at hv ⊢
      subst hv
      simp only [Sem.run_bind, run_sizeOf hi, Result.andThen_ok, Sem.run_pure]
      refine ⟨_, rfl, (us.drop off).take (P.cellsOf t), ?_, ?_⟩
      · simp [List.extract_eq_take_drop]
      · refine All2.of_get (by rw [drop_take_len hle, drop_take_len (by omega)]) fun j a b ha hb => ?_
        obtain ⟨ha', _⟩ := drop_take_get ha
        obtain ⟨hb', _⟩ := drop_take_get hb
        obtain ⟨b', h1, h2⟩ := hc.get _ a ha'
        rw [hb'] at h1; injection h1 with h1; subst h1; exact h2
    | false =>
      rw [hg] at hv
      simp only [Bool.false_eq_true, if_false] at hv ⊢
      obtain ⟨x, hx, rfl⟩ := hv
      have h0 : ((cs.drop off).take (P.cellsOf t))[0]? = some x := by rw [hx]; rfl
      obtain ⟨h0', _⟩ := drop_take_get h0
      obtain ⟨u, hu', hr⟩ := hc.get _ x h0'
      refine ⟨u, ?_, hr⟩
      have : us.toArray[off]? = some u := by simpa using hu'
      rw [this]; rfl
  · exact absurd h (by simp)

theorem part_keys {t : TypeId} {off : Nat} {cs : List SL} {v : SV} (h : partE P t cs off = some v) : ∀ k ∈ keysSV v, ∃ l ∈ cs, k ∈ allKeysL l := by
  unfold partE at h
  split at h
  · obtain ⟨_, hv⟩ := mkT_some h
    intro k hk
    split at hv
    · subst hv
      simp only [keysSV, SV.leaves, List.mem_flatMap] at hk
      obtain ⟨l, hl, hk⟩ := hk
      exact ⟨l, List.mem_of_mem_drop (List.mem_of_mem_take hl), hk⟩
    · obtain ⟨x, hx, rfl⟩ := hv
      simp only [keysSV, SV.leaves, List.mem_flatMap] at hk
      obtain ⟨l, hl, hk⟩ := hk
      exact ⟨l, List.mem_of_mem_drop (List.mem_of_mem_take (hx ▸ hl)), hk⟩
  · exact absurd h (by simp)

end
end Go.Ev

namespace Go.Ev
open Go Go.RowKit

section
variable {P : Program} {K : Nat → Prop} {w : World} {Z : Addr → Prop} {bl : Bl} {m : Nat → Obj}

/-- An operand that may be lacking. -/
inductive OpRep (P : Program) (w : World) (Z : Addr → Prop) (bl : Bl) (m : Nat → Obj) : Option SV → Option Value → Prop
  | none : OpRep P w Z bl m none none
  | some {v : SV} {u : Value} (h : SVRep P w Z bl m v u) : OpRep P w Z bl m (some v) (some u)

theorem SVRep.int {k : IntKind} {n : Int} {u : Value} (h : SVRep P w Z bl m (.one (.d (.int k n))) u) : u = .int k n := LRep.int (Z := Z) (bl := bl) (m := m) (w := w) (P := P) h

theorem sliceBound_run {k : IntKind} {i : Int} {y : Nat} {code : BoundsCode} (h0 : 0 ≤ i) (h1 : i ≤ y) : (Instr.sliceBound (.int k i) y code).run P w = .ok i.toNat w := by
  simp [Instr.sliceBound, asIntOf, h0, h1]

theorem bounds_run {b : Bool} {n cap l h : Nat} {lo hi : Option SV} {lo' hi' : Option Value} (hb : boundsE n lo hi = some (true, l, h)) (hl : OpRep P w Z bl m lo lo') (hh : OpRep P w Z bl m hi hi') (hc : n ≤ cap) :
    (Instr.sliceBounds b n cap lo' hi' none).run P w = .ok (l, h, cap) w ∧ l ≤ h ∧ h ≤ n ∧ (lo = none → l = 0) ∧ (hi = none → h = n) := by
  unfold boundsE at hb
  split at hb
  · simp only [ok, Option.some.injEq, Prod.mk.injEq, true_and] at hb
    obtain ⟨rfl, rfl⟩ := hb
    cases hl; cases hh
    exact ⟨by simp [Instr.sliceBounds], Nat.zero_le _, Nat.le_refl _, fun _ => rfl, fun _ => rfl⟩
  · simp only [Option.some.injEq, Prod.mk.injEq, decide_eq_true_eq] at hb
    obtain ⟨⟨h0, h1⟩, rfl, rfl⟩ := hb
    cases hh
    cases hl with
    | some hv =>
      obtain rfl := hv.int
      exact ⟨by simp [Instr.sliceBounds, sliceBound_run h0 h1], by omega, Nat.le_refl _, fun h => by simp at h, fun _ => rfl⟩
  · simp only [Option.some.injEq, Prod.mk.injEq, decide_eq_true_eq] at hb
    obtain ⟨⟨h0, h1⟩, rfl, rfl⟩ := hb
    cases hl
    cases hh with
    | some hv =>
      obtain rfl := hv.int
      have h2 : ∀ (k : IntKind) (i : Int) (code : BoundsCode), 0 ≤ i → i ≤ (n : Int) → (Instr.sliceBound (.int k i) cap code).run P w = .ok i.toNat w := fun k i code a1 a2 => sliceBound_run a1 (by omega)
      exact ⟨by simp [Instr.sliceBounds, h2 _ _ _ h0 h1], by omega, by omega, fun _ => rfl, fun h => by simp at h⟩
  · simp only [Option.some.injEq, Prod.mk.injEq, decide_eq_true_eq] at hb
    obtain ⟨⟨h0, h1, h2⟩, rfl, rfl⟩ := hb
    cases hl with
    | some hv =>
      cases hh with
      | some hv2 =>
        obtain rfl := hv.int
        obtain rfl := hv2.int
        refine ⟨?_, by omega, by omega, fun h => by simp at h, fun h => by simp at h⟩
        rename_i k1 i1 k2 i2
        have e1 : ∀ code, (Instr.sliceBound (.int k2 i2) cap code).run P w = .ok i2.toNat w := fun code => sliceBound_run (by omega) (by omega)
        have e2 : ∀ code, (Instr.sliceBound (.int k1 i1) i2.toNat code).run P w = .ok i1.toNat w := fun code => sliceBound_run h0 (by omega)
        simp [Instr.sliceBounds, e1, e2]
  · exact absurd hb (by simp)

/-- A slice of a slice, as the model gives it. -/
theorem slice_run {t e : TypeId} (hu : P.underlying t = some (.slice e)) (he : ∃ i, P.info? e = some i) {A : Option Addr} {n C l h : Nat} {lo' hi' : Option Value} (hb : (Instr.sliceBounds true n C lo' hi' none).run P w = .ok (l, h, C) w) :
    (Instr.sliceAt t (.slice A n C) lo' hi' none).run P w = .ok (.slice (if C = l then A else A.map (·.add (l * P.cellsOf e))) (h - l) (C - l)) w := by
  obtain ⟨i, hi⟩ := he
  simp [Instr.sliceAt, Instr.slice, run_under hu, hb, run_sizeOf hi]

theorem SlRep.cut {b o sz off len n : Nat} {A : Option Addr} {C l h : Nat} (hs : SlRep w (some (b, o)) sz off len n (.slice A len C)) (hlh : l ≤ h) (hh : h ≤ len) :
    SlRep w (some (b, o)) sz (off + l) (h - l) n (.slice (if C = l then A else A.map (·.add (l * sz))) (h - l) (C - l)) := by
  obtain ⟨A', C', he, h1, h2, h3, h4, h5⟩ := hs
  injection he with e1 _ e2
  subst e1; subst e2
  refine ⟨_, _, rfl, by omega, by omega, by omega, fun hc => ?_, ?_⟩
  · rw [if_neg (by omega), h4 (by omega)]
    simp only [Option.map_some, addr_add, Option.some.injEq, Addr.mk.injEq, true_and, and_true]
    rw [Nat.add_mul]; omega
  · rw [show off + l + (C - l) = off + C by omega]; exact h5

theorem sliceLst_eq {xs : List (List DL)} {lo hi : Option SV} {l h : Nat} (hlh : l ≤ h) (hh : h ≤ xs.length) (h0 : lo = none → l = 0) (h1 : hi = none → h = xs.length) : sliceLst xs lo hi l h = (xs.drop l).take (h - l) := by
  unfold sliceLst
  split
  · rw [h1 rfl, List.take_of_length_le (by simp)]
  · split
    · rw [h0 rfl]; simp
    · rfl

theorem sliceE_sound (c : Cx P K Z bl m w) {m1 : Nat → Obj} (hm : ∀ k, alive (m1 k) = true → m k = m1 k) {t : TypeId} {x y : SL} {u : Value} {lo hi : Option SV} {lo' hi' : Option Value} (h : sliceE P m1 t x lo hi = some (true, y)) (hx : LRep P w Z bl m x u)
    (hlo : OpRep P w Z bl m lo lo') (hhi : OpRep P w Z bl m hi hi') :
    ∃ u', (Instr.sliceAt t u lo' hi' none).run P w = .ok u' w ∧ LRep P w Z bl m y u' ∧ ∀ j ∈ allKeysL y, j ∈ allKeysL x := by
  unfold sliceE at h
  split at h
  · rename_i e hu
    split at h
    · exact absurd h (by simp)
    rename_i ks hks
    have hinfo : ∃ i, P.info? e = some i := by obtain ⟨d, hd⟩ := elemKinds_under hks; exact info_of_under hd
    have hcs := (elemKinds_len hks).1
    cases x with
    | nil =>
      obtain ⟨⟨b1, l, h2⟩, hb, he⟩ := Option.map_eq_some_iff.1 h
      simp only [Prod.mk.injEq] at he
      obtain ⟨rfl, rfl⟩ := he
      simp only [LRep] at hx; subst hx
      obtain ⟨hr, h3, h4, _, _⟩ := bounds_run (b := true) (cap := 0) hb hlo hhi (Nat.le_refl _)
      refine ⟨_, slice_run hu hinfo hr, ?_, fun j hj => hj⟩
      have h5 : h2 = 0 := by omega
      have h6 : l = 0 := by omega
      subst h5; subst h6; rfl
    | vr key =>
      simp only at h
      split at h
      · rename_i e' f xs hk
        split at h
        · rename_i hee
          subst hee
          have hmk : m key = .vec e f xs := (hm key (by rw [hk]; rfl)).trans hk
          obtain ⟨⟨b1, l, h2⟩, hb, he⟩ := Option.map_eq_some_iff.1 h
          simp only [Prod.mk.injEq] at he
          obtain ⟨rfl, rfl⟩ := he
          simp only [LRep, hmk] at hx ⊢
          cases hbl : bl key with
          | none =>
            rw [hbl] at hx
            obtain ⟨A, rfl, hl0, _⟩ := hx
            rw [hl0] at hb
            obtain ⟨hr, h3, h4, _, _⟩ := bounds_run (b := true) (cap := 0) hb hlo hhi (Nat.le_refl _)
            refine ⟨_, slice_run hu hinfo hr, ?_, fun j hj => hj⟩
            have h5 : h2 = 0 := by omega
            have h6 : l = 0 := by omega
            subst h5; subst h6
            exact ⟨A, by simp, rfl, rfl⟩
          | some p =>
            obtain ⟨b, o⟩ := p
            rw [hbl] at hx
            have hx' := hx
            obtain ⟨A, C, rfl, hle, _⟩ := hx'
            obtain ⟨hr, h3, h4, _, _⟩ := bounds_run (b := true) (cap := C) hb hlo hhi hle
            refine ⟨_, slice_run hu hinfo hr, ?_, fun j hj => hj⟩
            have := hx.cut h3 h4
            rw [Nat.zero_add] at this
            rw [szOf_eq hks, hcs] at this ⊢
            exact this
        · exact absurd h (by simp)
      · exact absurd h (by simp)
    | vs key off len =>
      simp only at h
      split at h
      · rename_i e' f xs hk
        split at h
        · rename_i hee
          subst hee
          have hmk : m key = .vec e f xs := (hm key (by rw [hk]; rfl)).trans hk
          obtain ⟨⟨b1, l, h2⟩, hb, he⟩ := Option.map_eq_some_iff.1 h
          simp only [Prod.mk.injEq] at he
          obtain ⟨rfl, rfl⟩ := he
          simp only [LRep, hmk] at hx ⊢
          cases hbl : bl key with
          | none =>
            rw [hbl] at hx
            obtain ⟨A, rfl, hl0, ho0⟩ := hx
            rw [hl0] at hb
            obtain ⟨hr, h3, h4, _, _⟩ := bounds_run (b := true) (cap := 0) hb hlo hhi (Nat.le_refl _)
            refine ⟨_, slice_run hu hinfo hr, ?_, fun j hj => hj⟩
            have h5 : h2 = 0 := by omega
            have h6 : l = 0 := by omega
            subst h5; subst h6
            exact ⟨A, by simp, rfl, by omega⟩
          | some p =>
            obtain ⟨b, o⟩ := p
            rw [hbl] at hx
            have hx' := hx
            obtain ⟨A, C, rfl, hle, _⟩ := hx'
            obtain ⟨hr, h3, h4, _, _⟩ := bounds_run (b := true) (cap := C) hb hlo hhi hle
            refine ⟨_, slice_run hu hinfo hr, ?_, fun j hj => hj⟩
            have := hx.cut h3 h4
            rw [szOf_eq hks, hcs] at this ⊢
            exact this
        · exact absurd h (by simp)
      · exact absurd h (by simp)
    | asl key off len =>
      simp only at h
      split at h
      · rename_i q
        obtain ⟨⟨b1, l, h2⟩, hb, he⟩ := Option.map_eq_some_iff.1 h
        simp only [Prod.mk.injEq] at he
        obtain ⟨rfl, rfl⟩ := he
        obtain ⟨b, o, hbl, A, C, rfl, hle, hA⟩ := hx
        obtain ⟨hr, h3, h4, _, _⟩ := bounds_run (b := true) (cap := C) hb hlo hhi hle
        refine ⟨_, slice_run hu hinfo hr, ⟨b, o, hbl, _, _, rfl, by omega, fun hc => ?_⟩, fun j hj => hj⟩
        rw [if_neg (by omega), hA (by omega)]
        simp only [Option.map_some, addr_add, Option.some.injEq, Addr.mk.injEq, true_and, and_true]
        rw [← hcs]; simp; omega
      · exact absurd h (by simp)
    | d z =>
      cases z with
      | lst e' xs =>
        simp only at h
        split at h
        · rename_i hee
          subst hee
          obtain ⟨⟨b1, l, h2⟩, hb, he⟩ := Option.map_eq_some_iff.1 h
          simp only [Prod.mk.injEq] at he
          obtain ⟨rfl, rfl⟩ := he
          obtain ⟨kk, hd⟩ := hx
          cases hd with
          | nil _ a cap =>
            obtain ⟨hr, h3, h4, h00, h01⟩ := bounds_run (b := true) (cap := cap) hb hlo hhi (Nat.zero_le _)
            refine ⟨_, slice_run hu hinfo hr, ⟨.slice e, ?_⟩, fun j hj => by simp [allKeysL] at hj⟩
            rw [sliceLst_eq h3 h4 h00 h01]
            simp only [List.drop_nil, List.take_nil]
            have : h2 - l = 0 := by simp at h4; omega
            rw [this]; exact .nil _ _ _
          | lst _ ks' _ b off cap cell hk hc hl hm' hr' =>
            obtain ⟨hr, h3, h4, h00, h01⟩ := bounds_run (b := true) (cap := cap) hb hlo hhi hc
            refine ⟨_, slice_run hu hinfo hr, ⟨.slice e, ?_⟩, fun j hj => by simp [allKeysL] at hj⟩
            rw [sliceLst_eq h3 h4 h00 h01]
            have hlen : ((xs.drop l).take (h2 - l)).length = h2 - l := drop_take_len (by omega)
            rw [hks] at hk; injection hk with hk; subst hk
            rcases Nat.eq_zero_or_pos (h2 - l) with hz | hz
            · rw [hz]; simp only [List.take_zero]; exact .nil _ _ _
            · rw [if_neg (by omega)]
              have hrow : RowAt P w Z ks xs b off := ⟨hl, fun i j x kk y e1 e2 e3 => ⟨_, (hm' i j (List.getElem?_eq_some_iff.1 e1).1 (List.getElem?_eq_some_iff.1 e2).1).1, hr' i j x kk y e1 e2 e3⟩⟩
              have := drep_of_row (cap := cap - l) hks (row_drop (off := l) (len := h2 - l) hrow) (by rw [hlen]; omega) (fun i j hi hj => by
                rw [hlen] at hi
                have := (hm' (l + i) j (by omega) hj).2
                rw [Nat.add_mul] at this
                rw [show off + l * ks.length + (i * ks.length + j) = off + (l * ks.length + i * ks.length + j) by omega]; exact this)
              rw [hlen] at this
              simp only [Option.map_some, addr_add]
              rw [← hcs]; exact this
        · exact absurd h (by simp)
      | _ => exact absurd h (by simp)
    | _ => exact absurd h (by simp)
  · rename_i hu
    split at h
    · rename_i s
      obtain ⟨⟨b1, l, h2⟩, hb, he⟩ := Option.map_eq_some_iff.1 h
      simp only [Prod.mk.injEq] at he
      obtain ⟨rfl, rfl⟩ := he
      obtain rfl := hx.str
      obtain ⟨hr, h3, h4, _, _⟩ := bounds_run (b := false) (cap := s.size) hb hlo hhi (Nat.le_refl _)
      exact ⟨_, by simp [Instr.sliceAt, Instr.slice, run_under hu, hr], ⟨_, .str _⟩, fun j hj => by simp [allKeysL] at hj⟩
    · exact absurd h (by simp)
  · rename_i n e hu
    split at h
    · rename_i q hq
      obtain ⟨d, hd⟩ := elemKinds_under hq
      obtain ⟨inf, hi⟩ := info_of_under hd
      have hcs := (elemKinds_len hq).1
      have arr : ∀ {b o l h2 : Nat}, (Instr.sliceBounds false n n lo' hi' none).run P w = .ok (l, h2, n) w →
          (Instr.sliceAt t (.pointer (some ⟨b, o, none⟩)) lo' hi' none).run P w = .ok (.slice (some (if n = l then ⟨b, o, none⟩ else ⟨b, o + l, none⟩)) (h2 - l) (n - l)) w := by
        intro b o l h2 hr
        simp [Instr.sliceAt, run_under hu, Instr.sureAddr, hr, run_sizeOf hi, addr_add, ← hcs]
      cases x with
      | ptr key off =>
        obtain ⟨⟨b1, l, h2⟩, hb, he⟩ := Option.map_eq_some_iff.1 h
        simp only [Prod.mk.injEq] at he
        obtain ⟨rfl, rfl⟩ := he
        obtain ⟨b, o, hbl, rfl⟩ := hx
        obtain ⟨hr, h3, h4, _, _⟩ := bounds_run (b := false) (cap := n) hb hlo hhi (Nat.le_refl _)
        refine ⟨_, arr hr, ⟨b, o, hbl, _, _, rfl, by omega, fun hc => ?_⟩, fun j hj => hj⟩
        rw [if_neg (by omega), Nat.add_assoc]
      | ept key i j =>
        simp only at h
        split at h
        · rename_i e' f xs hk
          have hmk : m key = .vec e' f xs := (hm key (by rw [hk]; rfl)).trans hk
          cases hbb : (Nat.beq e' e && (Nat.beq i 0 && Nat.beq j 0)) with
          | false => rw [hbb] at h; exact absurd h (by simp)
          | true =>
            rw [hbb] at h
            simp only [cond_true] at h
            simp only [Bool.and_eq_true] at hbb
            have he := Nat.eq_of_beq_eq_true hbb.1
            have hi0 := Nat.eq_of_beq_eq_true hbb.2.1
            have hj0 := Nat.eq_of_beq_eq_true hbb.2.2
            subst he; subst hi0; subst hj0
            obtain ⟨ks, hks, hl, hb⟩ := vecAt c.mem hmk
            rw [hq] at hks; injection hks with hks; subst hks
            have hx0 := hx
            simp only [LRep, hmk] at hx0
            obtain ⟨b, o, hbl, rfl⟩ := hx0
            rcases hb with ⟨hn, _⟩ | ⟨b', o', hb', hsz, hrow⟩
            · rw [hn] at hbl; exact absurd hbl (by simp)
            rw [hbl] at hb'; injection hb' with hb'; injection hb' with e1 e2; subst e1; subst e2
            have full : ∀ {l h2 : Nat}, (Instr.sliceBounds false n n lo' hi' none).run P w = .ok (l, h2, n) w → l ≤ h2 → h2 ≤ n → xs.length = n →
                ∃ u', (Instr.sliceAt t (.pointer (some ⟨b, o + (0 * szOf P e' + 0), none⟩)) lo' hi' none).run P w = .ok u' w ∧ SlRep w (some (b, o)) (szOf P e') l (h2 - l) xs.length u' := by
              intro l h2 hr h3 h4 hn
              refine ⟨_, arr hr, _, _, rfl, by omega, by omega, by omega, fun hc => ?_, ?_⟩
              · rw [if_neg (by omega), szOf_eq hq]; simp
              · rw [szOf_eq hq]; simp only [List.length_singleton, Nat.mul_one] at hsz ⊢; omega
            split at h
            · simp only [Option.some.injEq, Prod.mk.injEq, decide_eq_true_eq] at h
              obtain ⟨hxn, rfl⟩ := h
              obtain ⟨hr, h3, h4, h00, h01⟩ := bounds_run (b := false) (n := n) (cap := n) (lo := none) (hi := none) rfl hlo hhi (Nat.le_refl _)
              obtain ⟨u', hu', hs⟩ := full hr h3 h4 hxn
              refine ⟨u', hu', ?_, fun j hj => hj⟩
              simp only [LRep, hmk, hbl]
              rw [hxn] at hs ⊢; exact hs
            · obtain ⟨⟨b1, l, h2⟩, hb, he⟩ := Option.map_eq_some_iff.1 h
              simp only [Prod.mk.injEq, Bool.and_eq_true, decide_eq_true_eq] at he
              obtain ⟨⟨rfl, hxn⟩, rfl⟩ := he
              obtain ⟨hr, h3, h4, _, _⟩ := bounds_run (b := false) (cap := n) hb hlo hhi (Nat.le_refl _)
              obtain ⟨u', hu', hs⟩ := full hr h3 h4 hxn
              refine ⟨u', hu', ?_, fun j hj => hj⟩
              simp only [LRep, hmk, hbl]
              exact hs
        · exact absurd h (by simp)
      | rpt e' xs i j =>
        simp only at h
        split at h
        · rename_i ks hks
          split at h
          · rename_i hcond
            obtain ⟨⟨b1, l, h2⟩, hb, he⟩ := Option.map_eq_some_iff.1 h
            simp only [Prod.mk.injEq] at he
            obtain ⟨rfl, rfl⟩ := he
            obtain ⟨hix, b, off, cap, hdr, rfl⟩ := hx
            obtain ⟨ks', hks', hrow, hz⟩ := hdr.row (by omega)
            rw [hks] at hks'; injection hks' with hks'; subst hks'
            obtain ⟨hr, h3, h4, _, _⟩ := bounds_run (b := false) (cap := n) hb hlo hhi (Nat.le_refl _)
            refine ⟨_, arr hr, ⟨.slice e, ?_⟩, fun j hj => by simp [allKeysL] at hj⟩
            rcases Nat.eq_zero_or_pos (h2 - l) with hz0 | hz0
            · rw [hz0]; simp only [List.range_zero, List.map_nil]; exact .nil _ _ _
            · rw [if_neg (by omega)]
              have hlen : ((List.range (h2 - l)).map fun z => [q.view (cellAt xs i (j + l + z))]).length = h2 - l := by simp
              obtain ⟨x0, hx0⟩ : ∃ x0, xs[i]? = some x0 := ⟨_, List.getElem?_eq_getElem hix⟩
              have hx0l := hrow.1 i x0 hx0
              have hkq : ∀ z, z < n → ks[j + z]? = some q := fun z hz => by
                have h1 : ((ks.drop j).take n)[z]? = some (ks[j + z]'(by omega)) := by rw [List.getElem?_take_of_lt hz, List.getElem?_drop, List.getElem?_eq_getElem (by omega)]
                have h2 := List.all_eq_true.1 hcond.2 _ (List.mem_of_getElem? h1)
                rw [List.getElem?_eq_getElem (by omega)]
                rw [of_decide_eq_true h2]
              have := drep_of_row (P := P) (w := w) (Z := Z) (e := e) (ks := [q]) (xs := (List.range (h2 - l)).map fun z => [q.view (cellAt xs i (j + l + z))]) (b := b) (o := off + (i * ks.length + j) + l) (cap := n - l) hq
                ⟨fun i' x hx => by
                    rw [List.getElem?_map] at hx
                    obtain ⟨z, _, rfl⟩ := Option.map_eq_some_iff.1 hx
                    rfl,
                  fun i' j' x kk y hx hkk hy => by
                    rw [List.getElem?_map] at hx
                    obtain ⟨z, hz1, rfl⟩ := Option.map_eq_some_iff.1 hx
                    have hi'l : i' < h2 - l := by
                      have := (List.getElem?_eq_some_iff.1 hz1).1
                      simpa using this
                    rw [List.getElem?_range hi'l] at hz1
                    injection hz1 with hz1; subst hz1
                    have hj'0 : j' = 0 := by have := (List.getElem?_eq_some_iff.1 hkk).1; simp at this; omega
                    subst hj'0
                    simp only [List.getElem?_cons_zero, Option.some.injEq] at hkk hy
                    subst hkk; subst hy
                    obtain ⟨y0, hy0⟩ : ∃ y0, x0[j + l + i']? = some y0 := ⟨_, List.getElem?_eq_getElem (by omega)⟩
                    obtain ⟨v, hv, hdv⟩ := hrow.2 i (j + l + i') x0 q y0 hx0 (by rw [Nat.add_assoc]; exact hkq (l + i') (by omega)) hy0
                    rw [cellAt_get hx0 hy0, hdv.view]
                    refine ⟨v, ?_, hdv⟩
                    simp only [List.length_singleton, Nat.mul_one, Nat.add_zero]
                    rw [show off + (i * ks.length + j) + l + i' = off + (i * ks.length + (j + l + i')) by omega]; exact hv⟩
                (by rw [hlen]; omega)
                (fun i' j' hi' hj' => by
                  rw [hlen] at hi'
                  simp only [List.length_singleton] at hj'
                  have := hz i (j + l + i') hix (by omega)
                  simp only [List.length_singleton, Nat.mul_one]
                  rw [show off + (i * ks.length + j) + l + (i' + j') = off + (i * ks.length + (j + l + i')) by omega]; exact this)
              rw [hlen] at this
              rw [szOf_eq hks]; exact this
          · exact absurd h (by simp)
        · exact absurd h (by simp)
      | _ => exact absurd h (by simp)
    · exact absurd h (by simp)
  · exact absurd h (by simp)

end
end Go.Ev

namespace Go.Ev
open Go Go.RowKit

section
variable {P : Program} {K : Nat → Prop} {w : World} {Z : Addr → Prop} {bl : Bl} {m : Nat → Obj}

/-- What a source's cells are. -/
structure Src (P : Program) (w : World) (Z : Addr → Prop) (ks : List CK) (e : TypeId) (ys : List (List DL)) (u : Value) (us : List Value) : Prop where
  len : (Builtin.lenOf u).run P w = .ok ys.length w
  cells : ∀ n (W : World), n ≤ ys.length → W.heap = w.heap → (Builtin.firstCells (P.cellsOf e) n u).run P W = .ok (us.take (n * ks.length)).toArray W
  ul : us.length = ys.length * ks.length
  el : ∀ (i : Nat) x, ys[i]? = some x → x.length = ks.length
  rep : ∀ i j x kk y, ys[i]? = some x → ks[j]? = some kk → x[j]? = some y → ∃ v, us[i * ks.length + j]? = some v ∧ DRep P w Z kk y v
  cell : ∀ v ∈ us, Value.isCell v = true

/-- A slice of the model over a row, as a source. -/
theorem Src.ofRow {e : TypeId} {ks : List CK} {ys : List (List DL)} {b o C : Nat} {A : Option Addr} (hks : elemKinds P e = some ks) (h : RowAt P w Z ks ys b o) (hA : 0 < ys.length → A = some ⟨b, o, none⟩) :
    ∃ us, Src P w Z ks e ys (.slice A ys.length C) us := by
  have hsz := (elemKinds_len hks).1
  have hcell : ∀ i j x kk y, ys[i]? = some x → ks[j]? = some kk → x[j]? = some y → (w.cell? ⟨b, o + (i * ks.length + j), none⟩).isSome = true := fun i j x kk y h1 h2 h3 => by
    obtain ⟨v, hv, _⟩ := h.2 i j x kk y h1 h2 h3
    rw [hv]; rfl
  have hall : ∀ q, q < ys.length * ks.length → (w.cell? ⟨b, o + q, none⟩).isSome = true ∧ ∃ v, w.cell? ⟨b, o + q, none⟩ = some v ∧ Value.isCell v = true := fun q hq => by
    have hpos : 0 < ks.length := (elemKinds_len hks).2.1
    have hi : q / ks.length < ys.length := Nat.div_lt_of_lt_mul (by rw [Nat.mul_comm]; exact hq)
    have hj : q % ks.length < ks.length := Nat.mod_lt _ hpos
    obtain ⟨x, hx⟩ : ∃ x, ys[q / ks.length]? = some x := ⟨_, List.getElem?_eq_getElem hi⟩
    have hxl := h.1 _ x hx
    obtain ⟨v, hv, hd⟩ := h.2 _ (q % ks.length) x _ _ hx (List.getElem?_eq_getElem hj) (List.getElem?_eq_getElem (by omega))
    have hq' : q / ks.length * ks.length + q % ks.length = q := by rw [Nat.mul_comm]; exact Nat.div_add_mod q ks.length
    rw [hq'] at hv
    exact ⟨by rw [hv]; rfl, v, hv, hd.isCell⟩
  refine ⟨cellsAt w b o (ys.length * ks.length), ⟨rfl, fun n W hn hW => ?_, cellsAt_len _ _ _ _, h.1, fun i j x kk y h1 h2 h3 => ?_, fun v hv => ?_⟩⟩
  · rcases Nat.eq_zero_or_pos ys.length with h0 | h0
    · have : n = 0 := by omega
      subst this
      simp only [Nat.zero_mul, List.take_zero]
      cases A with
      | none => rfl
      | some a =>
        simp only [Builtin.firstCells, Nat.zero_mul]
        rfl
    · rw [hA h0]
      simp only [Builtin.firstCells]
      rw [← hsz]
      have hle : n * ks.length ≤ ys.length * ks.length := Nat.mul_le_mul_right _ hn
      have hcW : ∀ a, W.cell? a = w.cell? a := fun a => cell_of_heap (by rw [hW])
      rw [run_loadCells_at (fun j hj => by rw [hcW]; exact (hall j (by omega)).1)]
      congr 2
      unfold cellsAt
      rw [← List.map_take, List.take_range, Nat.min_eq_left hle]
      exact List.map_congr_left fun j _ => by rw [hcW]
  · obtain ⟨v, hv, hd⟩ := h.2 i j x kk y h1 h2 h3
    have hlt := idx_lt (List.getElem?_eq_some_iff.1 h1).1 (List.getElem?_eq_some_iff.1 h2).1
    exact ⟨v, by rw [cellsAt_some hlt, hv]; rfl, hd⟩
  · obtain ⟨q, hq⟩ := List.getElem?_of_mem hv
    have hlt := (List.getElem?_eq_some_iff.1 hq).1
    rw [cellsAt_len] at hlt
    obtain ⟨hs, v', hv', hc⟩ := hall q hlt
    have := cellsAt_get hq hs
    rw [hv'] at this; injection this with this; subst this; exact hc

theorem Src.nil {e : TypeId} {ks : List CK} {A : Option Addr} {C : Nat} : Src P w Z ks e [] (.slice A 0 C) [] :=
  ⟨rfl, fun n W hn _ => by
    have : n = 0 := by simpa using hn
    subst this
    cases A with
    | none => simp [Builtin.firstCells]
    | some a => simp only [Builtin.firstCells, Nat.zero_mul]; rfl, by simp, by simp, by simp, by simp⟩

theorem elemsOf_sound (c : Cx P K Z bl m w) {m1 : Nat → Obj} (hm : ∀ k, alive (m1 k) = true → m k = m1 k) {e : TypeId} {ks : List CK} (hks : elemKinds P e = some ks) {x : SL} {u : Value} {ys : List (List DL)} (h : elemsOf P m1 e x = some ys) (hx : LRep P w Z bl m x u) :
    ∃ us, Src P w Z ks e ys u us := by
  cases x with
  | nil =>
    simp only [elemsOf, Option.some.injEq] at h; subst h
    simp only [LRep] at hx; subst hx
    exact ⟨[], Src.nil⟩
  | vr key =>
    simp only [elemsOf] at h
    split at h
    · rename_i e' f xs hk
      split at h
      · rename_i hee
        subst hee
        injection h with h; subst h
        have hmk : m key = .vec e f xs := (hm key (by rw [hk]; rfl)).trans hk
        obtain ⟨ks', hks', hl, hb⟩ := vecAt c.mem hmk
        rw [hks] at hks'; injection hks' with hks'; subst hks'
        simp only [LRep, hmk] at hx
        rcases hb with ⟨hn, rfl⟩ | ⟨b, o, hb, hsz, hrow⟩
        · rw [hn] at hx
          obtain ⟨A, rfl, _⟩ := hx
          exact ⟨[], Src.nil⟩
        · rw [hb] at hx
          obtain ⟨A, C, rfl, hle, hA⟩ := hx.whole
          exact Src.ofRow hks hrow (fun h => hA (by omega))
      · exact absurd h (by simp)
    · exact absurd h (by simp)
  | vs key off len =>
    simp only [elemsOf] at h
    split at h
    · rename_i e' f xs hk
      split at h
      · rename_i hee
        subst hee
        injection h with h; subst h
        have hmk : m key = .vec e f xs := (hm key (by rw [hk]; rfl)).trans hk
        obtain ⟨ks', hks', hl, hb⟩ := vecAt c.mem hmk
        rw [hks] at hks'; injection hks' with hks'; subst hks'
        simp only [LRep, hmk] at hx
        rcases hb with ⟨hn, rfl⟩ | ⟨b, o, hb, hsz, hrow⟩
        · rw [hn] at hx
          obtain ⟨A, rfl, _⟩ := hx
          simp only [List.drop_nil, List.take_nil]
          exact ⟨[], Src.nil⟩
        · rw [hb] at hx
          obtain ⟨A, C, rfl, hle, hol, hn, hA, hC⟩ := hx
          have hlen : ((xs.drop off).take len).length = len := drop_take_len hol
          have := Src.ofRow (C := C) hks (row_drop (off := off) (len := len) hrow) (A := A) (fun h => by rw [hlen] at h; rw [hA (by omega), szOf_eq hks])
          rwa [hlen] at this
      · exact absurd h (by simp)
    · exact absurd h (by simp)
  | asl key off len =>
    simp only [elemsOf] at h
    split at h
    · rename_i bt cs q hk hq
      split at h
      · rename_i hol
        obtain ⟨ds, hds, h⟩ := Option.bind_eq_some_iff.1 h
        cases hall : ds.all q.fits with
        | false => rw [hall] at h; exact absurd h (by simp)
        | true =>
          rw [hall] at h
          simp only [cond_true, Option.some.injEq] at h; subst h
          rw [hks] at hq; injection hq with hq; subst hq
          have hmk : m key = .box bt cs := (hm key (by rw [hk]; rfl)).trans hk
          obtain ⟨b, o, hb, hsz, hc⟩ := boxAt c.mem hmk
          obtain ⟨b', o', hb', A, C, rfl, hle, hA⟩ := hx
          rw [hb] at hb'; injection hb' with hb'; injection hb' with e1 e2; subst e1; subst e2
          have hdat : ∀ (l : List SL) (ds : List DL), dataL l = some ds → l = ds.map .d := by
            intro l
            induction l with
            | nil => intro ds h; simp [dataL] at h; subst h; rfl
            | cons x r ih =>
              intro ds h
              cases x with
              | d x =>
                simp only [dataL, Option.map_eq_some_iff] at h
                obtain ⟨ds', h1, rfl⟩ := h
                rw [ih ds' h1]; rfl
              | _ => simp [dataL] at h
          have hd := hdat _ _ hds
          have hdl : ds.length = len := by
            have := congrArg List.length hd
            rw [drop_take_len hol, List.length_map] at this; exact this.symm
          have hrow : RowAt P w Z [q] (ds.map fun x => [x]) b (o + off) := by
            refine ⟨fun i x hx => ?_, fun i j x kk y hx hkk hy => ?_⟩
            · rw [List.getElem?_map] at hx
              obtain ⟨z, _, rfl⟩ := Option.map_eq_some_iff.1 hx
              rfl
            · rw [List.getElem?_map] at hx
              obtain ⟨z, hz, rfl⟩ := Option.map_eq_some_iff.1 hx
              have hj0 : j = 0 := by have := (List.getElem?_eq_some_iff.1 hkk).1; simp at this; omega
              subst hj0
              simp only [List.getElem?_cons_zero, Option.some.injEq] at hkk hy
              subst hkk; subst hy
              have h1 : ((cs.drop off).take len)[i]? = some (.d z) := by rw [hd, List.getElem?_map, hz]; rfl
              obtain ⟨h2, _⟩ := drop_take_get h1
              obtain ⟨v, hv, k', hr⟩ := hc _ _ h2
              refine ⟨v, ?_, ?_⟩
              · simp only [List.length_singleton, Nat.mul_one, Nat.add_zero]
                rw [show o + off + i = o + (off + i) by omega]; exact hv
              · rw [hr.kind (List.all_eq_true.1 hall z (List.mem_of_getElem? hz))]; exact hr
          have := Src.ofRow (C := C) (A := A) hks hrow (fun h => by
            rw [List.length_map, hdl] at h
            exact hA (by omega))
          rw [List.length_map, hdl] at this
          exact this
      · exact absurd h (by simp)
    · exact absurd h (by simp)
  | d z =>
    cases z with
    | lst e' xs =>
      simp only [elemsOf] at h
      split at h
      · rename_i hee
        subst hee
        injection h with h; subst h
        obtain ⟨kk, hd⟩ := hx
        have hd' := hd
        cases hd with
        | nil => exact ⟨[], Src.nil⟩
        | lst _ ks' _ b off cap cell hk hc hl hm' hr =>
          rw [hks] at hk; injection hk with hk; subst hk
          exact Src.ofRow hks ⟨hl, fun i j x kk y e1 e2 e3 => ⟨_, (hm' i j (List.getElem?_eq_some_iff.1 e1).1 (List.getElem?_eq_some_iff.1 e2).1).1, hr i j x kk y e1 e2 e3⟩⟩ (fun _ => rfl)
      · exact absurd h (by simp)
    | str s =>
      simp only [elemsOf] at h
      split at h
      · rename_i hk
        rw [hks] at hk; injection hk with hk; subst hk
        injection h with h; subst h
        obtain rfl := hx.str
        refine ⟨s.data.toList.map fun b => .int .u8 (b.toNat : Int), ⟨?_, fun n W hn _ => ?_, by simp, fun i x hx => ?_, fun i j x kk y hx hkk hy => ?_, fun v hv => ?_⟩⟩
        · simp [Builtin.lenOf]
        · simp only [Builtin.firstCells, Sem.run_pure, List.length_singleton, Nat.mul_one]
          congr 1
          apply Array.ext'
          simp only [Array.toList_map, ByteArray.data_extract, Array.toList_extract, List.extract_eq_take_drop, Nat.sub_zero, List.drop_zero]
          rw [List.map_take]
        · rw [List.getElem?_map] at hx
          obtain ⟨z, _, rfl⟩ := Option.map_eq_some_iff.1 hx
          rfl
        · rw [List.getElem?_map] at hx
          obtain ⟨z, hz, rfl⟩ := Option.map_eq_some_iff.1 hx
          have hj0 : j = 0 := by have := (List.getElem?_eq_some_iff.1 hkk).1; simp at this; omega
          subst hj0
          simp only [List.getElem?_cons_zero, Option.some.injEq] at hkk hy
          subst hkk; subst hy
          refine ⟨_, ?_, .int _ _⟩
          simp only [List.length_singleton, Nat.mul_one, Nat.add_zero, List.getElem?_map, hz, Option.map_some]
        · obtain ⟨z, _, rfl⟩ := List.mem_map.1 hv
          rfl
      · exact absurd h (by simp)
    | _ => simp [elemsOf] at h
  | _ => simp [elemsOf] at h

end
end Go.Ev

namespace Go.Ev
open Go Go.RowKit

section
variable {P : Program} {K : Nat → Prop} {w : World} {Z : Addr → Prop} {bl : Bl} {m : Nat → Obj}

/-- An object is forgotten. -/
theorem Tr.kill (c : Cx P K Z bl m w) (k : Nat) : Tr P K K Z bl m w Z bl (upd m k .no) w := by
  have hmk : ∀ j, j ≠ k → upd m k .no j = m j := fun j hj => upd_ne m _ hj
  have hmm : upd m k .no k = .no := upd_at m k _
  have halv : ∀ j, alive (upd m k .no j) = true → j ≠ k ∧ alive (m j) = true := fun j hj => by
    by_cases hjk : j = k
    · subst hjk; rw [hmm] at hj; exact absurd hj (by simp [alive])
    · rw [hmk j hjk] at hj; exact ⟨hjk, hj⟩
  have cmp : ∀ j, K j → Compat (m j) (upd m k .no j) := fun j _ => by
    by_cases hj : j = k
    · subst hj; rw [hmm]; exact .no _
    · rw [hmk j hj]; exact .refl _
  refine ⟨⟨fun j => ?_, fun j j' b o o' h1 h2 => c.mem.inj j j' b o o' (halv j h1).2 (halv j' h2).2, fun j b o h1 hb q hq => ?_, c.mem.zlt, fun j b o h1 => c.mem.blk j b o (halv j h1).2⟩, fun _ h => h, cmp,
    fun j hj hd => ?_, fun _ _ => rfl, fun _ h => h, fun _ _ => rfl, fun _ => Nat.le_refl _, rfl, rfl, rfl, Nat.le_refl _, fun _ _ _ => rfl, fun _ h => .inl h, fun j b o h1 hb => ?_, fun j h1 => .inl ⟨c.kn.al j (halv j h1).2, (halv j h1).2⟩, fun j x hx => ?_⟩
  · by_cases hj : j = k
    · subst hj; rw [hmm]; trivial
    · rw [hmk j hj]
      exact ObjRep.tr (K := K) cmp (fun _ _ => rfl) (fun _ h => h) (fun _ _ => rfl) (fun _ => Nat.le_refl _) rfl (c.kn.ck j) (fun b o _ q v hv => hv) (c.mem.obj j)
  · rw [hmk j (halv j h1).1]; exact c.mem.sep j b o (halv j h1).2 hb q hq
  · by_cases hjk : j = k
    · subst hjk; rw [hmm]; rfl
    · rw [hmk j hjk]; exact hd
  · exact .inl ⟨j, o, (halv j h1).2, hb, fun hv => by rw [hmk j (halv j h1).1] at hv; exact hv⟩
  · by_cases hj : j = k
    · subst hj; rw [hmm] at hx; simp [objKeys] at hx
    · rw [hmk j hj] at hx; exact c.kn.ck j x hx

theorem rowOk_some {e : TypeId} (h : rowOk P e = true) : ∃ i z, P.info? e = some i ∧ i.zero = some z ∧ z.cells.size = i.size ∧ 0 < i.bytes := by
  unfold rowOk at h
  split at h
  · rename_i i hi
    simp only [Bool.and_eq_true, decide_eq_true_eq] at h
    obtain ⟨h1, h2⟩ := h
    split at h1
    · rename_i z hz; exact ⟨i, z, hi, hz, of_decide_eq_true h1, h2⟩
    · exact absurd h1 (by simp)
  · exact absurd h (by simp)

theorem roomE_some {e : TypeId} {n : Nat} (h : roomE P e n = true) : rowOk P e = true ∧ n * P.bytesOf e ≤ 140737488355328 := by
  unfold roomE at h
  simpa using h

theorem zeroCells_size (z : Array Value) (n : Nat) : (Builtin.zeroCells z n).size = n * z.size := by simp [Builtin.zeroCells]

/-- Which arguments append is given. -/
def AppTys (P : Program) (t t' e : TypeId) : Prop := P.underlying t = some (.slice e) ∧ ((∃ e', P.underlying t' = some (.slice e')) ∨ P.underlying t' = some .string)

/-- append within the capacity. -/
theorem append_fits {t t' ty e : TypeId} (ht : AppTys P t t' e) (he : ∃ i, P.info? e = some i) {A : Option Addr} {n C nx : Nat} {u : Value} {new : Array Value} (hl : (Builtin.lenOf u).run P w = .ok nx w) (hf : (Builtin.firstCells (P.cellsOf e) nx u).run P w = .ok new w)
    (hc : n + nx ≤ C) {w' : World} (hs : (match A with | some a => storeCells (a.add (n * P.cellsOf e)) new.toList | none => pure ()).run P w = .ok () w') :
    (Builtin.append_ #[t, t'] ty #[.slice A n C, u]).run P w = .ok (.slice A (n + nx) C) w' := by
  obtain ⟨i, hi⟩ := he
  obtain ⟨hu, hu'⟩ := ht
  unfold Builtin.append_
  cases A with
  | none =>
    simp only [Sem.run_pure, Result.ok.injEq, true_and] at hs
    subst hs
    rcases hu' with ⟨e', hu'⟩ | hu' <;> simp [run_under hu, run_under hu', run_sizeOf hi, hl, hf, hc]
  | some a =>
    simp only at hs
    rcases hu' with ⟨e', hu'⟩ | hu' <;> simp [run_under hu, run_under hu', run_sizeOf hi, hl, hf, hc, hs]

/-- append that must grow. -/
theorem append_grows {t t' ty e : TypeId} (ht : AppTys P t t' e) (hrow : rowOk P e = true) {A : Option Addr} {n C nx : Nat} {u : Value} {new old : Array Value} (hl : (Builtin.lenOf u).run P w = .ok nx w) (hf : (Builtin.firstCells (P.cellsOf e) nx u).run P w.drew = .ok new w.drew)
    (ho : (Builtin.firstCells (P.cellsOf e) n (.slice A n C)).run P w.drew = .ok old w.drew)
    (hc : C < n + nx) (hroom : (n + nx) * P.bytesOf e ≤ 140737488355328) :
    ∃ C' zs, n + nx ≤ C' ∧ zs.size = (C' - (n + nx)) * P.cellsOf e ∧ (Builtin.append_ #[t, t'] ty #[.slice A n C, u]).run P w =
      .ok (.slice (some ⟨w.heap.size, 0, none⟩) (n + nx) C') (w.drew.alloc (.cells (old ++ new ++ zs) e)) := by
  obtain ⟨i, z, hi, hz, hzs, hb⟩ := rowOk_some hrow
  obtain ⟨hu, hu'⟩ := ht
  have hbytes : P.bytesOf e = i.bytes := by simp [Program.bytesOf, hi]
  have hcells : P.cellsOf e = i.size := by simp [Program.cellsOf, hi]
  have hfit : Builtin.nextslicecap (n + nx) C * i.bytes ≤ 281474976710656 := growslice_fits hc (by rw [← hbytes]; exact hroom)
  have hnb : i.bytes ≠ 0 := by omega
  refine ⟨(Question.appendCap (n + nx) C e).cut (w.tape w.drawn (.appendCap (n + nx) C e)), Builtin.zeroCells z.cells ((Question.appendCap (n + nx) C e).cut (w.tape w.drawn (.appendCap (n + nx) C e)) - (n + nx)), by simp [Question.cut], by rw [zeroCells_size, hzs, hcells], ?_⟩
  have hforced : (Question.appendCap (n + nx) C e).forced = false := rfl
  rcases hu' with ⟨e', hu'⟩ | hu' <;>
  · unfold Builtin.append_
    simp [run_under hu, run_under hu', run_sizeOf hi, hl, Nat.not_le.2 hc, typeInfo, hi, hnb, Nat.not_lt.2 hfit, zeroValue, hz, hforced, ho, hf, newRow]

theorem upd_comm {α : Type} (f : Nat → α) {i j : Nat} (x y : α) (h : i ≠ j) : upd (upd f i x) j y = upd (upd f j y) i x := by
  funext k
  by_cases h1 : k = i
  · subst h1; rw [upd_at, upd_ne _ _ h, upd_at]
  · by_cases h2 : k = j
    · subst h2; rw [upd_at, upd_ne _ _ h1, upd_at]
    · rw [upd_ne _ _ h2, upd_ne _ _ h1, upd_ne _ _ h1, upd_ne _ _ h2]

theorem Src.none_or {ks : List CK} {e : TypeId} {ys : List (List DL)} {u : Value} {us : List Value} (h : Src P w Z ks e ys u us) (h0 : ys.length = 0) : us = [] := by
  have := h.ul; rw [h0, Nat.zero_mul] at this; exact List.eq_nil_of_length_eq_zero this

/-- A new row of what was appended to what. -/
theorem newRow_append (c : Cx P K Z bl m w) {key : Nat} (hk : ¬ K key) {fz : Bool} {e : TypeId} {ks : List CK} (he : elemKinds P e = some ks) {xs ys : List (List DL)} {ux uy : Value} {us vs : List Value} (hx : Src P w Z ks e xs ux us) (hy : Src P w Z ks e ys uy vs)
    {C : Nat} {zs : Array Value} (hC : xs.length + ys.length ≤ C) (hz : zs.size = (C - (xs.length + ys.length)) * P.cellsOf e) :
    ∃ bl', Tr P K (fun j => K j ∨ j = key) Z bl m w Z bl' (upd m key (.vec e fz (xs ++ ys))) (w.drew.alloc (.cells (us.toArray ++ vs.toArray ++ zs) e)) ∧
      LRep P (w.drew.alloc (.cells (us.toArray ++ vs.toArray ++ zs) e)) Z bl' (upd m key (.vec e fz (xs ++ ys))) (.vr key) (.slice (some ⟨w.heap.size, 0, none⟩) (xs.length + ys.length) C) := by
  have T0 := Tr.draw c.mem c.kn w.drew rfl rfl rfl rfl
  have hsz := (elemKinds_len he).1
  have zc : ∀ a, Z a → w.drew.cell? a = w.cell? a := fun _ _ => rfl
  have hul := hx.ul
  have hvl := hy.ul
  obtain ⟨bl', T, hr⟩ := newVec (w := w.drew) T0.toCx hk (fz := fz) (e' := e) he (xs := xs ++ ys) (cs := us.toArray ++ vs.toArray ++ zs) (0, 0) (fun q _ h => by omega)
    (fun i x h => by
      rcases Nat.lt_or_ge i xs.length with hi | hi
      · rw [List.getElem?_append_left hi] at h; exact hx.el i x h
      · rw [List.getElem?_append_right hi] at h; exact hy.el _ x h) (C := C)
    (by simp only [Array.size_append, List.size_toArray, hz, hul, hvl, ← hsz]
        rw [← Nat.add_mul, ← Nat.add_mul, show xs.length + ys.length + (C - (xs.length + ys.length)) = C by omega]; exact Nat.le_refl _)
    (by rw [List.length_append]; exact hC)
    (fun i j x kk y h1 h2 h3 => by
      have hj := (List.getElem?_eq_some_iff.1 h2).1
      rcases Nat.lt_or_ge i xs.length with hi | hi
      · rw [List.getElem?_append_left hi] at h1
        obtain ⟨v, hv, hd⟩ := hx.rep i j x kk y h1 h2 h3
        have hlt := idx_lt hi hj
        refine ⟨v, ?_, hd.mono zc fun _ h => h⟩
        rw [Array.getElem?_append_left (by simp; omega), Array.getElem?_append_left (by simp; omega)]
        simpa using hv
      · rw [List.getElem?_append_right hi] at h1
        have hil := (List.getElem?_eq_some_iff.1 h1).1
        obtain ⟨v, hv, hd⟩ := hy.rep (i - xs.length) j x kk y h1 h2 h3
        have hlt := idx_lt hil hj
        have hm : i * ks.length = xs.length * ks.length + (i - xs.length) * ks.length := by rw [← Nat.add_mul]; congr 1; omega
        refine ⟨v, ?_, hd.mono zc fun _ h => h⟩
        rw [Array.getElem?_append_left (by simp; omega), Array.getElem?_append_right (by simp; omega)]
        simp only [List.size_toArray]
        rw [show i * ks.length + j - us.length = (i - xs.length) * ks.length + j by omega]
        simpa using hv)
  rw [List.length_append] at hr
  exact ⟨bl', T0.trans T, hr⟩

theorem appendE_sound (c : Cx P K Z bl m w) {m1 : Nat → Obj} (hm : ∀ k, alive (m1 k) = true → m k = m1 k) {key : Nat} (hk : ¬ K key) {t t' ty e : TypeId} (ht : AppTys P t t' e) {s x : SL} {su xu : Value} {v : SV} {ws : List (Nat × Obj)}
    (h : appendE P m1 key e s x = some (true, v, ws)) (hs : LRep P w Z bl m s su) (hsk : ∀ k ∈ allKeysL s, K k) (hx : LRep P w Z bl m x xu) :
    OkV P K (fun j => K j ∨ j = key) Z bl m w (Builtin.append_ #[t, t'] ty #[su, xu]) v ws := by
  unfold appendE at h
  obtain ⟨ks, hks, h⟩ := Option.bind_eq_some_iff.1 h
  obtain ⟨ys, hys, h⟩ := Option.bind_eq_some_iff.1 h
  obtain ⟨vs, hy⟩ := elemsOf_sound c hm hks hys hx
  have hinfo : ∃ i, P.info? e = some i := by obtain ⟨d, hd⟩ := elemKinds_under hks; exact info_of_under hd
  have hcs := (elemKinds_len hks).1
  have hyc := fun W hW => hy.cells ys.length W (Nat.le_refl _) hW
  rw [show vs.take (ys.length * ks.length) = vs by rw [← hy.ul, List.take_length]] at hyc
  have one : ∀ {u : Value} {w' : World} {Z' : Addr → Prop} {bl' : Bl} {m' : Nat → Obj}, LRep P w' Z' bl' m' (.vr key) u → SVRep P w' Z' bl' m' (.one (.vr key)) u := fun h => h
  cases s with
  | nil =>
    simp only [Option.some.injEq, Prod.mk.injEq] at h
    obtain ⟨hroom, rfl, rfl⟩ := h
    obtain ⟨hrow, hbnd⟩ := roomE_some hroom
    simp only [LRep] at hs; subst hs
    rcases Nat.eq_zero_or_pos ys.length with h0 | h0
    · obtain rfl := List.eq_nil_of_length_eq_zero h0
      have := hy.none_or rfl; subst this
      refine ⟨_, w, Z, _, append_fits ht hinfo hy.len (hyc w rfl) (Nat.le_refl _) (by simp), Tr.nilVec c.mem c.kn hk e false ks hks, one ?_, fun k hk' => by simp [keysSV, SV.leaves, allKeysL] at hk'; exact .inr hk'⟩
      show LRep P w Z _ _ (.vr key) _
      simp only [LRep, writeAll, upd_at]
      exact ⟨none, rfl, rfl, rfl⟩
    · obtain ⟨C', zs, h1, h2, hrun⟩ := append_grows (w := w) (n := 0) (C := 0) (A := none) (ty := ty) (old := #[]) ht hrow hy.len (hyc w.drew rfl) (by simp [Builtin.firstCells]) (by omega) (by rw [Nat.zero_add]; exact hbnd)
      have hsrc : Src P w Z ks e [] (.slice none 0 0) [] := Src.nil
      obtain ⟨bl', T, hr⟩ := newRow_append c hk (fz := false) hks hsrc hy (C := C') (zs := zs) (by simpa using h1) (by simpa using h2)
      exact ⟨_, _, Z, bl', hrun, T, one hr, fun k hk' => by simp [keysSV, SV.leaves, allKeysL] at hk'; exact .inr hk'⟩
  | vr k =>
    simp only at h
    split at h
    · rename_i e' fz xs hkk
      split at h
      · rename_i hee
        subst hee
        simp only [Option.some.injEq, Prod.mk.injEq] at h
        obtain ⟨hroom, rfl, rfl⟩ := h
        obtain ⟨hrow, hbnd⟩ := roomE_some hroom
        have hmk : m k = .vec e fz xs := (hm k (by rw [hkk]; rfl)).trans hkk
        have hKk : K k := hsk k (by simp [allKeysL])
        have hne : k ≠ key := fun e => hk (e ▸ hKk)
        have hs0 := hs
        obtain ⟨us, hxs⟩ := elemsOf_sound c hm hks (x := .vr k) (ys := xs) (by simp [elemsOf, hkk]) hs
        have hxc := fun W hW => hxs.cells xs.length W (Nat.le_refl _) hW
        rw [show us.take (xs.length * ks.length) = us by rw [← hxs.ul, List.take_length]] at hxc
        have keyk : ∀ k' ∈ keysSV (.one (.vr key)), K k' ∨ k' = key := fun k' hk' => by simp [keysSV, SV.leaves, allKeysL] at hk'; exact .inr hk'
        have grow : ∀ {A : Option Addr} {C : Nat}, su = .slice A xs.length C → C < xs.length + ys.length → OkV P K (fun j => K j ∨ j = key) Z bl m w (Builtin.append_ #[t, t'] ty #[su, xu]) (.one (.vr key)) [(k, .no), (key, .vec e fz (xs ++ ys))] := by
          intro A C hsu hC
          subst hsu
          obtain ⟨C', zs, h1, h2, hrun⟩ := append_grows (w := w) (ty := ty) ht hrow hy.len (hyc w.drew rfl) (hxc w.drew rfl) hC hbnd
          obtain ⟨bl', T, hr⟩ := newRow_append c hk (fz := fz) hks hxs hy (C := C') (zs := zs) h1 h2
          have T2 := Tr.kill T.toCx k
          refine ⟨_, _, Z, bl', hrun, ?_, ?_, keyk⟩
          · show Tr P K _ Z bl m w Z bl' (upd (upd m k .no) key _) _
            rw [upd_comm _ _ _ hne]; exact T.trans T2
          · show SVRep P _ Z bl' (upd (upd m k .no) key _) _ _
            rw [upd_comm _ _ _ hne]
            have := hr
            simp only [LRep, upd_at] at this
            show LRep P _ Z bl' _ (.vr key) _
            simp only [LRep]
            rw [upd_ne _ _ (Ne.symm hne), upd_at]; exact this
        simp only [LRep, hmk] at hs
        cases hbl : bl k with
        | none =>
          rw [hbl] at hs
          obtain ⟨A, hsu, hl0, _⟩ := hs
          rcases Nat.eq_zero_or_pos ys.length with h0 | h0
          · obtain rfl := List.eq_nil_of_length_eq_zero hl0
            obtain rfl := List.eq_nil_of_length_eq_zero h0
            have := hy.none_or rfl; subst this
            subst hsu
            have T := Tr.move c.mem c.kn hk hmk ([] ++ []) (by simp) (by
              refine ⟨ks, hks, by simp, ?_⟩
              rw [upd_at, hbl]; rfl)
            refine ⟨_, w, Z, _, append_fits ht hinfo hy.len (hyc w rfl) (Nat.le_refl _) (by cases A <;> simp [storeCells]), T, ?_, keyk⟩
            show LRep P w Z _ _ (.vr key) _
            simp only [LRep, writeAll, upd_at, hbl]
            exact ⟨A, by simp, rfl, rfl⟩
          · exact grow (A := A) (C := 0) (by rw [hsu, hl0]) (by omega)
        | some p =>
          obtain ⟨b, o⟩ := p
          rw [hbl] at hs
          obtain ⟨A, C, hsu, hle, _, hn, hA, hC⟩ := hs
          rcases Nat.lt_or_ge C (xs.length + ys.length) with hlt | hge
          · exact grow hsu hlt
          · subst hsu
            obtain ⟨ks', hks', hl, hv⟩ := vecAt c.mem hmk
            rw [hks] at hks'; injection hks' with hks'; subst hks'
            rcases hv with ⟨hn', _⟩ | ⟨b', o', hb', hsz, hrowat⟩
            · rw [hbl] at hn'; exact absurd hn' (by simp)
            rw [hbl] at hb'; injection hb' with hb'; injection hb' with e1 e2; subst e1; subst e2
            have hbo := c.mem.blk k b o (by rw [hmk]; rfl) hbl
            rw [szOf_eq hks] at hC hA
            have hmul : (xs.length + ys.length) * ks.length ≤ C * ks.length := Nat.mul_le_mul_right _ hge
            rw [Nat.add_mul] at hmul
            rw [Nat.zero_add] at hC
            have hvl := hy.ul
            have T1 := writeVec c (f := fz) hks hmk (xs' := xs) rfl hl hbl (off := xs.length * ks.length) (us := vs) (by omega) (fun _ => Nat.le_refl _) (fun i j x kk y h1 h2 h3 => by
              right
              have := idx_lt (List.getElem?_eq_some_iff.1 h1).1 (List.getElem?_eq_some_iff.1 h2).1
              exact ⟨.inl this, x, h1, h3⟩)
            have hmm : upd m k (.vec e fz xs) = m := upd_same _ _ _ hmk
            rw [hmm] at T1
            have T2 := Tr.move T1.mem T1.known hk hmk (xs ++ ys) (by simp) (by
              refine ⟨ks, hks, fun i x h => ?_, ?_⟩
              · rcases Nat.lt_or_ge i xs.length with hi | hi
                · rw [List.getElem?_append_left hi] at h; exact hl i x h
                · rw [List.getElem?_append_right hi] at h; exact hy.el _ x h
              · rw [upd_at, hbl]
                refine ⟨by rw [List.length_append, setCells_bs, Nat.add_mul]; omega, fun i j x kk y h1 h2 h3 => ?_⟩
                have hj := (List.getElem?_eq_some_iff.1 h2).1
                rcases Nat.lt_or_ge i xs.length with hi | hi
                · rw [List.getElem?_append_left hi] at h1
                  obtain ⟨v, hv, hd⟩ := hrowat.2 i j x kk y h1 h2 h3
                  have := idx_lt hi hj
                  exact ⟨v, by rw [setCells_out _ _ _ _ _ (by omega)]; exact hv, hd.mono T1.zc fun _ h => h⟩
                · rw [List.getElem?_append_right hi] at h1
                  have hil := (List.getElem?_eq_some_iff.1 h1).1
                  obtain ⟨v, hv, hd⟩ := hy.rep (i - xs.length) j x kk y h1 h2 h3
                  have hlt := idx_lt hil hj
                  have hm2 : i * ks.length = xs.length * ks.length + (i - xs.length) * ks.length := by rw [← Nat.add_mul]; congr 1; omega
                  refine ⟨v, setCells_in (fun q hq => cell_some_of_lt hbo (by omega)) (by omega) ?_, hd.mono T1.zc fun _ h => h⟩
                  rw [show o + (i * ks.length + j) - (o + xs.length * ks.length) = (i - xs.length) * ks.length + j by omega]; exact hv)
            refine ⟨_, _, Z, _, append_fits ht hinfo hy.len (hyc w rfl) hge (w' := w.setCells b (o + xs.length * ks.length) vs) ?_, T1.trans T2, ?_, keyk⟩
            · rcases Nat.eq_zero_or_pos C with hC0 | hC0
              · have : ys.length = 0 := by omega
                have hvs := hy.none_or this
                subst hvs
                cases A with
                | none => rfl
                | some a => rfl
              · rw [hA hC0]
                simp only [Nat.zero_mul, Nat.add_zero]
                rw [addr_add, ← hcs]
                exact (by simpa using run_storeCells (P := P) (n := 0) (o := o + xs.length * ks.length) hbo (by omega) hy.cell)
            · show LRep P _ Z _ _ (.vr key) _
              simp only [LRep, writeAll, upd_at, hbl]
              refine ⟨A, C, by rw [List.length_append], by rw [List.length_append]; omega, by omega, by rw [List.length_append]; omega, fun h => by rw [szOf_eq hks]; exact hA h, ?_⟩
              rw [setCells_bs, szOf_eq hks, Nat.zero_add]; exact hC
      · exact absurd h (by simp)
    · exact absurd h (by simp)
  | vs k off len =>
    simp only at h
    split at h
    · rename_i e' xs hkk
      split at h
      · rename_i hee
        subst hee
        simp only [Option.some.injEq, Prod.mk.injEq, decide_eq_true_eq] at h
        obtain ⟨hfit, rfl, rfl⟩ := h
        have hmk : m k = .vec e false xs := (hm k (by rw [hkk]; rfl)).trans hkk
        have hKk : K k := hsk k (by simp [allKeysL])
        have keyk : ∀ k' ∈ keysSV (.one (.vs k off (len + ys.length))), K k' ∨ k' = key := fun k' hk' => by simp [keysSV, SV.leaves, allKeysL] at hk'; exact .inl (hk' ▸ hKk)
        simp only [LRep, hmk] at hs
        have hlen' : (xs.take (off + len) ++ ys ++ xs.drop (off + len + ys.length)).length = xs.length := by
          simp only [List.length_append, List.length_take, List.length_drop]; omega
        cases hbl : bl k with
        | none =>
          rw [hbl] at hs
          obtain ⟨A, hsu, hl0, ho0⟩ := hs
          obtain ⟨ks', hks', hl, hv⟩ := vecAt c.mem hmk
          rcases hv with ⟨_, hxs⟩ | ⟨b', o', hb', _⟩
          · subst hxs
            have h0 : ys.length = 0 := by simp only [List.length_nil] at hfit; omega
            obtain rfl := List.eq_nil_of_length_eq_zero h0
            have := hy.none_or rfl; subst this
            subst hsu
            refine ⟨_, w, Z, bl, append_fits ht hinfo hy.len (hyc w rfl) (by omega) (by cases A <;> simp [storeCells]), ?_, ?_, keyk⟩
            · show Tr P K _ Z bl m w Z bl (upd m k _) w
              rw [upd_same _ _ _ (by rw [hmk]; simp)]
              exact c.refl fun _ h => .inl h
            · show LRep P w Z _ (upd m k _) (.vs k off _) _
              rw [upd_same _ _ _ (by rw [hmk]; simp)]
              simp only [LRep, hmk, hbl]
              exact ⟨A, by simp, by simp [hl0], ho0⟩
          · rw [hbl] at hb'; exact absurd hb' (by simp)
        | some p =>
          obtain ⟨b, o⟩ := p
          rw [hbl] at hs
          obtain ⟨A, C, hsu, hle, hol, hn, hA, hC⟩ := hs
          subst hsu
          obtain ⟨ks', hks', hl, hv⟩ := vecAt c.mem hmk
          rw [hks] at hks'; injection hks' with hks'; subst hks'
          rcases hv with ⟨hn', _⟩ | ⟨b', o', hb', hsz, hrowat⟩
          · rw [hbl] at hn'; exact absurd hn' (by simp)
          rw [hbl] at hb'; injection hb' with hb'; injection hb' with e1 e2; subst e1; subst e2
          have hbo := c.mem.blk k b o (by rw [hmk]; rfl) hbl
          rw [szOf_eq hks] at hC hA
          have hvl := hy.ul
          have hmul : (off + len + ys.length) * ks.length ≤ xs.length * ks.length := Nat.mul_le_mul_right _ hfit
          rw [Nat.add_mul] at hmul
          have hget : ∀ (i : Nat) x, (xs.take (off + len) ++ ys ++ xs.drop (off + len + ys.length))[i]? = some x →
              (off + len ≤ i ∧ i < off + len + ys.length ∧ ys[i - (off + len)]? = some x) ∨ ((i < off + len ∨ off + len + ys.length ≤ i) ∧ xs[i]? = some x) := by
            intro i x hx
            have htl : (xs.take (off + len)).length = off + len := by rw [List.length_take]; omega
            rw [List.append_assoc] at hx
            rcases Nat.lt_or_ge i (off + len) with h1 | h1
            · rw [List.getElem?_append_left (by omega), List.getElem?_take_of_lt h1] at hx
              exact .inr ⟨.inl h1, hx⟩
            · rw [List.getElem?_append_right (by omega), htl] at hx
              rcases Nat.lt_or_ge (i - (off + len)) ys.length with h2 | h2
              · rw [List.getElem?_append_left h2] at hx
                exact .inl ⟨h1, by omega, hx⟩
              · rw [List.getElem?_append_right h2, List.getElem?_drop, show off + len + ys.length + (i - (off + len) - ys.length) = i by omega] at hx
                exact .inr ⟨.inr (by omega), hx⟩
          have T1 := writeVec c (f := false) hks hmk (xs' := xs.take (off + len) ++ ys ++ xs.drop (off + len + ys.length)) hlen' (fun i x hx => by
              rcases hget i x hx with ⟨_, _, h⟩ | ⟨_, h⟩
              · exact hy.el _ x h
              · exact hl i x h) hbl (off := (off + len) * ks.length) (us := vs) (by omega) (fun h => absurd h (by simp)) (fun i j x kk y h1 h2 h3 => by
            have hj := (List.getElem?_eq_some_iff.1 h2).1
            rcases hget i x h1 with ⟨a1, a2, a3⟩ | ⟨a1, a2⟩
            · left
              have hil := (List.getElem?_eq_some_iff.1 a3).1
              obtain ⟨v, hv, hd⟩ := hy.rep _ j x kk y a3 h2 h3
              have hlt := idx_lt hil hj
              have hm2 : i * ks.length = (off + len) * ks.length + (i - (off + len)) * ks.length := by rw [← Nat.add_mul]; congr 1; omega
              exact ⟨by omega, by omega, v, by rw [show i * ks.length + j - (off + len) * ks.length = (i - (off + len)) * ks.length + j by omega]; exact hv, hd⟩
            · right
              refine ⟨?_, x, a2, h3⟩
              rcases a1 with a1 | a1
              · left; exact idx_lt a1 hj
              · right
                have : (off + len + ys.length) * ks.length ≤ i * ks.length := Nat.mul_le_mul_right _ a1
                rw [Nat.add_mul] at this; omega)
          refine ⟨_, _, Z, _, append_fits ht hinfo hy.len (hyc w rfl) (by omega) (w' := w.setCells b (o + (off + len) * ks.length) vs) ?_, T1.kmono fun _ h => .inl h, ?_, keyk⟩
          · rcases Nat.eq_zero_or_pos C with hC0 | hC0
            · have : ys.length = 0 := by omega
              have hvs := hy.none_or this
              subst hvs
              cases A with
              | none => rfl
              | some a => rfl
            · rw [hA hC0]
              simp only
              rw [addr_add, ← hcs, show o + off * ks.length + len * ks.length = o + (off + len) * ks.length by rw [Nat.add_mul]; omega]
              exact (by simpa using run_storeCells (P := P) (n := 0) (o := o + (off + len) * ks.length) hbo (by omega) hy.cell)
          · show LRep P _ Z _ _ (.vs k off _) _
            simp only [LRep, writeAll, upd_at, hbl]
            refine ⟨A, C, rfl, by omega, by rw [hlen']; omega, by rw [hlen']; omega, fun h => by rw [szOf_eq hks]; exact hA h, ?_⟩
            rw [setCells_bs, szOf_eq hks]; exact hC
      · exact absurd h (by simp)
    · exact absurd h (by simp)
  | _ => exact absurd h (by simp)

end
end Go.Ev

namespace Go.Ev
open Go Go.RowKit

section
variable {P : Program} {K : Nat → Prop} {w : World} {Z : Addr → Prop} {bl : Bl} {m : Nat → Obj}

theorem copy_run {t t' ty e : TypeId} (ht : P.underlying t = some (.slice e)) (he : ∃ i, P.info? e = some i) {A : Option Addr} {dl C nx : Nat} {u : Value} {cells : Array Value} (hl : (Builtin.lenOf u).run P w = .ok nx w) (hf : (Builtin.firstCells (P.cellsOf e) (min nx dl) u).run P w = .ok cells w)
    {w' : World} (hs : (match A with | some a => storeCells a cells.toList | none => pure ()).run P w = .ok () w') :
    (Builtin.copy_ #[t, t'] ty #[.slice A dl C, u]).run P w = .ok (goInt (min nx dl : Nat)) w' := by
  obtain ⟨i, hi⟩ := he
  unfold Builtin.copy_
  have hmin : ∀ a b : Nat, Nat.min a b = min a b := fun _ _ => rfl
  cases A with
  | none =>
    simp only [Sem.run_pure, Result.ok.injEq, true_and] at hs
    subst hs
    simp [run_under ht, run_sizeOf hi, hl, hmin, hf]
  | some a =>
    simp only at hs
    simp [run_under ht, run_sizeOf hi, hl, hmin, hf, hs]

/-- Part of a list is replaced. -/
theorem patch_get {α : Type} {xs ys : List α} {o n : Nat} (ho : o + n ≤ xs.length) (hn : n ≤ ys.length) {i : Nat} {x : α} (hx : (xs.take o ++ ys.take n ++ xs.drop (o + n))[i]? = some x) :
    (o ≤ i ∧ i < o + n ∧ ys[i - o]? = some x) ∨ ((i < o ∨ o + n ≤ i) ∧ xs[i]? = some x) := by
  have h1 : (xs.take o).length = o := by rw [List.length_take]; omega
  have h2 : (ys.take n).length = n := by rw [List.length_take]; omega
  rw [List.append_assoc] at hx
  rcases Nat.lt_or_ge i o with h | h
  · rw [List.getElem?_append_left (by omega), List.getElem?_take_of_lt h] at hx
    exact .inr ⟨.inl h, hx⟩
  · rw [List.getElem?_append_right (by omega), h1] at hx
    rcases Nat.lt_or_ge (i - o) n with h' | h'
    · rw [List.getElem?_append_left (by omega), List.getElem?_take_of_lt h'] at hx
      exact .inl ⟨h, by omega, hx⟩
    · rw [List.getElem?_append_right (by omega), h2, List.getElem?_drop, show o + n + (i - o - n) = i by omega] at hx
      exact .inr ⟨.inr (by omega), hx⟩

theorem patch_len {α : Type} {xs ys : List α} {o n : Nat} (ho : o + n ≤ xs.length) (hn : n ≤ ys.length) : (xs.take o ++ ys.take n ++ xs.drop (o + n)).length = xs.length := by
  simp only [List.length_append, List.length_take, List.length_drop]; omega

/-- Some elements of a row are overwritten by a source's. -/
theorem patchVec (c : Cx P K Z bl m w) {k : Nat} {e : TypeId} {xs ys : List (List DL)} {ks : List CK} {uy : Value} {vs : List Value} (hks : elemKinds P e = some ks) (hmk : m k = .vec e false xs) (hy : Src P w Z ks e ys uy vs) {off n : Nat} (ho : off + n ≤ xs.length) (hn : n ≤ ys.length)
    {b o : Nat} (hbl : bl k = some (b, o)) :
    Tr P K K Z bl m w Z bl (upd m k (.vec e false (xs.take off ++ ys.take n ++ xs.drop (off + n)))) (w.setCells b (o + off * ks.length) (vs.take (n * ks.length))) ∧
      o + off * ks.length + (vs.take (n * ks.length)).length ≤ blockSize w b := by
  obtain ⟨ks', hks', hl, hv⟩ := vecAt c.mem hmk
  rw [hks] at hks'; injection hks' with hks'; subst hks'
  rcases hv with ⟨hn', _⟩ | ⟨b', o', hb', hsz, hrowat⟩
  · rw [hbl] at hn'; exact absurd hn' (by simp)
  rw [hbl] at hb'; injection hb' with hb'; injection hb' with e1 e2; subst e1; subst e2
  have hvl := hy.ul
  have h1 : (off + n) * ks.length ≤ xs.length * ks.length := Nat.mul_le_mul_right _ ho
  have h2 : n * ks.length ≤ ys.length * ks.length := Nat.mul_le_mul_right _ hn
  rw [Nat.add_mul] at h1
  have hvt : (vs.take (n * ks.length)).length = n * ks.length := by rw [List.length_take]; omega
  refine ⟨writeVec c (f := false) hks hmk (patch_len ho hn) (fun i x hx => ?_) hbl (off := off * ks.length) (us := vs.take (n * ks.length)) (by omega) (fun h => absurd h (by simp)) (fun i j x kk y h1 h2 h3 => ?_), by omega⟩
  · rcases patch_get ho hn hx with ⟨_, _, h⟩ | ⟨_, h⟩
    · exact hy.el _ x h
    · exact hl i x h
  · have hj := (List.getElem?_eq_some_iff.1 h2).1
    rcases patch_get ho hn h1 with ⟨a1, a2, a3⟩ | ⟨a1, a2⟩
    · left
      obtain ⟨v, hv, hd⟩ := hy.rep _ j x kk y a3 h2 h3
      have hlt := idx_lt (i := i - off) (n := n) (by omega) hj
      have hm2 : i * ks.length = off * ks.length + (i - off) * ks.length := by rw [← Nat.add_mul]; congr 1; omega
      exact ⟨by omega, by omega, v, by rw [show i * ks.length + j - off * ks.length = (i - off) * ks.length + j by omega, List.getElem?_take_of_lt (by omega)]; exact hv, hd⟩
    · right
      refine ⟨?_, x, a2, h3⟩
      rcases a1 with a1 | a1
      · left; exact idx_lt a1 hj
      · right
        have : (off + n) * ks.length ≤ i * ks.length := Nat.mul_le_mul_right _ a1
        rw [Nat.add_mul] at this; omega

theorem copyE_sound (c : Cx P K Z bl m w) {m1 : Nat → Obj} (hm : ∀ k, alive (m1 k) = true → m k = m1 k) {K' : Nat → Prop} (kk : ∀ k, K k → K' k) {t t' ty e : TypeId} (ht : P.underlying t = some (.slice e)) {s x : SL} {su xu : Value} {v : SV} {ws : List (Nat × Obj)}
    (h : copyE P m1 e s x = some (true, v, ws)) (hs : LRep P w Z bl m s su) (hx : LRep P w Z bl m x xu) :
    OkV P K K' Z bl m w (Builtin.copy_ #[t, t'] ty #[su, xu]) v ws := by
  unfold copyE at h
  obtain ⟨ys, hys, h⟩ := Option.bind_eq_some_iff.1 h
  have num : ∀ {n : Nat} {k : Nat} {ob : Obj} {w' : World} {Z' : Addr → Prop}, (Builtin.copy_ #[t, t'] ty #[su, xu]).run P w = .ok (goInt (n : Nat)) w' → Tr P K K Z bl m w Z' bl (upd m k ob) w' →
      OkV P K K' Z bl m w (Builtin.copy_ #[t, t'] ty #[su, xu]) (.one (.d (.int .i64 (n : Int)))) [(k, ob)] := fun hr T =>
    ⟨_, _, _, _, hr, T.kmono kk, ⟨_, .int _ _⟩, fun k hk => by simp [keysSV, SV.leaves, allKeysL] at hk⟩
  have vec : ∀ {k : Nat} {xs : List (List DL)} {off len n : Nat}, m k = .vec e false xs → n = min ys.length len → off + len ≤ xs.length → SlRep w (bl k) (szOf P e) off len xs.length su → (∃ ks, elemKinds P e = some ks) →
      OkV P K K' Z bl m w (Builtin.copy_ #[t, t'] ty #[su, xu]) (.one (.d (.int .i64 (n : Int)))) [(k, .vec e false (xs.take off ++ ys.take n ++ xs.drop (off + n)))] := by
    intro k xs off len n hmk hn hol hsr hks
    obtain ⟨ks, hks⟩ := hks
    obtain ⟨vs, hy⟩ := elemsOf_sound c hm hks hys hx
    have hinfo : ∃ i, P.info? e = some i := by obtain ⟨d, hd⟩ := elemKinds_under hks; exact info_of_under hd
    have hcs := (elemKinds_len hks).1
    subst hn
    have hyc := hy.cells (min ys.length len) w (Nat.min_le_left _ _) rfl
    cases hbl : bl k with
    | none =>
      rw [hbl] at hsr
      obtain ⟨A, rfl, hl0, ho0⟩ := hsr
      subst hl0; subst ho0
      rw [Nat.min_zero] at hyc ⊢
      refine num (n := 0) (Z' := Z) (by
        have := copy_run (t' := t') (ty := ty) ht hinfo (A := A) (dl := 0) (C := 0) hy.len (by rw [Nat.min_zero]; exact hyc) (w' := w) (by simp only [Nat.zero_mul, List.take_zero]; cases A <;> rfl)
        rw [Nat.min_zero] at this; exact this) ?_
      rw [upd_same _ _ _ (by rw [hmk]; simp)]
      exact c.refl fun _ h => h
    | some p =>
      obtain ⟨b, o⟩ := p
      rw [hbl] at hsr
      obtain ⟨A, C, rfl, hle, _, hn2, hA, hC⟩ := hsr
      obtain ⟨T, hfit⟩ := patchVec c hks hmk hy (off := off) (n := min ys.length len) (by omega) (Nat.min_le_left _ _) hbl
      refine num (copy_run ht hinfo hy.len hyc ?_) T
      have hbo := c.mem.blk k b o (by rw [hmk]; rfl) hbl
      rcases Nat.eq_zero_or_pos C with hC0 | hC0
      · have : min ys.length len = 0 := by omega
        rw [this, Nat.zero_mul, List.take_zero]
        cases A <;> rfl
      · rw [hA hC0, szOf_eq hks]
        exact (by simpa using run_storeCells (P := P) (n := 0) (o := o + off * ks.length) hbo hfit (fun v hv => hy.cell v (List.mem_of_mem_take hv)))
  cases s with
  | vr k =>
    simp only at h
    split at h
    · rename_i e' xs hkk
      split at h
      · rename_i hee
        subst hee
        simp only [ok, Option.some.injEq, Prod.mk.injEq, true_and] at h
        obtain ⟨rfl, rfl⟩ := h
        have hmk : m k = .vec e false xs := (hm k (by rw [hkk]; rfl)).trans hkk
        obtain ⟨ks, hks, _⟩ := vecAt c.mem hmk
        simp only [LRep, hmk] at hs
        have := vec (off := 0) (len := xs.length) (n := min ys.length xs.length) hmk rfl (by omega) hs ⟨ks, hks⟩
        simpa using this
      · exact absurd h (by simp)
    · exact absurd h (by simp)
  | vs k off len =>
    simp only at h
    split at h
    · rename_i e' xs hkk
      split at h
      · rename_i hee
        subst hee
        simp only [Option.some.injEq, Prod.mk.injEq, decide_eq_true_eq] at h
        obtain ⟨hfit, rfl, rfl⟩ := h
        have hmk : m k = .vec e false xs := (hm k (by rw [hkk]; rfl)).trans hkk
        obtain ⟨ks, hks, _⟩ := vecAt c.mem hmk
        simp only [LRep, hmk] at hs
        exact vec hmk rfl hfit hs ⟨ks, hks⟩
      · exact absurd h (by simp)
    · exact absurd h (by simp)
  | asl k off len =>
    simp only at h
    split at h
    · rename_i bt cs q hkk hks
      simp only [Option.some.injEq, Prod.mk.injEq, decide_eq_true_eq] at h
      obtain ⟨hfit, rfl, rfl⟩ := h
      have hmk : m k = .box bt cs := (hm k (by rw [hkk]; rfl)).trans hkk
      obtain ⟨vs, hy⟩ := elemsOf_sound c hm hks hys hx
      have hinfo : ∃ i, P.info? e = some i := by obtain ⟨d, hd⟩ := elemKinds_under hks; exact info_of_under hd
      obtain ⟨b, o, hbl, hsz, hc⟩ := boxAt c.mem hmk
      obtain ⟨b', o', hb', A, C, rfl, hle, hA⟩ := hs
      rw [hbl] at hb'; injection hb' with hb'; injection hb' with e1 e2; subst e1; subst e2
      have hyc := hy.cells (min ys.length len) w (Nat.min_le_left _ _) rfl
      have hvl := hy.ul
      simp only [List.length_singleton, Nat.mul_one] at hvl hyc
      have hcells : All2 (LRep P w Z bl m) ((ys.take (min ys.length len)).map fun y => .d (y.headD default)) (vs.take (min ys.length len)) := by
        refine All2.of_get (by simp [hvl]) fun i a b ha hb => ?_
        rw [List.getElem?_map] at ha
        obtain ⟨y, hy1, rfl⟩ := Option.map_eq_some_iff.1 ha
        rw [List.getElem?_take] at hy1 hb
        split at hy1
        · rename_i hi
          rw [if_pos hi] at hb
          have hyl := hy.el i y hy1
          obtain ⟨y0, rfl⟩ : ∃ y0, y = [y0] := by
            cases y with
            | nil => simp at hyl
            | cons a r => cases r with | nil => exact ⟨a, rfl⟩ | cons => simp at hyl
          obtain ⟨v, hv, hd⟩ := hy.rep i 0 [y0] q y0 hy1 rfl rfl
          simp only [List.length_singleton, Nat.mul_one, Nat.add_zero] at hv
          rw [hb] at hv; injection hv with hv; subst hv
          exact ⟨q, hd⟩
        · exact absurd hy1 (by simp)
      have hlm : (vs.take (min ys.length len)).length = min ys.length len := by rw [List.length_take]; omega
      refine num (copy_run ht hinfo hy.len hyc ?_) (writeBox c (t' := bt) (off := off) hmk hcells (fun l hl j hj => ?_) ?_ hbl)
      · have hbo := c.mem.blk k b o (by rw [hmk]; rfl) hbl
        rcases Nat.eq_zero_or_pos C with hC0 | hC0
        · have : min ys.length len = 0 := by omega
          rw [this, List.take_zero]
          cases A <;> rfl
        · rw [hA hC0]
          exact (by simpa using run_storeCells (P := P) (n := 0) (o := o + off) hbo (by omega) (fun v hv => hy.cell v (List.mem_of_mem_take hv)))
      · obtain ⟨y, _, rfl⟩ := List.mem_map.1 hl
        simp [allKeysL] at hj
      · simp only [List.length_map, List.length_take]; omega
    · exact absurd h (by simp)
  | _ => exact absurd h (by simp)

end
end Go.Ev

namespace Go.Ev
open Go Go.RowKit

section
variable {P : Program} {K : Nat → Prop} {w : World} {Z : Addr → Prop} {bl : Bl} {m : Nat → Obj}

theorem lenE_rep {m1 : Nat → Obj} (hm : ∀ k, alive (m1 k) = true → m k = m1 k) {x : SL} {n : Nat} {u : Value} (h : lenE m1 x = some n) (hx : LRep P w Z bl m x u) :
    (∃ A C, u = .slice A n C) ∨ ∃ s, x = .d (.str s) := by
  have sl : ∀ {at_ sz off len k}, SlRep w at_ sz off len k u → ∃ A C, u = .slice A len C := by
    intro at_ sz off len k h
    unfold SlRep at h
    split at h
    · obtain ⟨A, rfl, rfl, _⟩ := h; exact ⟨_, _, rfl⟩
    · obtain ⟨A, C, rfl, _⟩ := h; exact ⟨_, _, rfl⟩
  cases x with
  | nil => simp only [lenE, Option.some.injEq] at h; subst h; simp only [LRep] at hx; subst hx; exact .inl ⟨_, _, rfl⟩
  | vr k =>
    simp only [lenE] at h
    split at h
    · rename_i e f xs hk
      injection h with h; subst h
      have hmk := (hm k (by rw [hk]; rfl)).trans hk
      simp only [LRep, hmk] at hx
      exact .inl (sl hx)
    · exact absurd h (by simp)
  | vs k o l =>
    simp only [lenE] at h
    split at h
    · rename_i e f xs hk
      injection h with h; subst h
      have hmk := (hm k (by rw [hk]; rfl)).trans hk
      simp only [LRep, hmk] at hx
      exact .inl (sl hx)
    · exact absurd h (by simp)
  | asl k o l =>
    simp only [lenE, Option.some.injEq] at h; subst h
    obtain ⟨b, o', _, A, C, rfl, _⟩ := hx
    exact .inl ⟨_, _, rfl⟩
  | d z =>
    obtain ⟨kk, hd⟩ := hx
    cases z with
    | lst e xs =>
      simp only [lenE, Option.some.injEq] at h; subst h
      cases hd with
      | nil => exact .inl ⟨_, _, rfl⟩
      | lst => exact .inl ⟨_, _, rfl⟩
    | str s =>
      simp only [lenE, Option.some.injEq] at h; subst h
      exact .inr ⟨_, rfl⟩
    | _ => exact absurd h (by simp [lenE])
  | _ => exact absurd h (by simp [lenE])

theorem grownCap_need (w : World) (need old : Nat) (e : TypeId) : need ≤ grownCap w need old e := by simp [grownCap, Question.cut]

theorem foldl_push_eq : ∀ (l : List Int) (r : ByteArray), l.foldl (fun r n => r.push (UInt8.ofNat n.toNat)) r = ⟨r.data ++ (l.map fun n => UInt8.ofNat n.toNat).toArray⟩
  | [], r => by simp
  | b :: l, r => by
    simp only [List.foldl_cons, List.map_cons]
    rw [foldl_push_eq l]
    simp [ByteArray.push]

theorem strOfBytes_str (s : ByteArray) : strOfBytes (bytesOfStr s) = s := by
  unfold strOfBytes bytesOfStr
  rw [List.map_map]
  have : ((fun (x : List DL) => UInt8.ofNat (x.headD default).getI.toNat) ∘ fun (b : UInt8) => [DL.int .u8 (b.toNat : Int)]) = id := by
    funext b
    simp [DL.getI]
  rw [this, List.map_id]

/-- The bytes of a source, as the model reads them. -/
theorem bytes_run {e src dst : TypeId} {ys : List (List DL)} {A : Option Addr} {n C : Nat} {us : List Value} (hk : elemKinds P e = some [.int .u8]) (hs : P.underlying src = some (.slice e)) (he : P.underlying e = some (.int .u8)) (hd : P.underlying dst = some .string)
    (h : Src P w Z [.int .u8] e ys (.slice A n C) us) : (convert src dst (.slice A n C)).run P w = .ok (.string (strOfBytes ys)) w := by
  rw [run_convert_bytes_string w src dst e A n C hs he hd]
  have hn : n = ys.length := by
    have := h.len
    simp [Builtin.lenOf] at this; exact this
  have hsz := (elemKinds_len hk).1
  have hul := h.ul
  simp only [List.length_singleton, Nat.mul_one] at hul
  cases A with
  | none =>
    have hc := h.cells n w (by omega) rfl
    simp only [Builtin.firstCells, Sem.run_pure, Result.ok.injEq, and_true, List.length_singleton, Nat.mul_one] at hc
    have : us.length = 0 := by
      rw [show us.take n = us by rw [hn, ← hul, List.take_length]] at hc
      have := congrArg Array.size hc
      simpa using this.symm
    have : ys = [] := List.eq_nil_of_length_eq_zero (by omega)
    subst this
    simp [Conv.bytesToString, strOfBytes]; rfl
  | some a =>
    have hus : us = (ys.map fun y => (y.headD default).getI).map (Value.int .u8) := by
      apply List.ext_getElem?
      intro i
      rw [List.getElem?_map, List.getElem?_map]
      rcases Nat.lt_or_ge i ys.length with hi | hi
      · have hx : ys[i]? = some ys[i] := List.getElem?_eq_getElem hi
        have hyl := h.el i _ hx
        obtain ⟨y0, hy0⟩ : ∃ y0, ys[i] = [y0] := by
          generalize ys[i] = y at *
          cases y with
          | nil => simp at hyl
          | cons a r => cases r with | nil => exact ⟨a, rfl⟩ | cons => simp at hyl
        rw [hy0] at hx
        obtain ⟨v, hv, hdv⟩ := h.rep i 0 [y0] _ y0 hx rfl rfl
        simp only [List.length_singleton, Nat.mul_one, Nat.add_zero] at hv
        rw [hv, hx]
        cases hdv
        rfl
      · rw [List.getElem?_eq_none (by omega), List.getElem?_eq_none hi]; rfl
    have hc := h.cells n w (by omega) rfl
    simp only [List.length_singleton, Nat.mul_one] at hc hsz
    rw [show us.take n = us by rw [hn, ← hul, List.take_length]] at hc
    simp only [Builtin.firstCells, ← hsz, Nat.mul_one] at hc
    rw [hus] at hc
    rw [run_bytesToString w a n C _ hc, foldl_push_eq]
    simp [strOfBytes, List.map_map, Function.comp_def]

theorem elemsOf_slice {e : TypeId} {m1 : Nat → Obj} (hm : ∀ k, alive (m1 k) = true → m k = m1 k) {x : SL} {ys : List (List DL)} {u : Value} (h : elemsOf P m1 e x = some ys) (hx : LRep P w Z bl m x u) : (∃ A n C, u = .slice A n C) ∨ ∃ s, x = .d (.str s) := by
  have sl : ∀ {at_ sz off len k}, SlRep w at_ sz off len k u → ∃ A n C, u = .slice A n C := by
    intro at_ sz off len k h
    unfold SlRep at h
    split at h
    · obtain ⟨A, rfl, _⟩ := h; exact ⟨_, _, _, rfl⟩
    · obtain ⟨A, C, rfl, _⟩ := h; exact ⟨_, _, _, rfl⟩
  cases x with
  | nil => simp only [LRep] at hx; subst hx; exact .inl ⟨_, _, _, rfl⟩
  | vr k =>
    simp only [elemsOf] at h
    split at h
    · rename_i e f xs hk
      have hmk := (hm k (by rw [hk]; rfl)).trans hk
      simp only [LRep, hmk] at hx
      exact .inl (sl hx)
    · exact absurd h (by simp)
  | vs k o l =>
    simp only [elemsOf] at h
    split at h
    · rename_i e f xs hk
      have hmk := (hm k (by rw [hk]; rfl)).trans hk
      simp only [LRep, hmk] at hx
      exact .inl (sl hx)
    · exact absurd h (by simp)
  | asl k o l =>
    obtain ⟨b, o', _, A, C, rfl, _⟩ := hx
    exact .inl ⟨_, _, _, rfl⟩
  | d z =>
    obtain ⟨kk, hd⟩ := hx
    cases z with
    | lst e xs =>
      cases hd with
      | nil => exact .inl ⟨_, _, _, rfl⟩
      | lst => exact .inl ⟨_, _, _, rfl⟩
    | str s => exact .inr ⟨s, rfl⟩
    | _ => exact absurd h (by simp [elemsOf])
  | _ => exact absurd h (by simp [elemsOf])

theorem key_one {key : Nat} : ∀ k' ∈ keysSV (.one (.vr key)), K k' ∨ k' = key := fun k' hk' => by simp [keysSV, SV.leaves, allKeysL] at hk'; exact .inr hk'

theorem convE_sound (c : Cx P K Z bl m w) {m1 : Nat → Obj} (hm : ∀ k, alive (m1 k) = true → m k = m1 k) {key : Nat} (hk : ¬ K key) {src dst : TypeId} {x : SL} {xu : Value} {v : SV} {ws : List (Nat × Obj)}
    (h : convE P m1 key src dst x = some (true, v, ws)) (hx : LRep P w Z bl m x xu) :
    OkV P K (fun j => K j ∨ j = key) Z bl m w (convert src dst xu) v ws := by
  unfold convE at h
  split at h
  · rename_i k0 k j n hs hd
    simp only [ok, Option.some.injEq, Prod.mk.injEq, true_and] at h
    obtain ⟨rfl, rfl⟩ := h
    obtain rfl := hx.int
    exact OkV.pure c (fun _ h => .inl h) (by simp [convert, run_under hs, run_under hd, Conv.intToInt]) ⟨_, .int _ _⟩ (fun k hk => by simp [keysSV, SV.leaves, allKeysL] at hk)
  · rename_i s hs hd
    simp only [ok, Option.some.injEq, Prod.mk.injEq, true_and] at h
    obtain ⟨rfl, rfl⟩ := h
    obtain rfl := hx.str
    exact OkV.pure c (fun _ h => .inl h) (by simp [convert, run_under hs, run_under hd]) ⟨_, .str _⟩ (fun k hk => by simp [keysSV, SV.leaves, allKeysL] at hk)
  · rename_i e s hs hd
    split at h
    · rename_i he hks
      simp only [Option.some.injEq, Prod.mk.injEq] at h
      obtain ⟨hroom, rfl, rfl⟩ := h
      obtain rfl := hx.str
      have hr := run_bytes_of_string w src dst e s hs hd he
      have hcap := grownCap_need w s.size 0 e
      generalize grownCap w s.size 0 e = C at hr hcap
      have T0 := Tr.draw c.mem c.kn w.drew rfl rfl rfl rfl
      have hbs : (bytesRow s C).size = C := by
        have : s.data.size = s.size := rfl
        simp [bytesRow, this]; omega
      have hlen : (bytesOfStr s).length = s.size := by simp [bytesOfStr]
      obtain ⟨bl', T, hv⟩ := newVec (w := w.drew) T0.toCx hk (fz := false) (e' := e) hks (xs := bytesOfStr s) (cs := bytesRow s C) ((bytesRow s C).size, (bytesRow s C).size + 1) (fun q hq h => by omega)
        (fun i x hx => by
          unfold bytesOfStr at hx
          rw [List.getElem?_map] at hx
          obtain ⟨z, _, rfl⟩ := Option.map_eq_some_iff.1 hx
          rfl) (C := C) (by simp [hbs]) (by rw [hlen]; exact hcap)
        (fun i j x kk y hx hkk hy => by
          unfold bytesOfStr at hx
          rw [List.getElem?_map] at hx
          obtain ⟨z, hz, rfl⟩ := Option.map_eq_some_iff.1 hx
          have hj0 : j = 0 := by have := (List.getElem?_eq_some_iff.1 hkk).1; simp at this; omega
          subst hj0
          simp only [List.getElem?_cons_zero, Option.some.injEq] at hkk hy
          subst hkk; subst hy
          refine ⟨.int .u8 (z.toNat : Int), ?_, .int _ _⟩
          have hil := (List.getElem?_eq_some_iff.1 hz).1
          simp only [Array.length_toList] at hil
          simp only [List.length_singleton, Nat.mul_one, Nat.add_zero, bytesRow]
          rw [Array.getElem?_append_left (by simpa using hil), Array.getElem?_map]
          rw [Array.getElem?_toList] at hz
          rw [hz]; rfl)
      rw [hlen] at hv
      exact ⟨_, _, Z, bl', hr, T0.trans T, hv, key_one⟩
    · exact absurd h (by simp)
  · rename_i e x' hs hd
    split at h
    · rename_i he hks
      obtain ⟨ys, hys, h⟩ := Option.map_eq_some_iff.1 h
      simp only [Prod.mk.injEq, true_and] at h
      obtain ⟨rfl, rfl⟩ := h
      obtain ⟨us, hsrc⟩ := elemsOf_sound c hm hks hys hx
      refine OkV.pure c (fun _ h => .inl h) ?_ ⟨_, .str _⟩ (fun k hk => by simp [keysSV, SV.leaves, allKeysL] at hk)
      rcases elemsOf_slice hm hys hx with ⟨A, n, C, rfl⟩ | ⟨s, rfl⟩
      · exact bytes_run hks hs he hd hsrc
      · obtain rfl := hx.str
        simp only [elemsOf, hks, Option.some.injEq] at hys
        subst hys
        have : strOfBytes (s.data.toList.map fun b => [DL.int .u8 (b.toNat : Int)]) = s := strOfBytes_str s
        rw [this]
        simp [convert, run_under hs, run_under hd]
    · exact absurd h (by simp)
  · exact absurd h (by simp)

theorem frzCells_none : ∀ {ks : List CK} {xs : List SL} {ds : List DL} {ws : List (Nat × Obj)}, frzCells (fun _ => .no) ks xs = some (ds, ws) → ws = [] := by
  intro ks
  induction ks with
  | nil => intro xs ds ws h; cases xs <;> simp [frzCells] at h; exact h.2
  | cons k ks ih =>
    intro xs ds ws h
    cases xs with
    | nil => simp [frzCells] at h
    | cons x xs =>
      simp only [frzCells, Option.bind_eq_some_iff, Option.map_eq_some_iff] at h
      obtain ⟨⟨d0, ws0⟩, h0, ⟨ds1, ws1⟩, h1, he⟩ := h
      injection he with _ he2
      subst he2
      have h2 := ih h1
      subst h2
      have : ws0 = [] := by
        cases x with
        | d z =>
          simp only [frzL] at h0
          cases hf : k.fits z with
          | false => rw [hf] at h0; simp at h0
          | true => rw [hf] at h0; simp at h0; exact h0.2
        | _ => cases k <;> simp [frzL] at h0; try exact h0.2
      rw [this]; rfl

theorem makeSliceE_sound (c : Cx P K Z bl m w) {key : Nat} (hk : ¬ K key) {t : TypeId} {l cp : SV} {lu cu : Value} {v : SV} {ws : List (Nat × Obj)}
    (h : makeSliceE P key t l cp = some (true, v, ws)) (hl : SVRep P w Z bl m l lu) (hc : SVRep P w Z bl m cp cu) :
    OkV P K (fun j => K j ∨ j = key) Z bl m w (Instr.makeSlice t lu cu) v ws := by
  unfold makeSliceE at h
  split at h
  · rename_i e a b ht
    split at h
    · rename_i z ks hz hks
      obtain ⟨⟨ds, ws0⟩, hfz, h⟩ := Option.map_eq_some_iff.1 h
      simp only [Prod.mk.injEq, Bool.and_eq_true, decide_eq_true_eq] at h
      obtain ⟨⟨⟨h0, hab⟩, hroom⟩, rfl, rfl⟩ := h
      obtain ⟨hrow, hbnd⟩ := roomE_some hroom
      obtain ⟨i, zv, hi, hzv, hzs, hb⟩ := rowOk_some hrow
      obtain rfl := hl.int
      obtain rfl := hc.int
      have hbytes : P.bytesOf e = i.bytes := by simp [Program.bytesOf, hi]
      have hcells : P.cellsOf e = i.size := by simp [Program.cellsOf, hi]
      rw [hbytes] at hbnd
      have hb47 : (i.bytes : Int) * b ≤ 140737488355328 := by
        have : ((b.toNat * i.bytes : Nat) : Int) ≤ 140737488355328 := by omega
        rw [Int.natCast_mul, Int.toNat_of_nonneg (by omega), Int.mul_comm] at this
        exact this
      have hble : b ≤ 140737488355328 := by
        have : 1 * b ≤ (i.bytes : Int) * b := Int.mul_le_mul_of_nonneg_right (by omega) (by omega)
        omega
      have hr := run_make (P := P) w t e i zv ht hi hzv .i64 .i64 a b h0 hab (by omega) (by omega)
      have hcs : (madeCells zv.cells (b.toNat * i.size)).size = b.toNat * i.size := size_madeCells _ _
      have hz' : z = zv.cells.toList.map constL := by
        unfold zeroCellsOf at hz
        rw [hi] at hz
        simp only [hzv, Option.some.injEq] at hz
        exact hz.symm
      subst hz'
      obtain ⟨Z1, T1, _, hdl, hzl, hd⟩ := frzCells_sound (m1 := fun _ => .no) c (fun k => trivial) hfz (constCells_rep P w Z bl m zv.cells.toList) (fun l hl k hk => by
        obtain ⟨v, _, rfl⟩ := List.mem_map.1 hl
        rw [constL_keys] at hk; simp at hk)
      have hws : ws0 = [] := frzCells_none hfz
      subst hws
      obtain ⟨hkl, hkpos, _⟩ := elemKinds_len hks
      have hzl' : zv.cells.size = ks.length := by simpa using hzl
      have hcell : ∀ i' j, i' < b.toNat → j < ks.length → (madeCells zv.cells (b.toNat * i.size))[i' * ks.length + j]? = zv.cells[j]? := fun i' j hi' hj => by
        have hlt := idx_lt hi' hj
        unfold madeCells
        have hlt2 : i' * ks.length + j < b.toNat * i.size := by rw [← hcells, ← hkl]; exact hlt
        rw [Array.getElem?_map, Array.getElem?_range]
        rw [if_pos hlt2]
        simp only [Option.map_some]
        rw [hzl', show (i' * ks.length + j) % ks.length = j by rw [Nat.add_comm, Nat.add_mul_mod_self_right, Nat.mod_eq_of_lt hj]]
        have hj' : j < zv.cells.size := by omega
        rw [Array.getElem?_eq_getElem hj', getElem!_pos zv.cells j hj']
      obtain ⟨bl', T, hv⟩ := newVec (w := w) T1.toCx hk (fz := false) (e' := e) hks (xs := List.replicate a.toNat ds) (cs := madeCells zv.cells (b.toNat * i.size)) (0, 0) (fun q _ h => by omega)
        (fun i' x hx => by
          rw [List.getElem?_replicate] at hx
          split at hx
          · injection hx with hx; subst hx; exact hdl
          · exact absurd hx (by simp)) (C := b.toNat) (by rw [hcs, ← hcells, ← hkl]; exact Nat.le_refl _) (by rw [List.length_replicate]; omega)
        (fun i' j x kk y hx hkk hy => by
          rw [List.getElem?_replicate] at hx
          split at hx
          · rename_i hi'
            injection hx with hx; subst hx
            have hj := (List.getElem?_eq_some_iff.1 hkk).1
            have hjz : j < zv.cells.toList.length := by simp [hzl']; exact hj
            refine ⟨zv.cells.toList[j], ?_, hd j kk y _ hkk hy (List.getElem?_eq_getElem hjz)⟩
            rw [hcell i' j (by omega) hj]
            simp [Array.getElem?_eq_getElem (show j < zv.cells.size by omega)]
          · exact absurd hx (by simp))
      rw [List.length_replicate] at hv
      exact ⟨_, _, Z1, bl', hr, T1.trans T, hv, key_one⟩
    · exact absurd h (by simp)
  · exact absurd h (by simp)

end
end Go.Ev

namespace Go.Ev
open Go Go.RowKit

section
variable {P : Program} {K : Nat → Prop} {w : World} {Z : Addr → Prop} {bl : Bl} {m : Nat → Obj}

/-- A part of cells, as the model takes it. -/
theorem part_cells {t : TypeId} {d : TypeDesc} (hu : P.underlying t = some d) {us : List Value} {off : Nat} (h1 : isAggT P t = false → ∃ u, (us.drop off).take (P.cellsOf t) = [u]) :
    ∃ u, (part t us.toArray off).run P w = .ok u w ∧ (if isAggT P t then u = .agg ((us.drop off).take (P.cellsOf t)).toArray else (us.drop off).take (P.cellsOf t) = [u]) := by
  obtain ⟨i, hi⟩ := info_of_under hu
  unfold part
  simp only [Sem.run_bind, run_isAgg hu, Result.andThen_ok]
  cases hg : isAggT P t with
  | true =>
    simp only [if_true, Sem.run_bind, run_sizeOf hi, Result.andThen_ok, Sem.run_pure]
    exact ⟨_, rfl, by simp [List.extract_eq_take_drop]⟩
  | false =>
    obtain ⟨u, hu'⟩ := h1 hg
    have h0 : ((us.drop off).take (P.cellsOf t))[0]? = some u := by rw [hu']; rfl
    obtain ⟨h0', _⟩ := drop_take_get h0
    refine ⟨u, ?_, by simpa using hu'⟩
    have : us.toArray[off]? = some u := by simpa using h0'
    simp only [Bool.false_eq_true, if_false]
    rw [this]; rfl

/-- What an equality by type answers, of cells. -/
def EqRun (P : Program) (w : World) (D : Nat) (t : TypeId) (us vs : List Value) (b : Bool) : Prop :=
  ∃ d, P.underlying t = some d ∧ if isAggT P t then (Op.equalIn D t (.agg us.toArray) (.agg vs.toArray)).run P w = .ok b w else ∃ u v, us = [u] ∧ vs = [v] ∧ (Op.equalIn D t u v).run P w = .ok b w

theorem All2.cut {α β : Type} {R : α → β → Prop} {l : List α} {l' : List β} (h : All2 R l l') (o n : Nat) : All2 R ((l.drop o).take n) ((l'.drop o).take n) := by
  have hl := h.length
  refine All2.of_get (by simp [hl]) fun i a b ha hb => ?_
  obtain ⟨ha', _⟩ := drop_take_get ha
  obtain ⟨hb', _⟩ := drop_take_get hb
  obtain ⟨b', h1, h2⟩ := h.get _ a ha'
  rw [hb'] at h1; injection h1 with h1; subst h1; exact h2

/-- Parts that are compared. -/
theorem EqRun.parts {D : Nat} {t : TypeId} {us vs : List Value} {o : Nat} {b : Bool} (h : EqRun P w D t ((us.drop o).take (P.cellsOf t)) ((vs.drop o).take (P.cellsOf t)) b) :
    ∃ x y, (part t us.toArray o).run P w = .ok x w ∧ (part t vs.toArray o).run P w = .ok y w ∧ (Op.equalIn D t x y).run P w = .ok b w := by
  obtain ⟨d, hu, h⟩ := h
  cases hg : isAggT P t with
  | true =>
    rw [hg] at h
    simp only [if_true] at h
    obtain ⟨x, h1, h2⟩ := part_cells (w := w) (us := us) (off := o) hu (fun h => absurd (hg.symm.trans h) (by simp))
    obtain ⟨y, h3, h4⟩ := part_cells (w := w) (us := vs) (off := o) hu (fun h => absurd (hg.symm.trans h) (by simp))
    rw [hg] at h2 h4
    simp only [if_true] at h2 h4
    subst h2; subst h4
    exact ⟨_, _, h1, h3, h⟩
  | false =>
    rw [hg] at h
    simp only [Bool.false_eq_true, if_false] at h
    obtain ⟨u, v, e1, e2, h⟩ := h
    obtain ⟨x, h1, h2⟩ := part_cells (w := w) (us := us) (off := o) hu (fun _ => ⟨u, e1⟩)
    obtain ⟨y, h3, h4⟩ := part_cells (w := w) (us := vs) (off := o) hu (fun _ => ⟨v, e2⟩)
    rw [hg] at h2 h4
    simp only [Bool.false_eq_true, if_false] at h2 h4
    rw [e1] at h2; rw [e2] at h4
    injection h2 with h2 _; injection h4 with h4 _
    subst h2; subst h4
    exact ⟨_, _, h1, h3, h⟩

theorem eqT_sound : ∀ (d : Nat) (D : Nat) (t : TypeId) (xs ys : List SL) (us vs : List Value) (b : Bool), eqT P d t xs ys = some b → All2 (LRep P w Z bl m) xs us → All2 (LRep P w Z bl m) ys vs → EqRun P w (d + D) t us vs b := by
  intro d
  induction d with
  | zero => intro D t xs ys us vs b h; exact absurd h (by simp [eqT])
  | succ d ih =>
    intro D t xs ys us vs b h hx hy
    rw [show d + 1 + D = (d + D) + 1 by omega]
    unfold eqT at h
    cases hu : P.underlying t with
    | none => rw [hu] at h; exact absurd h (by simp)
    | some u =>
      rw [hu] at h
      refine ⟨u, hu, ?_⟩
      cases u with
      | bool =>
        simp only at h
        split at h
        · injection h with h; subst h
          cases hx with | cons hx1 hx2 => cases hx2; cases hy with | cons hy1 hy2 =>
          cases hy2
          obtain rfl := hx1.bool; obtain rfl := hy1.bool
          rw [show isAggT P t = false by simp [isAggT, hu]]
          exact ⟨_, _, rfl, rfl, run_equalIn_bool' w _ t _ _ hu⟩
        · exact absurd h (by simp)
      | int k =>
        simp only at h
        split at h
        · split at h
          · rename_i hjk
            subst hjk
            injection h with h; subst h
            cases hx with | cons hx1 hx2 => cases hx2; cases hy with | cons hy1 hy2 =>
            cases hy2
            obtain rfl := hx1.int; obtain rfl := hy1.int
            rw [show isAggT P t = false by simp [isAggT, hu]]
            exact ⟨_, _, rfl, rfl, run_equalIn_int w _ t _ _ _ _ hu⟩
          · exact absurd h (by simp)
        · exact absurd h (by simp)
      | string =>
        simp only at h
        split at h
        · injection h with h; subst h
          cases hx with | cons hx1 hx2 => cases hx2; cases hy with | cons hy1 hy2 =>
          cases hy2
          obtain rfl := hx1.str; obtain rfl := hy1.str
          rw [show isAggT P t = false by simp [isAggT, hu]]
          rw [beq_toListBytes]
          exact ⟨_, _, rfl, rfl, run_equalIn_string w _ t _ _ hu⟩
        · exact absurd h (by simp)
      | struct fs =>
        simp only at h
        cases hst : P.stoodInHeld t with
        | true => rw [hst] at h; exact absurd h (by simp)
        | false =>
          rw [hst] at h
          simp only [cond_false] at h
          rw [show isAggT P t = true by simp [isAggT, hu]]
          simp only [if_true]
          have hfs : P.fieldsOf t = fs := by simp [Program.fieldsOf, hu]
          rw [run_equalIn_struct w (d + D) t _ _ (by rw [hfs]; exact hu) hst, hfs]
          generalize fs.toList = l at h
          clear hu hfs
          induction l generalizing b with
          | nil => simp at h; subst h; simp [Op.eqFields]
          | cons f l ihl =>
            simp only [List.foldr_cons] at h
            split at h
            · exact absurd h (by simp)
            · rename_i hcond
              simp only [not_or] at hcond
              obtain ⟨b1, h1, h⟩ := Option.bind_eq_some_iff.1 h
              obtain ⟨b2, h2, h⟩ := Option.map_eq_some_iff.1 h
              subst h
              obtain ⟨x, y, p1, p2, p3⟩ := (ih D f.type _ _ _ _ b1 h1 (hx.cut _ _) (hy.cut _ _)).parts
              have hrest := ihl b2 h2
              simp only [Op.eqFields, hcond.1, ne_eq, not_false_eq_true, if_true, Sem.run_bind, p1, p2, p3, Result.andThen_ok]
              cases b1
              · simp
              · simpa using hrest
      | array n e =>
        simp only at h
        cases hi : P.info? e with
        | none => rw [hi] at h; exact absurd h (by simp)
        | some i =>
          rw [hi] at h
          simp only [Option.isNone_some, cond_false] at h
          rw [show isAggT P t = true by simp [isAggT, hu]]
          simp only [if_true]
          rw [run_equalIn_array w (d + D) _ _ hu hi]
          generalize List.range n = l at h
          clear hu
          induction l generalizing b with
          | nil => simp at h; subst h; simp [Op.eqItems]
          | cons q l ihl =>
            simp only [List.foldr_cons] at h
            split at h
            · exact absurd h (by simp)
            · rename_i hcond
              obtain ⟨b1, h1, h⟩ := Option.bind_eq_some_iff.1 h
              obtain ⟨b2, h2, h⟩ := Option.map_eq_some_iff.1 h
              subst h
              obtain ⟨x, y, p1, p2, p3⟩ := (ih D e _ _ _ _ b1 h1 (hx.cut _ _) (hy.cut _ _)).parts
              have hrest := ihl b2 h2
              simp only [Op.eqItems, Sem.run_bind, p1, p2, p3, Result.andThen_ok]
              cases b1
              · simp
              · simpa using hrest
      | _ => exact absurd h (by simp)

theorem agg_eql {t : TypeId} {xs ys : List SL} {ux uy : Value} {b : Bool} {x y : Operand} {op : BinOp} (hop : op = .eql ∨ op = .neq) (hg : isAggT P t = true) (hq : P.eqGuardType P.depth t = false) (h : eqT P 8 t xs ys = some b) (hx : SVRep P w Z bl m (.agg xs) ux) (hy : SVRep P w Z bl m (.agg ys) uy) :
    (do eqGuard op t x y ux uy; binOp op t ux uy : Sem Value).run P w = .ok (.bool (if op = .eql then b else !b)) w := by
  obtain ⟨us, rfl, hx⟩ := hx
  obtain ⟨vs, rfl, hy⟩ := hy
  obtain ⟨d, hu, h⟩ := eqT_sound 8 9992 t xs ys us vs b h hx hy
  rw [hg] at h
  simp only [if_true] at h
  have hgd : (eqGuard op t x y (.agg us.toArray) (.agg vs.toArray)).run P w = .ok () w := by
    unfold eqGuard
    rcases hop with rfl | rfl <;> simp [hq]
  simp only [Sem.run_bind, hgd, Result.andThen_ok]
  rcases hop with rfl | rfl
  · rw [run_eql_struct, h]; rfl
  · rw [run_neq_struct, h]; rfl

end
end Go.Ev

namespace Go.Ev
open Go Go.RowKit

section
variable {P : Program} {K : Nat → Prop} {w : World} {Z : Addr → Prop} {bl : Bl} {m : Nat → Obj}

theorem zeroCellsOf_some {t : TypeId} {z : List SL} (h : zeroCellsOf P t = some z) : ∃ i zv, P.info? t = some i ∧ i.zero = some zv ∧ z = zv.cells.toList.map constL := by
  unfold zeroCellsOf at h
  split at h
  · rename_i i hi
    split at h
    · rename_i zv hz
      injection h with h
      exact ⟨i, zv, hi, hz, h.symm⟩
    · exact absurd h (by simp)
  · exact absurd h (by simp)

theorem const_nokeys {vs : List Value} {l : SL} (h : l ∈ vs.map constL) : allKeysL l = [] := by
  obtain ⟨v, _, rfl⟩ := List.mem_map.1 h
  exact constL_keys v

theorem alloc_sound (c : Cx P K Z bl m w) {key n : Nat} (hfr : ∀ j, key ≤ j → j < n → ¬ K j) (hkn : key < n) {t : TypeId} {z : List SL} {ks : List CK} (hz : zeroCellsOf P t = some z) (_hk : kindsOf P t = some ks) (hr : ∀ p ∈ (matCells P (key + 1) ks z).2, p.1 < n) :
    OkV P K (Kx K key n) Z bl m w (Instr.alloc t true (.tuple #[])) (.one (.ptr key 0)) ((matCells P (key + 1) ks z).2 ++ [(key, .box t (matCells P (key + 1) ks z).1)]) := by
  obtain ⟨i, zv, hi, hzv, rfl⟩ := zeroCellsOf_some hz
  obtain ⟨bl', T, hv⟩ := newBox (t := t) (e' := t) c hfr (constCells_rep P w Z bl m zv.cells.toList) (fun l hl k hk => by rw [const_nokeys hl] at hk; simp at hk) hr hkn
  exact ⟨_, _, Z, bl', by simp [Instr.alloc, zeroValue, typeInfo, hi, hzv, newVar, newRow], T, hv, fun k hk => by simp [keysSV, SV.leaves, allKeysL] at hk; exact .inr ⟨by omega, by omega⟩⟩

theorem allocArr_sound (c : Cx P K Z bl m w) {m1 : Nat → Obj} (hm : ∀ k, alive (m1 k) = true → m k = m1 k) {key n : Nat} (hfr : ∀ j, key ≤ j → j < n → ¬ K j) (hkn : key < n) {t : TypeId} {z : List SL} {b : Bool} {v : SV} {ws : List (Nat × Obj)} (hz : zeroCellsOf P t = some z) (h : newArr P m1 key t z = some (b, v, ws)) :
    OkV P K (Kx K key n) Z bl m w (Instr.alloc t true (.tuple #[])) v ws := by
  obtain ⟨i, zv, hi, hzv, rfl⟩ := zeroCellsOf_some hz
  obtain ⟨Z', bl', T, rfl, hv⟩ := newArr_sound c (Shows.of hm) (hfr key (Nat.le_refl _) hkn) (constCells_rep P w Z bl m zv.cells.toList) (fun l hl k hk => by rw [const_nokeys hl] at hk; simp at hk) h
  exact ⟨_, _, Z', bl', by simp [Instr.alloc, zeroValue, typeInfo, hi, hzv, newVar, newRow], T.kmono fun j hj => hj.imp id fun e => by subst e; exact ⟨Nat.le_refl _, hkn⟩, hv, fun k hk => by simp [keysSV, SV.leaves, allKeysL] at hk; exact .inr ⟨by omega, by omega⟩⟩

theorem boxArr_sound (c : Cx P K Z bl m w) {m1 : Nat → Obj} (hm : ∀ k, alive (m1 k) = true → m k = m1 k) {key n : Nat} (hfr : ∀ j, key ≤ j → j < n → ¬ K j) (hkn : key < n) {t : TypeId} {x : SV} {xu : Value} {cs : List SL} {b : Bool} {v : SV} {ws : List (Nat × Obj)} (hc : x.cells = some cs) (hx : SVRep P w Z bl m x xu) (hxk : ∀ k ∈ keysSV x, K k) (h : newArr P m1 key t cs = some (b, v, ws)) :
    OkV P K (Kx K key n) Z bl m w (Instr.box t xu) v ws := by
  obtain ⟨us, hus, hu⟩ := hx.one_cells hc
  obtain ⟨Z', bl', T, rfl, hv⟩ := newArr_sound c (Shows.of hm) (hfr key (Nat.le_refl _) hkn) hu (fun l hl k hk => hxk k (cells_keys hc hl hk)) h
  exact ⟨_, _, Z', bl', by simp [Instr.box, newVar, newRow, hus], T.kmono fun j hj => hj.imp id fun e => by subst e; exact ⟨Nat.le_refl _, hkn⟩, hv, fun k hk => by simp [keysSV, SV.leaves, allKeysL] at hk; exact .inr ⟨by omega, by omega⟩⟩

theorem box_sound (c : Cx P K Z bl m w) {key n : Nat} (hfr : ∀ j, key ≤ j → j < n → ¬ K j) (hkn : key < n) {t : TypeId} {x : SV} {xu : Value} {cs : List SL} {ks : List CK} (hc : x.cells = some cs) (hx : SVRep P w Z bl m x xu) (hxk : ∀ k ∈ keysSV x, K k) (hr : ∀ p ∈ (matCells P (key + 1) ks cs).2, p.1 < n) :
    OkV P K (Kx K key n) Z bl m w (Instr.box t xu) (.one (.ptr key 0)) ((matCells P (key + 1) ks cs).2 ++ [(key, .box t (matCells P (key + 1) ks cs).1)]) := by
  obtain ⟨us, hus, hu⟩ := hx.one_cells hc
  obtain ⟨bl', T, hv⟩ := newBox (t := t) (e' := t) c hfr hu (fun l hl k hk => hxk k (cells_keys hc hl hk)) hr hkn
  exact ⟨_, _, Z, bl', by simp [Instr.box, newVar, newRow, hus], T, hv, fun k hk => by simp [keysSV, SV.leaves, allKeysL] at hk; exact .inr ⟨by omega, by omega⟩⟩

theorem fillS_keys {place : Nat → Option (Nat × Nat)} : ∀ {parts : List (Nat × SV)} {cs l : List SL}, fillS place cs parts = some l → (∀ x ∈ cs, ∀ k ∈ allKeysL x, K k) → (∀ p ∈ parts, ∀ k ∈ keysSV p.2, K k) → ∀ x ∈ l, ∀ k ∈ allKeysL x, K k := by
  intro parts
  induction parts with
  | nil => intro cs l h hc _; simp [fillS] at h; subst h; exact hc
  | cons p parts ih =>
    intro cs l h hc hp
    obtain ⟨i, v⟩ := p
    unfold fillS at h
    split at h
    · rename_i off size vs hpl hcs
      split at h
      · refine ih h (fun x hx k hk => ?_) (fun q hq => hp q (List.mem_cons_of_mem _ hq))
        obtain ⟨j, hj⟩ := List.getElem?_of_mem hx
        rw [setRange_get] at hj
        split at hj
        · exact hp (i, v) (List.mem_cons_self ..) k (cells_keys hcs (List.mem_of_getElem? hj) hk)
        · exact hc x (List.mem_of_getElem? hj) k hk
      · exact absurd h (by simp)
    · exact absurd h (by simp)

theorem fillS_len {place : Nat → Option (Nat × Nat)} : ∀ {parts : List (Nat × SV)} {cs l : List SL}, fillS place cs parts = some l → l.length = cs.length := by
  intro parts
  induction parts with
  | nil => intro cs l h; simp [fillS] at h; rw [h]
  | cons p parts ih =>
    intro cs l h
    obtain ⟨i, v⟩ := p
    unfold fillS at h
    split at h
    · split at h
      · rw [ih h, setRange_len]
      · exact absurd h (by simp)
    · exact absurd h (by simp)

theorem mapM_sizes : ∀ {fs : List Field}, (∀ f ∈ fs, (P.info? f.type).isSome = true) → fs.mapM (fun f => (P.info? f.type).map fun i => (f.offset, i.size)) = some (fs.map fun f => (f.offset, P.cellsOf f.type)) := by
  intro fs
  induction fs with
  | nil => intro _; rfl
  | cons f fs ih =>
    intro h
    obtain ⟨i, hi⟩ := Option.isSome_iff_exists.1 (h f (List.mem_cons_self ..))
    rw [List.mapM_cons, ih fun g hg => h g (List.mem_cons_of_mem _ hg)]
    simp [hi, Program.cellsOf]

theorem build_agg (c : Cx P K Z bl m w) {K' : Nat → Prop} (kk : ∀ k, K k → K' k) {t : TypeId} {z l : List SL} {ps : List (Nat × SV)} {us : List (Nat × Value)} {place place' : Nat → Option (Nat × Nat)} {cells : Array Value} (hz : All2 (LRep P w Z bl m) z cells.toList) (hzk : ∀ x ∈ z, ∀ k ∈ allKeysL x, K k)
    (hpl : place = place') (hf : fillS place z ps = some l) (hp : All2 (fun (p : Nat × SV) (q : Nat × Value) => p.1 = q.1 ∧ SVRep P w Z bl m p.2 q.2) ps us) (hpk : ∀ p ∈ ps, ∀ k ∈ keysSV p.2, K k)
    (hrun : ∀ cells', Instr.fill place' cells us = some cells' → P.built t us = some cells') : OkV P K K' Z bl m w (Instr.build t us.toArray) (.agg l) [] := by
  subst hpl
  obtain ⟨cells', h1, h2⟩ := fillS_sound hf hz hp
  refine OkV.pure c kk (run_build w t us.toArray cells' (hrun cells' h1)) ⟨cells'.toList, by simp, h2⟩ (fun k hk => ?_)
  simp only [keysSV, SV.leaves, List.mem_flatMap] at hk
  obtain ⟨x, hx, hk⟩ := hk
  exact fillS_keys hf hzk hpk x hx k hk

theorem flat_get {α : Type} {n sz : Nat} {l : List α} (hl : l.length = sz) {i : Nat} (h : i < n * sz) : ∃ hj : i % sz < l.length, (List.replicate n l).flatten[i]? = some l[i % sz] := by
  have hpos : 0 < sz := Nat.pos_of_ne_zero fun e => by subst e; simp at h
  have hj : i % sz < l.length := by rw [hl]; exact Nat.mod_lt _ hpos
  refine ⟨hj, ?_⟩
  have := flatten_replicate_get l n (i / sz) (i % sz) l[i % sz] (Nat.div_lt_of_lt_mul (by rw [Nat.mul_comm]; exact h)) (List.getElem?_eq_getElem hj)
  rw [hl, Nat.mul_comm, Nat.div_add_mod] at this
  exact this

theorem flat_len {α : Type} (n : Nat) (l : List α) : (List.replicate n l).flatten.length = n * l.length := by
  simp

theorem buildSlice_run {t e : TypeId} {n : Nat} {i : TypeInfo} {zv : Value} {us : List (Nat × Value)} {cells : Array Value} (ht : P.underlying t = some (.slice e)) (hi : P.info? e = some i) (hz : i.zero = some zv) (hle : n * i.size ≤ 16777216)
    (hf : Instr.fill (fun q => some (q * i.size, i.size)) (madeCells zv.cells (n * i.size)) us = some cells) :
    (Instr.buildSlice t n us.toArray).run P w = .ok (.slice (some ⟨w.heap.size, 0, none⟩) n n) (w.alloc (.cells cells e)) := by
  unfold madeCells at hf
  by_cases h0 : n * i.size = 0
  · have e0 : ∀ f : Nat → Value, Array.map f (Array.range (n * i.size)) = #[] := by intro f; rw [h0]; simp [Array.range_zero']
    rw [e0] at hf
    have hle' : ¬ 16777216 < n * i.size := by omega
    simp [Instr.buildSlice, run_under ht, sizeOf, typeInfo, hi, if_neg hle', if_pos h0, e0, hf, newRow]
  · have hle' : ¬ 16777216 < n * i.size := by omega
    have hzr : (zeroValue e).run P w = .ok zv w := by simp [zeroValue, typeInfo, hi, hz]
    simp [Instr.buildSlice, run_under ht, sizeOf, typeInfo, hi, if_neg hle', if_neg h0, hzr, hf, newRow]

theorem buildSlice_sound (c : Cx P K Z bl m w) {m1 : Nat → Obj} (hm : ∀ k, alive (m1 k) = true → m k = m1 k) {key : Nat} (hk : ¬ K key) {t e : TypeId} {n : Nat} {z l : List SL} {ks : List CK} {ps : List (Nat × SV)} {us : List (Nat × Value)} {ds : List DL} {ws : List (Nat × Obj)}
    (ht : P.underlying t = some (.slice e)) (hz : zeroCellsOf P e = some z) (hks : elemKinds P e = some ks) (hle : n * P.cellsOf e ≤ 16777216)
    (hf : fillS (fun i => some (i * P.cellsOf e, P.cellsOf e)) (List.replicate n z).flatten ps = some l) (hfz : frzCells m1 (List.replicate n ks).flatten l = some (ds, ws))
    (hp : All2 (fun (p : Nat × SV) (q : Nat × Value) => p.1 = q.1 ∧ SVRep P w Z bl m p.2 q.2) ps us) (hpk : ∀ p ∈ ps, ∀ k ∈ keysSV p.2, K k) :
    OkV P K (fun j => K j ∨ j = key) Z bl m w (Instr.buildSlice t n us.toArray) (.one (.vr key)) (ws ++ [(key, .vec e false (chunks (P.cellsOf e) n ds))]) := by
  obtain ⟨i, zv, hi, hzv, rfl⟩ := zeroCellsOf_some hz
  obtain ⟨hkl, hkpos, _⟩ := elemKinds_len hks
  have hl1 := fillS_len hf
  simp only [flat_len, List.length_map] at hl1
  rw [show zv.cells.toList.length = zv.cells.size from Array.length_toList ..] at hl1
  have hll : l.length = n * ks.length := by
    have : ∀ {a : List CK} {b : List SL} {x : List DL} {y : List (Nat × Obj)}, frzCells m1 a b = some (x, y) → b.length = a.length := by
      intro a
      induction a with
      | nil => intro b x y h; cases b <;> simp [frzCells] at h; rfl
      | cons k a ih =>
        intro b x y h
        cases b with
        | nil => simp [frzCells] at h
        | cons q b =>
          simp only [frzCells, Option.bind_eq_some_iff, Option.map_eq_some_iff] at h
          obtain ⟨_, _, ⟨_, _⟩, h1, _⟩ := h
          simp [ih h1]
    rw [this hfz, flat_len]
  have hzsz : n = 0 ∨ zv.cells.size = P.cellsOf e := by
    rcases Nat.eq_zero_or_pos n with h | h
    · exact .inl h
    · right
      rw [hll, hkl] at hl1
      exact (Nat.eq_of_mul_eq_mul_left h hl1).symm
  have hzc : All2 (LRep P w Z bl m) (List.replicate n (zv.cells.toList.map constL)).flatten (madeCells zv.cells (n * P.cellsOf e)).toList := by
    rcases hzsz with rfl | hzsz
    · simp [madeCells, Array.range_zero']; exact .nil
    · refine All2.of_get (by rw [flat_len]; simp [madeCells, hzsz]) fun j a b ha hb => ?_
      have hjl := (List.getElem?_eq_some_iff.1 ha).1
      rw [flat_len, List.length_map, Array.length_toList, hzsz] at hjl
      obtain ⟨hj, hg⟩ := flat_get (n := n) (sz := P.cellsOf e) (l := zv.cells.toList.map constL) (by simp [hzsz]) hjl
      rw [hg] at ha; injection ha with ha; subst ha
      have hjz : j % P.cellsOf e < zv.cells.size := by simpa using hj
      rw [Array.getElem?_toList] at hb
      unfold madeCells at hb
      rw [Array.getElem?_map, Array.getElem?_range, if_pos hjl] at hb
      simp only [Option.map_some, hzsz, Option.some.injEq] at hb
      rw [getElem!_pos zv.cells _ hjz] at hb
      subst hb
      simp only [List.getElem_map, Array.getElem_toList]
      exact constL_rep ..
  obtain ⟨cells', hfill, hcells⟩ := fillS_sound hf hzc hp
  have hnk : ∀ x ∈ l, ∀ k ∈ allKeysL x, K k := fillS_keys hf (fun x hx k hk => by
    simp only [List.mem_flatten] at hx
    obtain ⟨l', hl', hx⟩ := hx
    obtain ⟨_, rfl⟩ := List.mem_replicate.1 hl'
    rw [const_nokeys hx] at hk; simp at hk) hpk
  obtain ⟨Z1, T1, _, hdl, _, hd⟩ := frzCells_sound c (Shows.of hm) hfz hcells hnk
  rw [flat_len] at hdl
  have hcl : cells'.size = n * ks.length := by rw [← hll, hcells.length]; simp
  obtain ⟨bl', T, hv⟩ := newVec (w := w) T1.toCx hk (fz := false) (e' := e) hks (xs := chunks (P.cellsOf e) n ds) (cs := cells') (0, 0) (fun q _ h => by omega)
    (fun i' x hx => by
      obtain ⟨rfl, hi'⟩ := chunks_get hx
      rw [← hkl]
      refine drop_take_len ?_
      rw [hdl]; exact mul_lt_step hi') (C := n) (by rw [hcl]; exact Nat.le_refl _) (by rw [chunks_len]; exact Nat.le_refl _)
    (fun i' j x kk y hx hkk hy => by
      obtain ⟨rfl, hi'⟩ := chunks_get hx
      rw [← hkl] at hy
      obtain ⟨hy', hj⟩ := drop_take_get hy
      have hlt := idx_lt (n := n) hi' hj
      have hcl2 : i' * ks.length + j < cells'.toList.length := by rw [show cells'.toList.length = cells'.size from Array.length_toList .., hcl]; exact hlt
      refine ⟨cells'.toList[i' * ks.length + j], by rw [List.getElem?_eq_getElem hcl2 |>.symm, Array.getElem?_toList], ?_⟩
      exact hd _ kk y _ (flatten_replicate_get ks n i' j kk hi' hkk) hy' (List.getElem?_eq_getElem hcl2))
  rw [chunks_len] at hv
  exact ⟨_, _, Z1, bl', buildSlice_run ht hi hzv (by simpa [Program.cellsOf, hi] using hle) (by simpa [Program.cellsOf, hi] using hfill), by rw [writeAll_append]; exact T1.trans T, by rw [writeAll_append]; exact hv, key_one⟩

end
end Go.Ev

namespace Go.Ev
open Go Go.RowKit

section
variable {P : Program} {K : Nat → Prop} {w : World} {Z : Addr → Prop} {bl : Bl} {m : Nat → Obj}

/-- What an operation does. -/
def OkN (P : Program) (K K' : Nat → Prop) (Z : Addr → Prop) (bl : Bl) (m : Nat → Obj) (w : World) (x : Sem Next) (v : SV) (ws : List (Nat × Obj)) : Prop :=
  ∃ nx w' Z' bl', x.run P w = .ok nx w' ∧ Tr P K K' Z bl m w Z' bl' (writeAll m ws) w' ∧ (∀ k ∈ keysSV v, K' k) ∧
    ((nx = .skip ∧ v = .one .un) ∨ ∃ u, nx = .value u ∧ SVRep P w' Z' bl' (writeAll m ws) v u)

theorem okv_next {K' : Nat → Prop} {x : Sem Value} {v : SV} {ws : List (Nat × Obj)} (h : OkV P K K' Z bl m w x v ws) : OkN P K K' Z bl m w (x >>= fun a => Pure.pure (Next.value a)) v ws := by
  obtain ⟨u, w', Z', bl', hr, T, hs, hk⟩ := h
  exact ⟨.value u, w', Z', bl', by simp only [Sem.run_bind, hr, Result.andThen_ok, Sem.run_pure], T, hk, .inr ⟨u, rfl, hs⟩⟩

theorem okv_kx {key n : Nat} (hkn : key < n) {x : Sem Value} {v : SV} {ws : List (Nat × Obj)} (h : OkV P K (fun j => K j ∨ j = key) Z bl m w x v ws) : OkV P K (Kx K key n) Z bl m w x v ws := by
  obtain ⟨u, w', Z', bl', hr, T, hs, hk⟩ := h
  have imp : ∀ k, (K k ∨ k = key) → Kx K key n k := fun k h => h.imp id fun e => by subst e; exact ⟨Nat.le_refl _, hkn⟩
  exact ⟨u, w', Z', bl', hr, T.kmono imp, hs, fun k hk' => imp k (hk k hk')⟩

/-- A value that is there already. -/
theorem okv_val {K' : Nat → Prop} (c : Cx P K Z bl m w) (kk : ∀ k, K k → K' k) {x : Sem Value} {u : Value} {v : SV} (run : x.run P w = .ok u w) (rep : SVRep P w Z bl m v u) (hk : ∀ k ∈ keysSV v, K k) : OkN P K K' Z bl m w (x >>= fun a => Pure.pure (Next.value a)) v [] :=
  okv_next (OkV.pure c kk run rep hk)

theorem list2 {α : Type} {a : Array α} {x y : α} (h : a.toList = [x, y]) : a = #[x, y] := by
  apply Array.ext'; exact h

theorem list1 {α : Type} {a : Array α} {x : α} (h : a.toList = [x]) : a = #[x] := by
  apply Array.ext'; exact h

theorem map_two {α β : Type} {l : List α} {f : α → β} {x y : β} (h : l.map f = [x, y]) : ∃ a b, l = [a, b] ∧ f a = x ∧ f b = y := by
  match l, h with
  | [a, b], h => simp at h; exact ⟨a, b, rfl, h.1, h.2⟩

theorem map_one {α β : Type} {l : List α} {f : α → β} {x : β} (h : l.map f = [x]) : ∃ a, l = [a] ∧ f a = x := by
  match l, h with
  | [a], h => simp at h; exact ⟨a, rfl, h⟩

theorem noKeys_d {d : DL} : ∀ k ∈ keysSV (.one (.d d)), K k := fun k hk => by simp [keysSV, SV.leaves, allKeysL] at hk

theorem callB_sound (c : Cx P K Z bl m w) {m1 : Nat → Obj} (hm : ∀ k, alive (m1 k) = true → m k = m1 k) {key n : Nat} (hfr : ∀ j, key ≤ j → j < n → ¬ K j) (hkn : key < n) {s : Nat → SV} {ρ : Operand → Value} (hρ : ∀ x, SVRep P w Z bl m (evO P s x) (ρ x)) (hkeys : ∀ x, ∀ k ∈ keysSV (evO P s x), K k)
    {b : Builtin} {tys : Array TypeId} {args : Array Operand} {ty : TypeId} {cs : Array Bool} {v : SV} {ws : List (Nat × Obj)} (h : callB P m1 key b tys.toList (args.toList.map (evO P s)) = some (true, v, ws)) :
    OkN P K (Kx K key n) Z bl m w (builtin b tys ty cs (args.map ρ)) v ws := by
  have hkk : ∀ k, K k → Kx K key n k := fun _ h => .inl h
  have hk0 : ¬ K key := hfr key (Nat.le_refl _) hkn
  unfold callB at h
  split at h
  · rename_i t x ht hx
    obtain ⟨a, ha, hax⟩ := map_one hx
    obtain rfl := list1 ht
    obtain rfl := list1 ha
    have hrx := hρ a; rw [hax] at hrx
    rw [show (#[a] : Array Operand).map ρ = #[ρ a] by simp]
    show OkN P K (Kx K key n) Z bl m w (Builtin.len_ #[t] ty #[ρ a] >>= fun a => Pure.pure (Next.value a)) v ws
    split at h
    · rename_i hu
      split at h
      · rename_i s'
        simp only [ok, Option.some.injEq, Prod.mk.injEq, true_and] at h
        obtain ⟨rfl, rfl⟩ := h
        have hv : ρ a = .string s' := LRep.str (bl := bl) (m := m) hrx
        exact okv_val c hkk (u := .int .i64 s'.size) (by rw [hv]; simp [Builtin.len_, run_under hu]; rfl) ⟨_, .int _ _⟩ noKeys_d
      · exact absurd h (by simp)
    · rename_i e hu
      split at h
      · exact absurd h (by simp)
      · rename_i hns
        obtain ⟨q, hq, he⟩ := Option.map_eq_some_iff.1 h
        simp only [Prod.mk.injEq, true_and] at he
        obtain ⟨rfl, rfl⟩ := he
        rcases lenE_rep hm hq hrx with ⟨A, C, hv⟩ | ⟨s', hs⟩
        · exact okv_val c hkk (u := .int .i64 q) (by rw [hv]; simp [Builtin.len_, run_under hu]; rfl) ⟨_, .int _ _⟩ noKeys_d
        · exact absurd hs (hns s')
    · rename_i q e hu
      simp only [ok, Option.some.injEq, Prod.mk.injEq, true_and] at h
      obtain ⟨rfl, rfl⟩ := h
      exact okv_val c hkk (u := .int .i64 q) (by simp [Builtin.len_, run_under hu]; rfl) ⟨_, .int _ _⟩ noKeys_d
    · exact absurd h (by simp)
  · rename_i t x _ ht hx
    obtain ⟨a, ha, hax⟩ := map_one hx
    obtain rfl := list1 ht
    obtain rfl := list1 ha
    rw [show (#[a] : Array Operand).map ρ = #[ρ a] by simp]
    show OkN P K (Kx K key n) Z bl m w (Builtin.len_ #[t] ty #[ρ a] >>= fun a => Pure.pure (Next.value a)) v ws
    split at h
    · rename_i q e hu
      simp only [ok, Option.some.injEq, Prod.mk.injEq, true_and] at h
      obtain ⟨rfl, rfl⟩ := h
      exact okv_val c hkk (u := .int .i64 q) (by simp [Builtin.len_, run_under hu]; rfl) ⟨_, .int _ _⟩ noKeys_d
    · exact absurd h (by simp)
  · rename_i t t' x y ht hx
    obtain ⟨a, b, ha, hax, hbx⟩ := map_two hx
    obtain rfl := list2 ht
    obtain rfl := list2 ha
    have hrx := hρ a; rw [hax] at hrx
    have hry := hρ b; rw [hbx] at hry
    have hxk := hkeys a; rw [hax] at hxk
    have fin : ∀ {e : TypeId}, AppTys P t t' e → appendE P m1 key e x y = some (true, v, ws) → OkN P K (Kx K key n) Z bl m w (Builtin.append_ #[t, t'] ty #[ρ a, ρ b] >>= fun a => Pure.pure (Next.value a)) v ws :=
      fun hat h => okv_next (okv_kx hkn (appendE_sound c hm hk0 hat h hrx (one_keys hxk) hry))
    rw [show (#[a, b] : Array Operand).map ρ = #[ρ a, ρ b] by simp]
    show OkN P K (Kx K key n) Z bl m w (Builtin.append_ #[t, t'] ty #[ρ a, ρ b] >>= fun a => Pure.pure (Next.value a)) v ws
    split at h
    · rename_i e e' hu hu'; exact fin ⟨hu, .inl ⟨e', hu'⟩⟩ h
    · rename_i e hu hu'; exact fin ⟨hu, .inr hu'⟩ h
    · exact absurd h (by simp)
  · rename_i t t' x y ht hx
    obtain ⟨a, b, ha, hax, hbx⟩ := map_two hx
    obtain rfl := list2 ht
    obtain rfl := list2 ha
    have hrx := hρ a; rw [hax] at hrx
    have hry := hρ b; rw [hbx] at hry
    rw [show (#[a, b] : Array Operand).map ρ = #[ρ a, ρ b] by simp]
    show OkN P K (Kx K key n) Z bl m w (Builtin.copy_ #[t, t'] ty #[ρ a, ρ b] >>= fun a => Pure.pure (Next.value a)) v ws
    split at h
    · rename_i e hu
      exact okv_next (copyE_sound c hm hkk hu h hrx hry)
    · exact absurd h (by simp)
  · rename_i k i k' i' hx
    obtain ⟨a, b, ha, hax, hbx⟩ := map_two hx
    obtain rfl := list2 ha
    have hrx := hρ a; rw [hax] at hrx
    have hry := hρ b; rw [hbx] at hry
    split at h
    · rename_i hkk'
      subst hkk'
      simp only [ok, Option.some.injEq, Prod.mk.injEq, true_and] at h
      obtain ⟨rfl, rfl⟩ := h
      rw [show (#[a, b] : Array Operand).map ρ = #[ρ a, ρ b] by simp]
      show OkN P K (Kx K key n) Z bl m w (Builtin.max_ tys ty #[ρ a, ρ b] >>= fun a => Pure.pure (Next.value a)) _ _
      refine okv_val c hkk (u := .int k (if i' > i then i' else i)) ?_ ⟨_, .int _ _⟩ noKeys_d
      rw [hrx.int, hry.int]
      simp [Builtin.max_, Builtin.max2]
    · exact absurd h (by simp)
  · rename_i k i k' i' hx
    obtain ⟨a, b, ha, hax, hbx⟩ := map_two hx
    obtain rfl := list2 ha
    have hrx := hρ a; rw [hax] at hrx
    have hry := hρ b; rw [hbx] at hry
    split at h
    · rename_i hkk'
      subst hkk'
      simp only [ok, Option.some.injEq, Prod.mk.injEq, true_and] at h
      obtain ⟨rfl, rfl⟩ := h
      rw [show (#[a, b] : Array Operand).map ρ = #[ρ a, ρ b] by simp]
      show OkN P K (Kx K key n) Z bl m w (Builtin.min_ tys ty #[ρ a, ρ b] >>= fun a => Pure.pure (Next.value a)) _ _
      refine okv_val c hkk (u := .int k (if i' < i then i' else i)) ?_ ⟨_, .int _ _⟩ noKeys_d
      rw [hrx.int, hry.int]
      simp [Builtin.min_, Builtin.min2]
    · exact absurd h (by simp)
  · exact absurd h (by simp)

end
end Go.Ev

namespace Go.Ev
open Go Go.RowKit

section
variable {P : Program} {K : Nat → Prop} {w : World} {Z : Addr → Prop} {bl : Bl} {m : Nat → Obj}

theorem SVRep.lit {d : DL} {u : Value} (h : SVRep P w Z bl m (.one (.d d)) u) : LRep P w Z bl m (.d d) u := h

theorem mkSV_rep {g : Bool} {xs : List SL} {v : SV} {u : Value} (h : mkSV g xs = some v) (hc : ∃ cs : List Value, All2 (LRep P w Z bl m) xs cs ∧ (if g then u = .agg cs.toArray else cs = [u] ∧ Value.isCell u = true)) : SVRep P w Z bl m v u := by
  obtain ⟨cs, ha, hu⟩ := hc
  unfold mkSV at h
  cases g with
  | true =>
    simp only [cond_true, Option.some.injEq] at h; subst h
    simp only [if_true] at hu; subst hu
    exact ⟨cs, rfl, ha⟩
  | false =>
    simp only [cond_false] at h
    split at h
    · injection h with h; subst h
      simp only [Bool.false_eq_true, if_false] at hu
      obtain ⟨rfl, _⟩ := hu
      cases ha with | cons h _ => exact h
    · exact absurd h (by simp)

theorem mkSV_keys {g : Bool} {xs : List SL} {v : SV} (h : mkSV g xs = some v) : ∀ k ∈ keysSV v, ∃ l ∈ xs, k ∈ allKeysL l := by
  unfold mkSV at h
  intro k hk
  cases g with
  | true =>
    simp only [cond_true, Option.some.injEq] at h; subst h
    simpa [keysSV, SV.leaves, List.mem_flatMap] using hk
  | false =>
    simp only [cond_false] at h
    split at h
    · injection h with h; subst h
      simpa [keysSV, SV.leaves, List.mem_flatMap] using hk
    · exact absurd h (by simp)

theorem ck0_some {α : Type} {x : Option α} {v : α} {ws : List (Nat × Obj)} (h : ck0 x = some (true, v, ws)) : x = some v ∧ ws = [] := by
  unfold ck0 at h
  obtain ⟨a, h1, h2⟩ := Option.map_eq_some_iff.1 h
  simp only [Prod.mk.injEq, true_and] at h2
  exact ⟨by rw [h1, h2.1], h2.2.symm⟩

theorem ck1_some {α : Type} {x : Ck α} {v : α} {ws : List (Nat × Obj)} (h : ck1 x = some (true, v, ws)) : x = some (true, v) ∧ ws = [] := by
  unfold ck1 at h
  obtain ⟨a, h1, h2⟩ := Option.map_eq_some_iff.1 h
  simp only [Prod.mk.injEq] at h2
  exact ⟨by rw [h1, ← h2.1, ← h2.2.1], h2.2.2.symm⟩

theorem parts_rep {s : Nat → SV} {ρ : Operand → Value} (hρ : ∀ x, SVRep P w Z bl m (evO P s x) (ρ x)) (ps : List (Nat × Operand)) :
    All2 (fun (p : Nat × SV) (q : Nat × Value) => p.1 = q.1 ∧ SVRep P w Z bl m p.2 q.2) (ps.map fun p => (p.1, evO P s p.2)) (ps.map fun p => (p.1, ρ p.2)) := by
  induction ps with
  | nil => exact .nil
  | cons p ps ih => exact .cons ⟨rfl, hρ _⟩ ih

theorem parts_keys {s : Nat → SV} (hkeys : ∀ x, ∀ k ∈ keysSV (evO P s x), K k) (ps : List (Nat × Operand)) : ∀ p ∈ ps.map (fun p => (p.1, evO P s p.2)), ∀ k ∈ keysSV p.2, K k := by
  intro p hp
  obtain ⟨q, _, rfl⟩ := List.mem_map.1 hp
  exact hkeys _

theorem caps_rep {s : Nat → SV} {ρ : Operand → Value} (hρ : ∀ x, SVRep P w Z bl m (evO P s x) (ρ x)) (hkeys : ∀ x, ∀ k ∈ keysSV (evO P s x), K k) : ∀ {caps : List Operand} {l : List (Nat × Nat)}, caps.mapM (fun c => match evO P s c with | .one (.ptr k o) => some (k, o) | _ => none) = some l →
    All2 (fun (c : Nat × Nat) u => ∃ b o, bl c.1 = some (b, o) ∧ u = .pointer (some ⟨b, o + c.2, none⟩)) l (caps.map ρ) ∧ ∀ p ∈ l, K p.1 := by
  intro caps
  induction caps with
  | nil => intro l h; simp at h; subst h; exact ⟨.nil, fun p hp => by simp at hp⟩
  | cons c caps ih =>
    intro l h
    rw [List.mapM_cons] at h
    simp only [bind, Option.bind_eq_some_iff, pure, Option.some.injEq] at h
    obtain ⟨a, h1, r, h2, rfl⟩ := h
    obtain ⟨i1, i2⟩ := ih h2
    split at h1
    · rename_i k o hc
      injection h1 with h1; subst h1
      have hp := hρ c; rw [hc] at hp
      have hk := hkeys c; rw [hc] at hk
      refine ⟨.cons hp i1, fun p hp => ?_⟩
      rcases List.mem_cons.1 hp with rfl | hp
      · exact hk _ (by simp [keysSV, SV.leaves, allKeysL])
      · exact i2 p hp
    · exact absurd h1 (by simp)

set_option maxHeartbeats 4000000 in
theorem exec_sound {ar : TypeId → Bool} (c : Cx P K Z bl m w) {m1 : Nat → Obj} (hm : ∀ k, alive (m1 k) = true → m k = m1 k) {key n : Nat} (hfr : ∀ j, key ≤ j → j < n → ¬ K j) (hkn : key < n) {s : Nat → SV} {ρ : Operand → Value} (hρ : ∀ x, SVRep P w Z bl m (evO P s x) (ρ x)) (hkeys : ∀ x, ∀ k ∈ keysSV (evO P s x), K k)
    {o : Oper} {v : SV} {ws : List (Nat × Obj)} (h : exec P ar s m1 key o = some (true, v, ws)) (hr : ∀ p ∈ ws, p.1 < n) :
    OkN P K (Kx K key n) Z bl m w (execOp ρ o) v ws := by
  have hkk : ∀ k, K k → Kx K key n k := fun _ h => .inl h
  have hk0 : ¬ K key := hfr key (Nat.le_refl _) hkn
  obtain ⟨dst, op, ty, pos, aft, gd⟩ := o
  cases op with
  | move x =>
    simp only [exec, ok, Option.some.injEq, Prod.mk.injEq, true_and] at h
    obtain ⟨rfl, rfl⟩ := h
    exact ⟨.value (ρ x), w, Z, bl, rfl, c.refl hkk, fun k hk => .inl (hkeys x k hk), .inr ⟨_, rfl, hρ x⟩⟩
  | assign x =>
    have plain : v = evO P s x → ws = [] → OkN P K (Kx K key n) Z bl m w (execOp ρ ⟨dst, .assign x, ty, pos, aft, gd⟩) v ws := fun e1 e2 => by
      subst e1; subst e2
      exact ⟨.value (ρ x), w, Z, bl, rfl, c.refl hkk, fun k hk => .inl (hkeys x k hk), .inr ⟨_, rfl, hρ x⟩⟩
    simp only [exec] at h
    split at h
    · rename_i hx
      split at h
      · rename_i e hu
        split at h
        · rename_i ks hks
          simp only [ok, Option.some.injEq, Prod.mk.injEq, true_and] at h
          obtain ⟨rfl, rfl⟩ := h
          have hv := hρ x
          rw [hx] at hv
          have hv' : ρ x = .slice none 0 0 := hv
          have T := Tr.nilVec c.mem c.kn hk0 e false ks hks
          refine ⟨.value (ρ x), w, Z, _, rfl, T.kmono fun k hk => hk.imp id fun e => by subst e; exact ⟨Nat.le_refl _, hkn⟩, fun k hk => by simp [keysSV, SV.leaves, allKeysL] at hk; exact .inr ⟨by omega, by omega⟩, .inr ⟨_, rfl, ?_⟩⟩
          rw [hv']
          show LRep P w Z _ _ (.vr key) _
          simp only [LRep, writeAll, upd_at]
          exact ⟨none, rfl, rfl, rfl⟩
        · simp only [ok, Option.some.injEq, Prod.mk.injEq, true_and] at h
          exact plain (by rw [hx]; exact h.1.symm) h.2.symm
      · simp only [ok, Option.some.injEq, Prod.mk.injEq, true_and] at h
        exact plain (by rw [hx]; exact h.1.symm) h.2.symm
    · simp only [ok, Option.some.injEq, Prod.mk.injEq, true_and] at h
      exact plain h.1.symm h.2.symm
  | alloc t =>
    simp only [exec] at h
    obtain ⟨z, hz, h⟩ := Option.bind_eq_some_iff.1 h
    cases har : ar t with
    | true => rw [har] at h; exact okv_next (allocArr_sound c hm hfr hkn hz h)
    | false =>
    rw [har] at h
    obtain ⟨ks, hks, h⟩ := Option.map_eq_some_iff.1 h
    simp only [Prod.mk.injEq, true_and] at h
    obtain ⟨rfl, rfl⟩ := h
    exact okv_next (alloc_sound c hfr hkn hz hks fun p hp => hr p (List.mem_append_left _ hp))
  | box t x =>
    simp only [exec] at h
    obtain ⟨cs, hc, h⟩ := Option.bind_eq_some_iff.1 h
    cases har : ar t with
    | true => rw [har] at h; exact okv_next (boxArr_sound c hm hfr hkn hc (hρ x) (hkeys x) h)
    | false =>
    rw [har] at h
    obtain ⟨ks, hks, h⟩ := Option.map_eq_some_iff.1 h
    simp only [Prod.mk.injEq, true_and] at h
    obtain ⟨rfl, rfl⟩ := h
    exact okv_next (box_sound c hfr hkn hc (hρ x) (hkeys x) fun p hp => hr p (List.mem_append_left _ hp))
  | build t ps =>
    simp only [exec] at h
    obtain ⟨z, hz, h⟩ := Option.bind_eq_some_iff.1 h
    obtain ⟨i, zv, hi, hzv, hze⟩ := zeroCellsOf_some hz
    subst hze
    have hzk : ∀ x ∈ zv.cells.toList.map constL, ∀ k ∈ allKeysL x, K k := fun x hx k hk => by rw [const_nokeys hx] at hk; simp at hk
    have hpm : (ps.map fun (i, x) => (i, ρ x)) = (ps.toList.map fun p => (p.1, ρ p.2)).toArray := by apply Array.ext'; simp
    show OkN P K (Kx K key n) Z bl m w (Instr.build t (ps.map fun (i, x) => (i, ρ x)) >>= fun a => Pure.pure (Next.value a)) v ws
    rw [hpm]
    split at h
    · rename_i fs hu
      cases hall : fs.toList.all (fun f => (P.info? f.type).isSome) with
      | false => rw [hall] at h; exact absurd h (by simp)
      | true =>
        rw [hall] at h
        simp only [Bool.not_true, cond_false] at h
        obtain ⟨hq0, rfl⟩ := ck0_some h
        obtain ⟨l, hf, rfl⟩ := Option.map_eq_some_iff.1 hq0
        refine okv_next (build_agg c hkk (constCells_rep P w Z bl m zv.cells.toList) hzk (place' := ((fs.toList.map fun f => (f.offset, P.cellsOf f.type)).toArray[·]?)) ?_ hf (parts_rep hρ ps.toList) (parts_keys hkeys ps.toList) fun cells' hc => ?_)
        · funext q
          simp only [List.getElem?_toArray, List.getElem?_map, Array.getElem?_toList]
          cases fs[q]? <;> rfl
        · unfold Program.built
          rw [hi, hu]
          simp only [hzv]
          rw [mapM_sizes fun f hf => List.all_eq_true.1 hall f hf]
          exact hc
    · rename_i q e hu
      cases hie : P.info? e with
      | none => rw [hie] at h; exact absurd h (by simp)
      | some ie =>
        rw [hie] at h
        simp only [Option.isNone_some, cond_false] at h
        obtain ⟨hq0, rfl⟩ := ck0_some h
        obtain ⟨l, hf, rfl⟩ := Option.map_eq_some_iff.1 hq0
        refine okv_next (build_agg c hkk (constCells_rep P w Z bl m zv.cells.toList) hzk rfl hf (parts_rep hρ ps.toList) (parts_keys hkeys ps.toList) fun cells' hc => ?_)
        unfold Program.built
        rw [hi, hu]
        simp only [hzv, hie]
        simpa [Program.cellsOf, hie] using hc
    · exact absurd h (by simp)
  | buildSlice t q ps =>
    simp only [exec] at h
    split at h
    · rename_i e hu
      obtain ⟨z, hz, h⟩ := Option.bind_eq_some_iff.1 h
      obtain ⟨ks, hks, h⟩ := Option.bind_eq_some_iff.1 h
      split at h
      · rename_i hle
        obtain ⟨l, hf, h⟩ := Option.bind_eq_some_iff.1 h
        obtain ⟨⟨ds, ws0⟩, hfz, h⟩ := Option.map_eq_some_iff.1 h
        simp only [Prod.mk.injEq, true_and] at h
        obtain ⟨rfl, rfl⟩ := h
        have hpm : (ps.map fun (i, x) => (i, ρ x)) = (ps.toList.map fun p => (p.1, ρ p.2)).toArray := by apply Array.ext'; simp
        show OkN P K (Kx K key n) Z bl m w (Instr.buildSlice t q (ps.map fun (i, x) => (i, ρ x)) >>= fun a => Pure.pure (Next.value a)) _ _
        rw [hpm]
        exact okv_next (okv_kx hkn (buildSlice_sound c hm hk0 hu hz hks hle hf hfz (parts_rep hρ ps.toList) (parts_keys hkeys ps.toList)))
      · exact absurd h (by simp)
    · exact absurd h (by simp)
  | load t p =>
    simp only [exec] at h
    split at h
    · rename_i x hx
      obtain ⟨hq0, rfl⟩ := ck1_some h
      have hp := hρ p; rw [hx] at hp
      obtain ⟨u', h1, h2, h3⟩ := loadE_sound c hm hq0 hp
      exact okv_val c hkk h1 h2 h3
    · exact absurd h (by simp)
  | store t p x =>
    simp only [exec] at h
    split at h
    · rename_i y hy
      obtain ⟨⟨b, ws0⟩, hs, h⟩ := Option.map_eq_some_iff.1 h
      simp only [Prod.mk.injEq] at h
      obtain ⟨rfl, rfl, rfl⟩ := h
      have hp := hρ p; rw [hy] at hp
      obtain ⟨w', Z', bl', h1, T⟩ := storeE_sound c hm hfr hs hp (hρ x) (hkeys x) hr
      exact ⟨.skip, w', Z', bl', by simp [execOp, h1], T, fun k hk => by simp [keysSV, SV.leaves, allKeysL] at hk, .inl ⟨rfl, rfl⟩⟩
    · exact absurd h (by simp)
  | binOp op t x y z =>
    simp only [exec] at h
    split at h
    · rename_i a b hx hy
      obtain ⟨⟨b0, r⟩, hb, h⟩ := Option.map_eq_some_iff.1 h
      simp only [Prod.mk.injEq] at h
      obtain ⟨rfl, rfl, rfl⟩ := h
      have h1 := hρ x; rw [hx] at h1
      have h2 := hρ y; rw [hy] at h2
      obtain ⟨u, hrun, hrep⟩ := binD_sound (x := x) (y := y) hb h1.lit h2.lit
      exact okv_val c hkk hrun hrep noKeys_d
    · rename_i a b hx hy
      have h1 := hρ x; rw [hx] at h1
      have h2 := hρ y; rw [hy] at h2
      cases hgd : (isAggT P t && !P.eqGuardType P.depth t) with
      | false => rw [hgd] at h; cases op <;> exact absurd h (by simp)
      | true =>
        simp only [hgd, cond_true] at h
        have hg : isAggT P t = true ∧ P.eqGuardType P.depth t = false := by simpa using hgd
        cases op with
        | eql =>
          obtain ⟨hq0, rfl⟩ := ck0_some h
          obtain ⟨r, hq, rfl⟩ := Option.map_eq_some_iff.1 hq0
          exact okv_val c hkk (agg_eql (op := .eql) (x := x) (y := y) (.inl rfl) hg.1 hg.2 hq h1 h2) ⟨_, .bool _⟩ noKeys_d
        | neq =>
          obtain ⟨hq0, rfl⟩ := ck0_some h
          obtain ⟨r, hq, rfl⟩ := Option.map_eq_some_iff.1 hq0
          exact okv_val c hkk (agg_eql (op := .neq) (x := x) (y := y) (.inr rfl) hg.1 hg.2 hq h1 h2) ⟨_, .bool _⟩ noKeys_d
        | _ => exact absurd h (by simp)
    · exact absurd h (by simp)
  | unOp op t x =>
    simp only [exec] at h
    split at h
    · rename_i a hx
      obtain ⟨hq0, rfl⟩ := ck0_some h
      obtain ⟨r, hq, rfl⟩ := Option.map_eq_some_iff.1 hq0
      have h1 := hρ x; rw [hx] at h1
      obtain ⟨u, hrun, hrep⟩ := unD_sound hq h1.lit
      exact okv_val c hkk hrun hrep noKeys_d
    · exact absurd h (by simp)
  | convert a b x =>
    simp only [exec] at h
    split at h
    · rename_i y hy
      have h1 := hρ x; rw [hy] at h1
      exact okv_next (okv_kx hkn (convE_sound c hm hk0 h h1))
    · exact absurd h (by simp)
  | makeFunc f first caps =>
    cases f with
    | func f =>
      simp only [exec] at h
      cases he : first.isEmpty with
      | false => rw [he] at h; exact absurd h (by simp)
      | true =>
        rw [he] at h
        simp only [cond_true] at h
        obtain ⟨hq0, rfl⟩ := ck0_some h
        obtain ⟨l, hl, hv⟩ := Option.map_eq_some_iff.1 hq0
        obtain ⟨hr1, hr2⟩ := caps_rep hρ hkeys hl
        have hf0 : first.map ρ = #[] := by
          have : first = #[] := Array.isEmpty_iff.1 he
          rw [this]; simp
        have hcm : caps.map ρ = (caps.toList.map ρ).toArray := by apply Array.ext'; simp
        refine okv_val c hkk (u := .func (.func f) #[] (caps.toList.map ρ).toArray) (by simp [Instr.makeFunc, hf0, hcm]) ?_ ?_
        · subst hv
          cases l with
          | nil =>
            cases hcl : caps.toList with
            | nil => exact ⟨_, .fn f⟩
            | cons a r => rw [hcl] at hr1; have := hr1.length; simp at this
          | cons a r => exact ⟨_, rfl, hr1⟩
        · subst hv
          cases l with
          | nil => exact noKeys_d
          | cons a r =>
            refine keys_one fun k hk => ?_
            simp only [allKeysL] at hk
            obtain ⟨p, hp, rfl⟩ := List.mem_map.1 hk
            exact hr2 p hp
    | _ => exact absurd h (by simp [exec])
  | makeSlice t l cp =>
    simp only [exec] at h
    exact okv_next (okv_kx hkn (makeSliceE_sound c hk0 h (hρ l) (hρ cp)))
  | slice t x lo hi mx =>
    simp only [exec] at h
    split at h
    · rename_i y hy
      obtain ⟨⟨b, r⟩, hq, h⟩ := Option.map_eq_some_iff.1 h
      simp only [Prod.mk.injEq] at h
      obtain ⟨rfl, rfl, rfl⟩ := h
      have h1 := hρ x; rw [hy] at h1
      have hop : ∀ z : Option Operand, OpRep P w Z bl m (z.map (evO P s)) (z.map ρ) := fun z => by
        cases z with
        | none => exact .none
        | some z => exact .some (hρ z)
      obtain ⟨u, hrun, hrep, hk⟩ := sliceE_sound c hm hq h1 (hop lo) (hop hi)
      exact okv_val c hkk hrun hrep (keys_one fun k hk' => by have := hkeys x; rw [hy] at this; exact one_keys this k (hk k hk'))
    · exact absurd h (by simp)
  | fieldAddr t x f =>
    simp only [exec] at h
    split at h
    · rename_i y hy
      obtain ⟨hq0, rfl⟩ := ck0_some h
      obtain ⟨r, hq, rfl⟩ := Option.map_eq_some_iff.1 hq0
      have h1 := hρ x; rw [hy] at h1
      obtain ⟨u, hrun, hrep, hk⟩ := fieldAddrE_sound hq h1
      exact okv_val c hkk hrun hrep (keys_one fun k hk' => by have := hkeys x; rw [hy] at this; exact one_keys this k (hk ▸ hk'))
    · exact absurd h (by simp)
  | field t x f =>
    simp only [exec] at h
    split at h
    · rename_i cs hx
      obtain ⟨hq0, rfl⟩ := ck0_some h
      obtain ⟨⟨off, ft⟩, hf, hq0⟩ := Option.bind_eq_some_iff.1 hq0
      obtain ⟨fs, fd, hu, hfd, rfl, rfl⟩ := fieldOf_some hf
      have h1 := hρ x; rw [hx] at h1
      obtain ⟨us, hus, ha⟩ := h1
      have hpu : ∃ d, P.underlying fd.type = some d := by
        have h' := hq0
        simp only [partE] at h'
        split at h'
        · exact (mkT_some h').1
        · exact absurd h' (by simp)
      obtain ⟨d, hd⟩ := hpu
      obtain ⟨u, hrun, hrep⟩ := part_run hd ha hq0
      refine okv_val c hkk (u := u) ?_ hrep (fun k hk => ?_)
      · simp [Instr.field, run_under hu, hfd, hus, asAgg, hrun]
      · obtain ⟨l, hl, hk⟩ := part_keys hq0 k hk
        have := hkeys x k; rw [hx] at this
        exact this (by simp only [keysSV, SV.leaves, List.mem_flatMap]; exact ⟨l, hl, hk⟩)
    · exact absurd h (by simp)
  | indexAddr t x i =>
    simp only [exec] at h
    split at h
    · rename_i y k q hy hi
      obtain ⟨⟨b, r⟩, hq, h⟩ := Option.map_eq_some_iff.1 h
      simp only [Prod.mk.injEq] at h
      obtain ⟨rfl, rfl, rfl⟩ := h
      have h1 := hρ x; rw [hy] at h1
      have h2 := hρ i; rw [hi] at h2
      obtain ⟨u, hrun, hrep, hk⟩ := indexAddrE_sound (k := k) c hm hq h1
      rw [← h2.int] at hrun
      exact okv_val c hkk hrun hrep (keys_one fun k hk' => by have := hkeys x; rw [hy] at this; exact one_keys this k (hk k hk'))
    · exact absurd h (by simp)
  | index t x i =>
    simp only [exec] at h
    split at h
    · rename_i k q hi
      obtain ⟨hq0, rfl⟩ := ck1_some h
      have h2 := hρ i; rw [hi] at h2
      have h2 := h2.int
      unfold indexE at hq0
      split at hq0
      · rename_i n' e cs hu hx
        obtain ⟨v', hp, he⟩ := Option.map_eq_some_iff.1 hq0
        simp only [Prod.mk.injEq, decide_eq_true_eq] at he
        obtain ⟨hb, rfl⟩ := he
        have h1 := hρ x; rw [hx] at h1
        obtain ⟨us, hus, ha⟩ := h1
        have hpu : ∃ d, P.underlying e = some d := by
          have h' := hp
          simp only [partE] at h'
          split at h'
          · exact (mkT_some h').1
          · exact absurd h' (by simp)
        obtain ⟨d, hd⟩ := hpu
        obtain ⟨ie, hie⟩ := info_of_under hd
        obtain ⟨u, hrun, hrep⟩ := part_run hd ha hp
        refine okv_val c hkk (u := u) ?_ hrep (fun k hk => ?_)
        · rw [h2]
          simp [Instr.index, run_under hu, hus, asIntOf, hb.1, hb.2, run_sizeOf hie, hrun]
        · obtain ⟨l, hl, hk⟩ := part_keys hp k hk
          have := hkeys x k; rw [hx] at this
          exact this (by simp only [keysSV, SV.leaves, List.mem_flatMap]; exact ⟨l, hl, hk⟩)
      · rename_i str hu hx
        simp only [Option.some.injEq, Prod.mk.injEq, decide_eq_true_eq] at hq0
        obtain ⟨⟨hb1, hb2⟩, rfl⟩ := hq0
        have h1 := hρ x; rw [hx] at h1
        have h1 : ρ x = .string str := LRep.str (bl := bl) (m := m) h1
        have hlt : q.toNat < str.size := by omega
        refine okv_val c hkk (u := .int .u8 (str[q.toNat].toNat : Int)) ?_ ?_ noKeys_d
        · rw [h1, h2]
          simp [Instr.index, run_under hu, asIntOf, hb1, getElem?_pos str q.toNat hlt]
        · refine ⟨.int .u8, ?_⟩
          have : (str.data.toList.getD q.toNat 0).toNat = str[q.toNat].toNat := by
            congr 1
            rw [List.getD_eq_getElem?_getD, Array.getElem?_toList, Array.getElem?_eq_getElem (by exact hlt)]
            rfl
          rw [this]
          exact .int _ _
      · exact absurd hq0 (by simp)
    · exact absurd h (by simp)
  | nilCheck x =>
    have go : ∀ {a : Addr}, ρ x = .pointer (some a) → v = evO P s x → ws = [] → OkN P K (Kx K key n) Z bl m w (execOp ρ ⟨dst, .nilCheck x, ty, pos, aft, gd⟩) v ws := fun hp e1 e2 => by
      subst e1; subst e2
      exact ⟨.value (ρ x), w, Z, bl, by simp [execOp, hp], c.refl hkk, fun k hk => .inl (hkeys x k hk), .inr ⟨_, rfl, hρ x⟩⟩
    have h1 := hρ x
    simp only [exec] at h
    split at h
    · rename_i k q hx
      simp only [ok, Option.some.injEq, Prod.mk.injEq, true_and] at h
      rw [hx] at h1
      obtain ⟨b, o, _, hp⟩ := h1
      exact go hp (by rw [hx]; exact h.1.symm) h.2.symm
    · rename_i k i j hx
      simp only [ok, Option.some.injEq, Prod.mk.injEq, true_and] at h
      rw [hx] at h1
      have : ∃ a, ρ x = .pointer (some a) := by
        have h1 : LRep P w Z bl m (.ept k i j) (ρ x) := h1
        simp only [LRep] at h1
        split at h1
        · obtain ⟨b, o, _, hp⟩ := h1; exact ⟨_, hp⟩
        · obtain ⟨b, o, hp⟩ := h1; exact ⟨_, hp⟩
      obtain ⟨a, hp⟩ := this
      exact go hp (by rw [hx]; exact h.1.symm) h.2.symm
    · rename_i e xs i j hx
      simp only [ok, Option.some.injEq, Prod.mk.injEq, true_and] at h
      rw [hx] at h1
      obtain ⟨_, b, off, cap, _, hp⟩ := h1
      exact go hp (by rw [hx]; exact h.1.symm) h.2.symm
    · exact absurd h (by simp)
  | extract x i =>
    simp only [exec] at h
    split at h
    · rename_i vs hx
      obtain ⟨hq0, rfl⟩ := ck0_some h
      obtain ⟨⟨g, xs⟩, hi, hq0⟩ := Option.bind_eq_some_iff.1 hq0
      have h1 := hρ x; rw [hx] at h1
      obtain ⟨us, hus, ha⟩ := h1
      obtain ⟨u, hu, hr'⟩ := ha.get i _ hi
      refine okv_val c hkk (u := u) ?_ (mkSV_rep hq0 hr') (fun k hk => ?_)
      · rw [hus]
        simp [Instr.extract, hu]
      · obtain ⟨l, hl, hk⟩ := mkSV_keys hq0 k hk
        have := hkeys x k; rw [hx] at this
        exact this (by simp only [keysSV, SV.leaves, List.mem_flatMap]; exact ⟨l, ⟨_, List.mem_of_getElem? hi, hl⟩, hk⟩)
    · exact absurd h (by simp)
  | call cl =>
    obtain ⟨callee, args, tys⟩ := cl
    cases callee with
    | builtin b =>
      simp only [exec] at h
      have := callB_sound (ty := ty) (cs := args.map fun | .const _ => true | _ => false) c hm hfr hkn hρ hkeys h
      obtain ⟨nx, w', Z', bl', h1, h2⟩ := this
      refine ⟨nx, w', Z', bl', ?_, h2⟩
      simp only [execOp, resolve, Sem.run_bind, Sem.run_pure, Result.andThen_ok, invoke]
      exact h1
    | _ => exact absurd h (by simp [exec])
  | _ => exact absurd h (by simp [exec])

end
end Go.Ev
