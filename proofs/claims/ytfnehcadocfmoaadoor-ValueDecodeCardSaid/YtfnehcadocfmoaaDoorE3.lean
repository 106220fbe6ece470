/- States in a form of their own: a part of the heap, under numbers. -/
import Derived.Test.YtfnehcadocfmoaaDoorE2
import Derived.Orders
import Derived.LoopN
import Derived.ProofKit
import Derived.OpenShut
import Derived.KernelRfl
import Derived.ChangeArms
import Derived.FnData
set_option linter.unusedVariables false
set_option linter.unusedSimpArgs false

namespace Go.Ev
open Go Go.RowKit

/-- Objects by number. -/
def objM (os : List Obj) : Nat → Obj := fun k => os.getD k .no

def blS (ks : List Nat) (bl : Bl) : Bl := fun i => match ks[i]? with | some k => bl k | none => none

def subM (ks : List Nat) (m : Nat → Obj) : Nat → Obj := objM (ks.map fun k => renObj ks (m k))

theorem idxIn_some : ∀ {ks : List Nat} {k i : Nat}, idxIn ks k = some i → ks[i]? = some k := by
  intro ks
  induction ks with
  | nil => intro k i h; exact absurd h (by simp [idxIn])
  | cons j r ih =>
    intro k i h
    unfold idxIn at h
    cases hb : Nat.beq j k with
    | true =>
      rw [hb] at h
      simp only [cond_true, Option.some.injEq] at h
      subst h
      rw [Nat.eq_of_beq_eq_true hb]; rfl
    | false =>
      rw [hb] at h
      simp only [cond_false] at h
      obtain ⟨i', h', rfl⟩ := Option.map_eq_some_iff.1 h
      simpa using ih h'

theorem idxIn_lt {ks : List Nat} {k i : Nat} (h : idxIn ks k = some i) : i < ks.length := (List.getElem?_eq_some_iff.1 (idxIn_some h)).1

theorem subM_get {ks : List Nat} {m : Nat → Obj} {i k : Nat} (h : ks[i]? = some k) : subM ks m i = renObj ks (m k) := by
  simp [subM, objM, List.getD_eq_getElem?_getD, h]

theorem subM_none {ks : List Nat} {m : Nat → Obj} {i : Nat} (h : ks[i]? = none) : subM ks m i = .no := by
  simp [subM, objM, List.getD_eq_getElem?_getD, h]

theorem blS_get {ks : List Nat} {bl : Bl} {i k : Nat} (h : ks[i]? = some k) : blS ks bl i = bl k := by simp [blS, h]

theorem alive_ren {ks : List Nat} {o : Obj} : alive (renObj ks o) = alive o := by cases o <;> rfl

theorem alive_sub {ks : List Nat} {m : Nat → Obj} {i : Nat} (h : alive (subM ks m i) = true) : ∃ k, ks[i]? = some k ∧ alive (m k) = true := by
  cases hk : ks[i]? with
  | none => rw [subM_none hk] at h; exact absurd h (by simp [alive])
  | some k => rw [subM_get hk, alive_ren] at h; exact ⟨k, rfl, h⟩

theorem mapM_idx {ks : List Nat} : ∀ {caps : List (Nat × Nat)} {l : List (Nat × Nat)}, caps.mapM (fun c => (idxIn ks c.1).map fun i => (i, c.2)) = some l → All2 (fun (a b : Nat × Nat) => idxIn ks a.1 = some b.1 ∧ a.2 = b.2) caps l := by
  intro caps
  induction caps with
  | nil => intro l h; simp at h; subst h; exact .nil
  | cons c caps ih =>
    intro l h
    rw [List.mapM_cons] at h
    simp only [bind, Option.bind_eq_some_iff, pure, Option.some.injEq] at h
    obtain ⟨a, h1, r, h2, rfl⟩ := h
    obtain ⟨i, hi, rfl⟩ := Option.map_eq_some_iff.1 h1
    exact .cons ⟨hi, rfl⟩ (ih h2)

section
variable {P : Program} {w : World} {Z : Addr → Prop} {bl : Bl} {m : Nat → Obj}

theorem LRep.ren (ks : List Nat) {x : SL} {v : Value} (h : LRep P w Z bl m x v) : LRep P w Z (blS ks bl) (subM ks m) (renL ks x) v := by
  cases x with
  | d x => exact h
  | nil => exact h
  | un => trivial
  | rpt e xs i j => exact h
  | vr k =>
    simp only [renL]
    cases hi : idxIn ks k with
    | none => trivial
    | some i =>
      have hk := idxIn_some hi
      simp only [LRep] at h ⊢
      rw [subM_get hk, blS_get hk]
      cases hm : m k <;> rw [hm] at h <;> exact h
  | vs k o l =>
    simp only [renL]
    cases hi : idxIn ks k with
    | none => trivial
    | some i =>
      have hk := idxIn_some hi
      simp only [LRep] at h ⊢
      rw [subM_get hk, blS_get hk]
      cases hm : m k <;> rw [hm] at h <;> exact h
  | asl k o l =>
    simp only [renL]
    cases hi : idxIn ks k with
    | none => trivial
    | some i => simp only [LRep]; rw [blS_get (idxIn_some hi)]; exact h
  | ptr k o =>
    simp only [renL]
    cases hi : idxIn ks k with
    | none => trivial
    | some i => simp only [LRep]; rw [blS_get (idxIn_some hi)]; exact h
  | ept k i j =>
    simp only [renL]
    cases hi : idxIn ks k with
    | none => trivial
    | some q =>
      have hk := idxIn_some hi
      simp only [LRep] at h ⊢
      rw [subM_get hk, blS_get hk]
      cases hm : m k <;> rw [hm] at h <;> exact h
  | clo f caps =>
    simp only [renL]
    split
    · rename_i l hl
      obtain ⟨us, hu, ha⟩ := h
      refine ⟨us, hu, ?_⟩
      have hl' := mapM_idx hl
      clear hl hu
      induction ha generalizing l with
      | nil => cases hl'; exact .nil
      | cons h t ih =>
        cases hl' with
        | cons hh tt =>
          obtain ⟨b, o, hb, hu⟩ := h
          exact .cons ⟨b, o, (blS_get (idxIn_some hh.1)).trans hb, by rw [← hh.2]; exact hu⟩ (ih _ tt)
    · trivial

theorem leaves_ren (ks : List Nat) {xs : List SL} {us : List Value} (h : All2 (LRep P w Z bl m) xs us) : All2 (LRep P w Z (blS ks bl) (subM ks m)) (xs.map (renL ks)) us := by
  induction h with
  | nil => exact .nil
  | cons h _ ih => exact .cons (h.ren ks) ih

theorem SVRep.ren (ks : List Nat) {x : SV} {v : Value} (h : SVRep P w Z bl m x v) : SVRep P w Z (blS ks bl) (subM ks m) (renSV ks x) v := by
  cases x with
  | one x => exact LRep.ren ks h
  | agg xs => obtain ⟨us, hu, ha⟩ := h; exact ⟨us, hu, leaves_ren ks ha⟩
  | tup vs =>
    obtain ⟨us, hu, ha⟩ := h
    refine ⟨us, hu, ?_⟩
    clear hu
    induction ha with
    | nil => exact .nil
    | cons h _ ih =>
      obtain ⟨cs, h1, h2⟩ := h
      exact .cons ⟨cs, leaves_ren ks h1, h2⟩ ih

theorem ObjRep.ren (ks : List Nat) {k i : Nat} (hi : ks[i]? = some k) {ob : Obj} (h : ObjRep P w Z bl m k ob) : ObjRep P w Z (blS ks bl) (subM ks m) i (renObj ks ob) := by
  cases ob with
  | no => trivial
  | box t cs =>
    obtain ⟨b, o, hb, hsz, hc⟩ := h
    refine ⟨b, o, (blS_get hi).trans hb, by rw [List.length_map]; exact hsz, fun j l hl => ?_⟩
    rw [List.getElem?_map] at hl
    obtain ⟨l', hl', rfl⟩ := Option.map_eq_some_iff.1 hl
    obtain ⟨v, hv, hr⟩ := hc j l' hl'
    exact ⟨v, hv, hr.ren ks⟩
  | vec e f xs =>
    obtain ⟨kk, h1, h2, h3⟩ := h
    refine ⟨kk, h1, h2, ?_⟩
    rw [blS_get hi]; exact h3

theorem mayZ_ren {ks : List Nat} {o : Obj} {q : Nat} (h : mayZ P o q) : mayZ P (renObj ks o) q := by cases o <;> exact h

theorem MemInv.sub (h : MemInv P w Z bl m) {ks : List Nat} (hn : ks.Nodup) : MemInv P w Z (blS ks bl) (subM ks m) := by
  refine ⟨fun i => ?_, fun i i' b o o' h1 h2 hb hb' => ?_, fun i b o h1 hb q hq => ?_, h.zlt, fun i b o h1 hb => ?_⟩
  · cases hk : ks[i]? with
    | none => rw [subM_none hk]; trivial
    | some k => rw [subM_get hk]; exact (h.obj k).ren ks hk
  · obtain ⟨k, hk, ha⟩ := alive_sub h1
    obtain ⟨k', hk', ha'⟩ := alive_sub h2
    rw [blS_get hk] at hb; rw [blS_get hk'] at hb'
    have := h.inj k k' b o o' ha ha' hb hb'
    subst this
    have hi := (List.getElem?_eq_some_iff.1 hk).1
    exact (List.getElem?_inj hi hn).1 (hk.trans hk'.symm)
  · obtain ⟨k, hk, ha⟩ := alive_sub h1
    rw [blS_get hk] at hb
    obtain ⟨h2, h3⟩ := h.sep k b o ha hb q hq
    exact ⟨h2, by rw [subM_get hk]; exact mayZ_ren h3⟩
  · obtain ⟨k, hk, ha⟩ := alive_sub h1
    rw [blS_get hk] at hb
    exact h.blk k b o ha hb

end

/-! ### Keys under numbers -/

theorem renL_lt {ks : List Nat} {x : SL} {k : Nat} (h : k ∈ allKeysL (renL ks x)) : k < ks.length := by
  cases x with
  | vr j => simp only [renL] at h; cases hi : idxIn ks j with | none => rw [hi] at h; simp [allKeysL] at h | some i => rw [hi] at h; simp [allKeysL] at h; subst h; exact idxIn_lt hi
  | vs j o l => simp only [renL] at h; cases hi : idxIn ks j with | none => rw [hi] at h; simp [allKeysL] at h | some i => rw [hi] at h; simp [allKeysL] at h; subst h; exact idxIn_lt hi
  | asl j o l => simp only [renL] at h; cases hi : idxIn ks j with | none => rw [hi] at h; simp [allKeysL] at h | some i => rw [hi] at h; simp [allKeysL] at h; subst h; exact idxIn_lt hi
  | ptr j o => simp only [renL] at h; cases hi : idxIn ks j with | none => rw [hi] at h; simp [allKeysL] at h | some i => rw [hi] at h; simp [allKeysL] at h; subst h; exact idxIn_lt hi
  | ept j o l => simp only [renL] at h; cases hi : idxIn ks j with | none => rw [hi] at h; simp [allKeysL] at h | some i => rw [hi] at h; simp [allKeysL] at h; subst h; exact idxIn_lt hi
  | clo f caps =>
    simp only [renL] at h
    split at h
    · rename_i l hl
      simp only [allKeysL, List.mem_map] at h
      obtain ⟨p, hp, rfl⟩ := h
      have ha := mapM_idx hl
      clear hl
      induction ha with
      | nil => simp at hp
      | cons hh _ ih =>
        rcases List.mem_cons.1 hp with rfl | hp
        · exact idxIn_lt hh.1
        · exact ih hp
    · simp [allKeysL] at h
  | _ => simp [renL, allKeysL] at h

theorem renSV_lt {ks : List Nat} {v : SV} {k : Nat} (h : k ∈ keysSV (renSV ks v)) : k < ks.length := by
  cases v with
  | one x => simp only [renSV, keysSV, SV.leaves, List.mem_flatMap, List.mem_singleton] at h; obtain ⟨l, rfl, h⟩ := h; exact renL_lt h
  | agg xs =>
    simp only [renSV, keysSV, SV.leaves, List.mem_flatMap, List.mem_map] at h
    obtain ⟨l, ⟨x, _, rfl⟩, h⟩ := h
    exact renL_lt h
  | tup vs =>
    simp only [renSV, keysSV, SV.leaves, List.mem_flatMap, List.mem_map] at h
    obtain ⟨l, ⟨p, ⟨q, _, rfl⟩, hl⟩, h⟩ := h
    simp only [List.mem_map] at hl
    obtain ⟨x, _, rfl⟩ := hl
    exact renL_lt h

theorem objKeys_sub {ks : List Nat} {m : Nat → Obj} {i k : Nat} (h : k ∈ objKeys (subM ks m i)) : k < ks.length := by
  cases hi : ks[i]? with
  | none => rw [subM_none hi] at h; simp [objKeys] at h
  | some j =>
    rw [subM_get hi] at h
    cases hm : m j with
    | box t cs =>
      rw [hm] at h
      simp only [renObj, objKeys, List.mem_flatMap, List.mem_map] at h
      obtain ⟨l, ⟨x, _, rfl⟩, h⟩ := h
      exact renL_lt h
    | _ => rw [hm] at h; simp [renObj, objKeys] at h

theorem sub_known (ks : List Nat) (m : Nat → Obj) : Known (· < ks.length) (subM ks m) :=
  ⟨fun i h => by obtain ⟨k, hk, _⟩ := alive_sub h; exact (List.getElem?_eq_some_iff.1 hk).1, fun i c hc => objKeys_sub hc⟩

/-! ### The keys that are reached -/

theorem beq_false {a b : Nat} (h : a ≠ b) : Nat.beq a b = false := by
  cases hb : Nat.beq a b with
  | true => exact absurd (Nat.eq_of_beq_eq_true hb) h
  | false => rfl

theorem mem_dedup {l : List Nat} : ∀ {k : Nat}, k ∈ dedup l ↔ k ∈ l := by
  induction l with
  | nil => intro k; simp [dedup]
  | cons j r ih =>
    intro k
    simp only [dedup, List.mem_cons, List.mem_filter, ih]
    constructor
    · rintro (h | h)
      · exact .inl h
      · exact .inr h.1
    · rintro (h | h)
      · exact .inl h
      · by_cases hjk : j = k
        · exact .inl hjk.symm
        · exact .inr ⟨h, by rw [beq_false (Ne.symm hjk)]; rfl⟩

theorem dedup_nodup (l : List Nat) : (dedup l).Nodup := by
  induction l with
  | nil => simp [dedup]
  | cons j r ih =>
    simp only [dedup, List.nodup_cons]
    refine ⟨fun h => ?_, ih.sublist List.filter_sublist⟩
    have := (List.mem_filter.1 h).2
    rw [show Nat.beq j j = true from Nat.beq_refl j] at this
    simp at this

theorem dedup_prefix : ∀ {a : List Nat} (b : List Nat), a.Nodup → ∃ c, dedup (a ++ b) = a ++ c := by
  intro a
  induction a with
  | nil => intro b _; exact ⟨_, rfl⟩
  | cons j r ih =>
    intro b h
    obtain ⟨h1, h2⟩ := List.nodup_cons.1 h
    obtain ⟨c, hc⟩ := ih b h2
    refine ⟨c.filter (fun k => !Nat.beq k j), ?_⟩
    simp only [List.cons_append, dedup, hc, List.filter_append]
    congr 2
    rw [List.filter_eq_self]
    intro k hk
    have : k ≠ j := fun e => h1 (e ▸ hk)
    rw [beq_false this]; rfl

theorem reach_nodup (m : Nat → Obj) (l : List Nat) : (reach m l).Nodup := dedup_nodup _

theorem reach_range (m : Nat → Obj) (nf : Nat) (l : List Nat) {i : Nat} (h : i < nf) : (reach m (List.range nf ++ l))[i]? = some i := by
  obtain ⟨c, hc⟩ := dedup_prefix (a := List.range nf) l List.nodup_range
  obtain ⟨c', hc'⟩ := dedup_prefix (a := dedup (List.range nf ++ l)) ((dedup (List.range nf ++ l)).flatMap fun k => keysObj (m k)) (dedup_nodup _)
  unfold reach
  simp only [hc']
  rw [hc, List.append_assoc, List.getElem?_append_left (by simpa using h)]
  simp [List.getElem?_range h]

theorem reach_le (m : Nat → Obj) (nf : Nat) (l : List Nat) : nf ≤ (reach m (List.range nf ++ l)).length := by
  rcases Nat.eq_zero_or_pos nf with h | h
  · omega
  · have := (List.getElem?_eq_some_iff.1 (reach_range m nf l (i := nf - 1) (by omega))).1
    omega

end Go.Ev

namespace Go.Ev
open Go Go.RowKit

/-- The same object, or the same row with another mark. -/
def Frz (a b : Obj) : Prop := b = a ∨ ∃ e f f' xs, a = .vec e f xs ∧ b = .vec e f' xs

theorem Frz.alive {a b : Obj} (h : Frz a b) : Go.Ev.alive b = Go.Ev.alive a := by
  rcases h with rfl | ⟨e, f, f', xs, rfl, rfl⟩ <;> rfl

theorem Frz.refl (a : Obj) : Frz a a := .inl rfl

theorem Frz.vec {a b : Obj} (h : Frz a b) (hb : ∃ e f xs, b = .vec e f xs) : ∃ e f xs, a = .vec e f xs := by
  rcases h with rfl | ⟨e, f, f', xs, rfl, rfl⟩
  · exact hb
  · exact ⟨_, _, _, rfl⟩

theorem ren_vec {ks : List Nat} {o : Obj} (h : ∃ e f xs, renObj ks o = .vec e f xs) : ∃ e f xs, o = .vec e f xs := by
  cases o with
  | vec e f xs => exact ⟨_, _, _, rfl⟩
  | _ => obtain ⟨e, f, xs, h⟩ := h; exact absurd h (by simp [renObj])

theorem compat_frz {ks : List Nat} {f : Nat → Nat} {a b o : Obj} (h : Frz a b) (hc : Compat (renObj ks b) o) : Compat a (backObj f o) := by
  have h1 : Compat b (backObj f o) := by
    generalize hr : renObj ks b = r at hc
    cases hc with
    | no => exact .no _
    | box t t' cs cs' hl =>
      cases b with
      | box t0 cs0 =>
        simp only [renObj, Obj.box.injEq] at hr
        obtain ⟨_, rfl⟩ := hr
        exact .box _ _ _ _ (by simpa using hl)
      | _ => exact absurd hr (by simp [renObj])
    | vec e g g' xs xs' hl =>
      cases b with
      | vec e0 g0 xs0 =>
        simp only [renObj, Obj.vec.injEq] at hr
        obtain ⟨rfl, _, rfl⟩ := hr
        exact .vec _ _ _ _ _ hl
      | _ => exact absurd hr (by simp [renObj])
  rcases h with rfl | ⟨e, g, g', xs, rfl, rfl⟩
  · exact h1
  · generalize backObj f o = r at h1
    cases h1 with
    | no => exact .no _
    | vec _ _ _ _ _ hl => exact .vec _ _ _ _ _ hl

/-- The same, or hidden. -/
def Hid (a b : Obj) : Prop := b = .no ∨ Frz a b

theorem Hid.refl (a : Obj) : Hid a a := .inr (.refl a)

theorem Hid.alive {a b : Obj} (h : Hid a b) (hb : Go.Ev.alive b = true) : Go.Ev.alive a = true := by
  rcases h with rfl | h
  · exact absurd hb (by simp [Go.Ev.alive])
  · rw [h.alive] at hb; exact hb

theorem Hid.dead {a b : Obj} (h : Hid a b) (ha : Go.Ev.alive a = false) : Go.Ev.alive b = false := by
  cases hb : Go.Ev.alive b with
  | false => rfl
  | true => rw [h.alive hb] at ha; exact absurd ha (by simp)

theorem Hid.vec {a b : Obj} (h : Hid a b) (hb : ∃ e f xs, b = .vec e f xs) : ∃ e f xs, a = .vec e f xs := by
  rcases h with rfl | h
  · obtain ⟨e, f, xs, hb⟩ := hb; exact absurd hb (by simp)
  · exact h.vec hb

theorem compat_back {ks : List Nat} {f : Nat → Nat} {a b o : Obj} (h : Hid a b) (hc : Compat (renObj ks b) o) : Compat a (backObj f o) := by
  rcases h with rfl | h
  · have hc' : Compat .no o := hc
    cases hc'; exact .no _
  · exact compat_frz h hc

theorem alive_back {f : Nat → Nat} {o : Obj} : alive (backObj f o) = alive o := by cases o <;> rfl

theorem mayZ_back {P : Program} {f : Nat → Nat} {o : Obj} {q : Nat} (h : mayZ P o q) : mayZ P (backObj f o) q := by cases o <;> exact h

theorem vec_back {f : Nat → Nat} {o : Obj} (h : ∃ e g xs, backObj f o = .vec e g xs) : ∃ e g xs, o = .vec e g xs := by
  cases o with
  | vec e f xs => exact ⟨_, _, _, rfl⟩
  | _ => obtain ⟨e, f, xs, h⟩ := h; exact absurd h (by simp [backObj])

theorem backL_keys {f : Nat → Nat} {x : SL} {k : Nat} (h : k ∈ allKeysL (backL f x)) : ∃ i ∈ allKeysL x, k = f i := by
  cases x with
  | clo g cs =>
    simp only [backL, allKeysL, List.map_map, List.mem_map, Function.comp] at h ⊢
    obtain ⟨c, hc, rfl⟩ := h
    exact ⟨c.1, ⟨c, hc, rfl⟩, rfl⟩
  | _ => simp only [backL, allKeysL, List.mem_singleton, List.not_mem_nil] at h ⊢ <;> first | exact h.elim | exact ⟨_, rfl, h⟩

theorem backSV_keys {f : Nat → Nat} {v : SV} {k : Nat} (h : k ∈ keysSV (backSV f v)) : ∃ i ∈ keysSV v, k = f i := by
  cases v with
  | one x =>
    simp only [backSV, keysSV, SV.leaves, List.flatMap_cons, List.flatMap_nil, List.append_nil] at h ⊢
    exact backL_keys h
  | agg xs =>
    simp only [backSV, keysSV, SV.leaves, List.mem_flatMap, List.mem_map] at h ⊢
    obtain ⟨l, ⟨x, hx, rfl⟩, h⟩ := h
    obtain ⟨i, hi, e⟩ := backL_keys h
    exact ⟨i, ⟨x, hx, hi⟩, e⟩
  | tup vs =>
    simp only [backSV, keysSV, SV.leaves, List.mem_flatMap, List.mem_map] at h ⊢
    obtain ⟨l, ⟨p, ⟨q, hq, rfl⟩, hl⟩, h⟩ := h
    simp only [List.mem_map] at hl
    obtain ⟨x, hx, rfl⟩ := hl
    obtain ⟨i, hi, e⟩ := backL_keys h
    exact ⟨i, ⟨x, ⟨q, hq, hx⟩, hi⟩, e⟩

theorem backK_lt {ks : List Nat} {key i : Nat} (h : i < ks.length) : ks[i]? = some (backK ks key i) := by
  simp [backK, List.getD_eq_getElem?_getD, List.getElem?_eq_getElem h]

theorem backK_ge {ks : List Nat} {key i : Nat} (h : ks.length ≤ i) : backK ks key i = key + (i - ks.length) := by
  simp [backK, List.getD_eq_getElem?_getD, List.getElem?_eq_none h]

/-- What is written back, read at a number's key. -/
theorem writeAll_back {f : Nat → Nat} : ∀ (os : List Obj) (i0 : Nat) (m : Nat → Obj), (∀ i j, i0 ≤ i → i < i0 + os.length → i0 ≤ j → j < i0 + os.length → f i = f j → i = j) →
    (∀ i, i0 ≤ i → i < i0 + os.length → writeAll m (backAll f i0 os) (f i) = backObj f (os.getD (i - i0) .no)) ∧
    (∀ k, (∀ i, i0 ≤ i → i < i0 + os.length → f i ≠ k) → writeAll m (backAll f i0 os) k = m k) := by
  intro os
  induction os with
  | nil => intro i0 m _; exact ⟨fun i h1 h2 => by simp at h2; omega, fun k _ => rfl⟩
  | cons o r ih =>
    intro i0 m hinj
    simp only [List.length_cons] at hinj
    obtain ⟨h1, h2⟩ := ih (i0 + 1) (upd m (f i0) (backObj f o)) (fun i j a1 a2 a3 a4 => hinj i j (by omega) (by omega) (by omega) (by omega))
    refine ⟨fun i a1 a2 => ?_, fun k hk => ?_⟩
    · show writeAll (upd m (f i0) (backObj f o)) (backAll f (i0 + 1) r) (f i) = _
      simp only [List.length_cons] at a2
      rcases Nat.eq_or_lt_of_le a1 with rfl | hlt
      · rw [h2 (f i0) fun i b1 b2 e => by have := hinj i i0 (by omega) (by omega) (by omega) (by omega) e; omega, upd_at]
        simp
      · rw [h1 i (by omega) (by omega)]
        rw [show i - i0 = (i - (i0 + 1)) + 1 by omega]
        simp
    · show writeAll (upd m (f i0) (backObj f o)) (backAll f (i0 + 1) r) k = _
      simp only [List.length_cons] at hk
      rw [h2 k fun i b1 b2 => hk i (by omega) (by omega), upd_ne _ _ (fun e => hk i0 (by omega) (by omega) e.symm)]

section
variable {P : Program} {K : Nat → Prop} {w w' : World} {Zc Z1 Z2 Zc' : Addr → Prop} {bl bl2 : Bl} {mc m1 : Nat → Obj}

open Classical in
theorem Tr.embed (c : Cx P K Zc bl mc w) (hm1 : ∀ k, Hid (mc k) (m1 k)) {ks : List Nat} (hnd : ks.Nodup) (hksK : ∀ k ∈ ks, K k) {key N : Nat} (hfr : ∀ j, key ≤ j → j < N → ¬ K j) {os : List Obj}
    (hz1 : ∀ a, Zc a → Z1 a) (T : Tr P (· < ks.length) (· < os.length) Z1 (blS ks bl) (subM ks m1) w Z2 bl2 (objM os) w')
    (hN : ∀ i, ks.length ≤ i → i < os.length → key + (i - ks.length) < N)
    (hz2 : ∀ a, Zc' a → Z2 a) (hzz : ∀ a, Zc a → Zc' a) (hzn : ∀ a, Zc' a → Zc a ∨ w.heap.size ≤ a.block ∨ ∃ i o, (∃ e f xs, subM ks m1 i = .vec e f xs) ∧ blS ks bl i = some (a.block, o))
    (hob : ∀ i, ObjRep P w' Zc' bl2 (objM os) i (objM os i)) :
    ∃ bl', Tr P K (Kx K key N) Zc bl mc w Zc' bl' (writeAll mc (backAll (backK ks key) 0 os)) w' ∧
      ∀ x v, (∀ k ∈ allKeysL x, k < os.length) → LRep P w' Zc' bl2 (objM os) x v → LRep P w' Zc' bl' (writeAll mc (backAll (backK ks key) 0 os)) (backL (backK ks key) x) v := by
  have hnn : ks.length ≤ os.length := by
    rcases Nat.eq_zero_or_pos ks.length with h | h
    · omega
    · have := T.kk (ks.length - 1) (by omega); omega
  have hfin : ∀ i, i < os.length → (i < ks.length ∧ backK ks key i ∈ ks) ∨ (ks.length ≤ i ∧ ¬ K (backK ks key i) ∧ key ≤ backK ks key i ∧ backK ks key i < N) := fun i hi => by
    rcases Nat.lt_or_ge i ks.length with h | h
    · exact .inl ⟨h, List.mem_of_getElem? (backK_lt h)⟩
    · have := hN i h hi
      rw [backK_ge h]
      exact .inr ⟨h, hfr _ (by omega) this, by omega, this⟩
  have hinj : ∀ i j, i < os.length → j < os.length → backK ks key i = backK ks key j → i = j := fun i j hi hj e => by
    rcases hfin i hi with ⟨h1, h2⟩ | ⟨h1, h2, _⟩ <;> rcases hfin j hj with ⟨h3, h4⟩ | ⟨h3, h4, _⟩
    · have a := backK_lt (key := key) h1
      have b := backK_lt (key := key) h3
      rw [e] at a
      exact (List.getElem?_inj h1 hnd).1 (a.trans b.symm)
    · exact absurd (hksK _ h2) (e ▸ h4)
    · exact absurd (hksK _ h4) (e ▸ h2)
    · rw [backK_ge h1, backK_ge h3] at e; omega
  obtain ⟨hw1, hw2⟩ := writeAll_back (f := backK ks key) os 0 mc (fun i j _ a2 _ a4 => hinj i j (by omega) (by omega))
  generalize hmdef : writeAll mc (backAll (backK ks key) 0 os) = mm at hw1 hw2 ⊢
  have hmi : ∀ i, i < os.length → mm (backK ks key i) = backObj (backK ks key) (objM os i) := fun i hi => by
    have := hw1 i (Nat.zero_le _) (by omega)
    rw [Nat.sub_zero] at this; exact this
  have hmo : ∀ k, (∀ i, i < os.length → backK ks key i ≠ k) → mm k = mc k := fun k hk => hw2 k fun i _ h => hk i (by omega)
  have hget : ∀ i, i < ks.length → ks[i]? = some (backK ks key i) := fun i h => backK_lt h
  generalize backK ks key = f at *
  let bl' : Bl := fun j => if h : ∃ i, i < os.length ∧ f i = j then bl2 h.choose else bl j
  have hbi : ∀ i, i < os.length → bl' (f i) = bl2 i := fun i hi => by
    have h : ∃ q, q < os.length ∧ f q = f i := ⟨i, hi, rfl⟩
    have : bl' (f i) = bl2 h.choose := by simp only [bl']; rw [dif_pos h]
    rw [this, hinj _ i h.choose_spec.1 hi h.choose_spec.2]
  have hbo : ∀ k, (∀ i, i < os.length → f i ≠ k) → bl' k = bl k := fun k hk => by
    have h : ¬ ∃ q, q < os.length ∧ f q = k := fun ⟨q, h1, h2⟩ => hk q h1 h2
    simp only [bl']; rw [dif_neg h]
  have cases_ : ∀ k, (∃ i, i < os.length ∧ f i = k) ∨ (∀ i, i < os.length → f i ≠ k) := fun k => by
    by_cases h : ∃ i, i < os.length ∧ f i = k
    · exact .inl h
    · exact .inr fun i hi e => h ⟨i, hi, e⟩
  have ofK : ∀ k, K k → (∃ i, i < ks.length ∧ f i = k ∧ ks[i]? = some k) ∨ (∀ i, i < os.length → f i ≠ k) := fun k hk => by
    rcases cases_ k with ⟨i, hi, rfl⟩ | h
    · rcases hfin i hi with ⟨h1, h2⟩ | ⟨_, h2, _⟩
      · exact .inl ⟨i, h1, rfl, hget i h1⟩
      · exact absurd hk h2
    · exact .inr h
  have cmp : ∀ k, K k → Compat (mc k) (mm k) := fun k hk => by
    rcases ofK k hk with ⟨i, hi, rfl, hg⟩ | h
    · rw [hmi i (by omega)]
      have := T.cmp i hi
      rw [subM_get hg] at this
      exact compat_back (hm1 _) this
    · rw [hmo k h]; exact .refl _
  have bls : ∀ k, K k → bl' k = bl k := fun k hk => by
    rcases ofK k hk with ⟨i, hi, rfl, hg⟩ | h
    · rw [hbi i (by omega), T.bls i hi, blS_get hg]
    · exact hbo k h
  have zc : ∀ a, Zc a → w'.cell? a = w.cell? a := fun a ha => T.zc a (hz1 a ha)
  have emb : ∀ x v, (∀ k ∈ allKeysL x, k < os.length) → LRep P w' Zc' bl2 (objM os) x v → LRep P w' Zc' bl' mm (backL f x) v := by
    intro x v hk h
    cases x with
    | d x => exact h
    | nil => exact h
    | un => trivial
    | rpt e xs i j => exact h
    | vr i =>
      have hi := hk i (by simp [allKeysL])
      simp only [backL, LRep] at h ⊢
      rw [hmi i hi, hbi i hi]
      cases ho : objM os i <;> rw [ho] at h <;> exact h
    | vs i o l =>
      have hi := hk i (by simp [allKeysL])
      simp only [backL, LRep] at h ⊢
      rw [hmi i hi, hbi i hi]
      cases ho : objM os i <;> rw [ho] at h <;> exact h
    | asl i o l =>
      have hi := hk i (by simp [allKeysL])
      simp only [backL, LRep] at h ⊢
      rw [hbi i hi]; exact h
    | ptr i o =>
      have hi := hk i (by simp [allKeysL])
      simp only [backL, LRep] at h ⊢
      rw [hbi i hi]; exact h
    | ept i a j =>
      have hi := hk i (by simp [allKeysL])
      simp only [backL, LRep] at h ⊢
      rw [hmi i hi, hbi i hi]
      cases ho : objM os i <;> rw [ho] at h <;> exact h
    | clo g caps =>
      obtain ⟨us, hu, ha⟩ := h
      refine ⟨us, hu, ?_⟩
      clear hu
      have hk' : ∀ c ∈ caps, c.1 < os.length := fun c hc => hk c.1 (by simp only [allKeysL, List.mem_map]; exact ⟨c, hc, rfl⟩)
      clear hk
      induction ha with
      | nil => exact .nil
      | cons h _ ih =>
        obtain ⟨b, o, hb, hu⟩ := h
        exact .cons ⟨b, o, (hbi _ (hk' _ (List.mem_cons_self ..))).trans hb, hu⟩ (ih fun c hc => hk' c (List.mem_cons_of_mem _ hc))
  -- objects that the callee did not see
  have other : ∀ k, (∀ i, i < os.length → f i ≠ k) → ∀ b o, alive (mc k) = true → bl k = some (b, o) → w'.heap[b]? = w.heap[b]? := fun k hk b o ha hb => by
    refine T.old b (c.mem.blk k b o ha hb).lt fun i o' hai hbi' => ?_
    obtain ⟨j, hj, haj⟩ := alive_sub hai
    rw [blS_get hj] at hbi'
    have haj := (hm1 j).alive haj
    have := c.mem.inj j k b o' o haj ha hbi' hb
    subst this
    have hil := (List.getElem?_eq_some_iff.1 hj).1
    have := hget i hil
    rw [hj] at this; injection this with this
    exact hk i (by omega) this.symm
  have ali : ∀ i, alive (objM os i) = true → i < os.length := fun i h => by
    rcases T.kn i h with ⟨h1, _⟩ | h1
    · have h1 : i < ks.length := h1; omega
    · exact h1
  have halv : ∀ j, alive (mm j) = true → (∃ i, i < os.length ∧ f i = j ∧ alive (objM os i) = true) ∨ ((∀ i, i < os.length → f i ≠ j) ∧ alive (mc j) = true) := fun j hj => by
    rcases cases_ j with ⟨i, hi, rfl⟩ | h
    · rw [hmi i hi, alive_back] at hj; exact .inl ⟨i, hi, rfl, hj⟩
    · rw [hmo j h] at hj; exact .inr ⟨h, hj⟩
  have clash : ∀ i k b o o', i < os.length → alive (objM os i) = true → bl2 i = some (b, o) → (∀ i, i < os.length → f i ≠ k) → alive (mc k) = true → bl k = some (b, o') → False := fun i k b o o' hi ha hb hk hak hbk => by
    rcases T.own i b o ha hb with ⟨i0, o0, ha0, hb0, _⟩ | hge
    · obtain ⟨j, hj, haj⟩ := alive_sub ha0
      rw [blS_get hj] at hb0
      have haj := (hm1 j).alive haj
      have := c.mem.inj j k b o0 o' haj hak hb0 hbk
      subst this
      have hil := (List.getElem?_eq_some_iff.1 hj).1
      have := hget i0 hil
      rw [hj] at this; injection this with this
      exact hk i0 (by omega) this.symm
    · have := (c.mem.blk k b o' hak hbk).lt; omega
  refine ⟨bl', ⟨⟨fun j => ?_, fun j j' b o o' h1 h2 hb hb' => ?_, fun j b o h1 hb q hq => ?_, fun a ha => T.mem.zlt a (hz2 a ha), fun j b o h1 hb => ?_⟩,
    fun k hk => .inl hk, cmp, fun k hk hd => ?_, bls, hzz, zc, T.bsz, T.os, T.tape, T.output, T.size, fun b hb hno => ?_, fun a ha => ?_, fun j b o h1 hb => ?_, fun j h1 => ?_, fun j k hk => ?_⟩, emb⟩
  · rcases cases_ j with ⟨i, hi, rfl⟩ | h
    · rw [hmi i hi]
      have hi' := hob i
      cases ho : objM os i with
      | no => trivial
      | box t cs =>
        rw [ho] at hi'
        obtain ⟨b, o, hb, hsz, hc⟩ := hi'
        refine ⟨b, o, (hbi i hi).trans hb, by rw [List.length_map]; exact hsz, fun q l hl => ?_⟩
        rw [List.getElem?_map] at hl
        obtain ⟨l', hl', rfl⟩ := Option.map_eq_some_iff.1 hl
        obtain ⟨v, hv, hr⟩ := hc q l' hl'
        refine ⟨v, hv, emb _ _ (fun k hk => T.kc i k ?_) hr⟩
        rw [ho]; simp only [objKeys, List.mem_flatMap]
        exact ⟨l', List.mem_of_getElem? hl', hk⟩
      | vec e g xs =>
        rw [ho] at hi'
        obtain ⟨kk, h1, h2, h3⟩ := hi'
        refine ⟨kk, h1, h2, ?_⟩
        rw [hbi i hi]; exact h3
    · rw [hmo j h]
      cases hal : alive (mc j) with
      | false => cases hoj : mc j <;> rw [hoj] at hal <;> first | trivial | exact absurd hal (by simp [alive])
      | true => exact ObjRep.tr (K := K) cmp bls hzz zc T.bsz (hbo j h) (c.kn.ck j) (fun b o hb q v hv => by rw [cell_of_heap (other j h b o hal hb)]; exact hv) (c.mem.obj j)
  · rcases halv j h1 with ⟨i, hi, rfl, ha⟩ | ⟨hno, ha⟩ <;> rcases halv j' h2 with ⟨i', hi', rfl, ha'⟩ | ⟨hno', ha'⟩
    · rw [hbi i hi] at hb; rw [hbi i' hi'] at hb'
      rw [T.mem.inj i i' b o o' ha ha' hb hb']
    · rw [hbi i hi] at hb; rw [hbo j' hno'] at hb'
      exact (clash i j' b o o' hi ha hb hno' ha' hb').elim
    · rw [hbo j hno] at hb; rw [hbi i' hi'] at hb'
      exact (clash i' j b o' o hi' ha' hb' hno ha hb).elim
    · rw [hbo j hno] at hb; rw [hbo j' hno'] at hb'
      exact c.mem.inj j j' b o o' ha ha' hb hb'
  · rcases halv j h1 with ⟨i, hi, rfl, ha⟩ | ⟨hno, ha⟩
    · rw [hbi i hi] at hb
      obtain ⟨h3, h4⟩ := T.mem.sep i b o ha hb q (hz2 _ hq)
      exact ⟨h3, by rw [hmi i hi]; exact mayZ_back h4⟩
    · rw [hbo j hno] at hb
      rw [hmo j hno]
      have hlt := (c.mem.blk j b o ha hb).lt
      rcases hzn _ hq with h3 | h3 | ⟨i, o', hv, hbi'⟩
      · exact c.mem.sep j b o ha hb q h3
      · exact absurd h3 (Nat.not_le.2 hlt)
      · exfalso
        cases hki : ks[i]? with
        | none => rw [subM_none hki] at hv; obtain ⟨e, g, xs, hv⟩ := hv; exact absurd hv (by simp)
        | some k =>
          rw [subM_get hki] at hv
          have hv' := (hm1 k).vec (ren_vec hv)
          rw [blS_get hki] at hbi'
          have hak : alive (mc k) = true := by obtain ⟨e, g, xs, hv'⟩ := hv'; rw [hv']; rfl
          have := c.mem.inj k j b o' o hak ha hbi' hb
          subst this
          have hil := (List.getElem?_eq_some_iff.1 hki).1
          have := hget i hil
          rw [hki] at this; injection this with this
          exact hno i (by omega) this.symm
  · rcases halv j h1 with ⟨i, hi, rfl, ha⟩ | ⟨hno, ha⟩
    · rw [hbi i hi] at hb; exact T.mem.blk i b o ha hb
    · rw [hbo j hno] at hb
      exact (c.mem.blk j b o ha hb).of_heap (other j hno b o ha hb)
  · rcases ofK k hk with ⟨i, hi, rfl, hg⟩ | h
    · rw [hmi i (by omega), alive_back]
      refine T.dead i hi ?_
      rw [subM_get hg, alive_ren]; exact (hm1 _).dead hd
    · rw [hmo k h]; exact hd
  · refine T.old b hb fun i o' hai hbi' => ?_
    obtain ⟨j, hj, haj⟩ := alive_sub hai
    rw [blS_get hj] at hbi'
    have haj := (hm1 j).alive haj
    exact hno j o' haj hbi'
  · rcases hzn a ha with h3 | h3 | ⟨i, o', hv, hbi'⟩
    · exact .inl h3
    · exact .inr (.inl h3)
    · cases hki : ks[i]? with
      | none => rw [subM_none hki] at hv; obtain ⟨e, g, xs, hv⟩ := hv; exact absurd hv (by simp)
      | some k =>
        rw [subM_get hki] at hv
        rw [blS_get hki] at hbi'
        exact .inr (.inr ⟨k, o', (hm1 k).vec (ren_vec hv), hbi'⟩)
  · rcases halv j h1 with ⟨i, hi, rfl, ha⟩ | ⟨hno, ha⟩
    · rw [hbi i hi] at hb
      rcases T.own i b o ha hb with ⟨i0, o0, ha0, hb0, himp⟩ | hge
      · obtain ⟨k, hk, hak⟩ := alive_sub ha0
        rw [blS_get hk] at hb0
        have hak := (hm1 k).alive hak
        refine .inl ⟨k, o0, hak, hb0, fun hv => ?_⟩
        rw [hmi i hi] at hv
        have := himp (vec_back hv)
        rw [subM_get hk] at this
        exact (hm1 k).vec (ren_vec this)
      · exact .inr hge
    · rw [hbo j hno] at hb
      exact .inl ⟨j, o, ha, hb, fun hv => by rw [hmo j hno] at hv; exact hv⟩
  · rcases halv j h1 with ⟨i, hi, rfl, ha⟩ | ⟨hno, ha⟩
    · right
      rcases hfin i hi with ⟨_, h2⟩ | ⟨_, _, h2, h3⟩
      · exact .inl (hksK _ h2)
      · exact .inr ⟨h2, h3⟩
    · exact .inl ⟨c.kn.al j ha, ha⟩
  · rcases cases_ j with ⟨i, hi, rfl⟩ | h
    · rw [hmi i hi] at hk
      have : ∃ q, q < os.length ∧ k = f q := by
        cases ho : objM os i with
        | box t cs =>
          rw [ho] at hk
          simp only [backObj, objKeys, List.mem_flatMap, List.mem_map] at hk
          obtain ⟨l, ⟨x, hx, rfl⟩, hk⟩ := hk
          obtain ⟨q, hq, e⟩ := backL_keys hk
          refine ⟨q, T.kc i q ?_, e⟩
          rw [ho]; simp only [objKeys, List.mem_flatMap]; exact ⟨x, hx, hq⟩
        | _ => rw [ho] at hk; simp [backObj, objKeys] at hk
      obtain ⟨q, hq, rfl⟩ := this
      rcases hfin q hq with ⟨_, h2⟩ | ⟨_, _, h2, h3⟩
      · exact .inl (hksK _ h2)
      · exact .inr ⟨h2, h3⟩
    · rw [hmo j h] at hk
      exact .inl (c.kn.ck j k hk)

end
end Go.Ev

namespace Go.Ev
open Go Go.RowKit

section
variable {P : Program} {K : Nat → Prop} {w : World} {Z : Addr → Prop} {bl : Bl} {m : Nat → Obj}

/-- A heap of which some is hidden. -/
theorem LRep.hide {m1 : Nat → Obj} (h : ∀ k, Hid (m k) (m1 k)) {x : SL} {v : Value} (hx : LRep P w Z bl m x v) : LRep P w Z bl m1 x v := by
  cases x with
  | vr k =>
    have hc := hx.isCell (by simp)
    simp only [LRep] at hx ⊢
    rcases h k with h | h | ⟨e, f, f', xs, h1, h2⟩
    · rw [h]; exact hc
    · rw [h]; exact hx
    · rw [h2]; rw [h1] at hx; exact hx
  | vs k o l =>
    have hc := hx.isCell (by simp)
    simp only [LRep] at hx ⊢
    rcases h k with h | h | ⟨e, f, f', xs, h1, h2⟩
    · rw [h]; exact hc
    · rw [h]; exact hx
    · rw [h2]; rw [h1] at hx; exact hx
  | ept k i j =>
    simp only [LRep] at hx ⊢
    have hp : ∃ b q, v = .pointer (some ⟨b, q, none⟩) := by
      split at hx
      · obtain ⟨b, o, _, hp⟩ := hx; exact ⟨_, _, hp⟩
      · exact hx
    rcases h k with h | h | ⟨e, f, f', xs, h1, h2⟩
    · rw [h]; exact hp
    · rw [h]; exact hx
    · rw [h2]; rw [h1] at hx; exact hx
  | _ => exact hx

theorem leaves_hide {m1 : Nat → Obj} (h : ∀ k, Hid (m k) (m1 k)) {xs : List SL} {us : List Value} (hx : All2 (LRep P w Z bl m) xs us) : All2 (LRep P w Z bl m1) xs us := by
  induction hx with
  | nil => exact .nil
  | cons a _ ih => exact .cons (a.hide h) ih

theorem SVRep.hide {m1 : Nat → Obj} (h : ∀ k, Hid (m k) (m1 k)) {x : SV} {v : Value} (hx : SVRep P w Z bl m x v) : SVRep P w Z bl m1 x v := by
  cases x with
  | one x => exact LRep.hide h hx
  | agg xs => obtain ⟨us, hu, ha⟩ := hx; exact ⟨us, hu, leaves_hide h ha⟩
  | tup vs =>
    obtain ⟨us, hu, ha⟩ := hx
    refine ⟨us, hu, ?_⟩
    clear hu
    induction ha with
    | nil => exact .nil
    | cons h' _ ih =>
      obtain ⟨cs, h1, h2⟩ := h'
      exact .cons ⟨cs, leaves_hide h h1, h2⟩ ih

/-- Hidden objects change nothing (marks as they were). -/
theorem MemInv.hide (h : MemInv P w Z bl m) {m1 : Nat → Obj} (hm : ∀ k, m1 k = .no ∨ m1 k = m k) : MemInv P w Z bl m1 := by
  have hid : ∀ k, Hid (m k) (m1 k) := fun k => (hm k).imp id fun e => .inl e
  have al : ∀ k, alive (m1 k) = true → m1 k = m k ∧ alive (m k) = true := fun k hk => by
    rcases hm k with e | e
    · rw [e] at hk; exact absurd hk (by simp [alive])
    · exact ⟨e, e ▸ hk⟩
  refine ⟨fun k => ?_, fun k k' b o o' h1 h2 => h.inj k k' b o o' (al k h1).2 (al k' h2).2, fun k b o h1 hb q hq => ?_, h.zlt, fun k b o h1 => h.blk k b o (al k h1).2⟩
  · rcases hm k with e | e
    · rw [e]; trivial
    · rw [e]
      have := h.obj k
      cases hk : m k with
      | no => trivial
      | box t cs =>
        rw [hk] at this
        obtain ⟨b, o, hb, hsz, hc⟩ := this
        exact ⟨b, o, hb, hsz, fun i l hl => by obtain ⟨v, hv, hr⟩ := hc i l hl; exact ⟨v, hv, hr.hide hid⟩⟩
      | vec e' f xs => rw [hk] at this; exact this
  · rw [(al k h1).1]; exact h.sep k b o (al k h1).2 hb q hq

/-! ### Freezing, as text -/

theorem frzL_writes {m1 : Nat → Obj} {k : CK} {x : SL} {d : DL} {ws : List (Nat × Obj)} (h : frzL m1 k x = some (d, ws)) : ∀ p ∈ ws, ∃ e f xs, m1 p.1 = .vec e f xs ∧ p.2 = .vec e true xs := by
  cases x with
  | d z =>
    simp only [frzL] at h
    cases hf : k.fits z with
    | false => rw [hf] at h; simp at h
    | true => rw [hf] at h; simp at h; rw [h.2]; simp
  | nil => cases k <;> simp [frzL] at h; rw [h.2]; simp
  | vr j =>
    cases k with
    | slice e =>
      simp only [frzL] at h
      split at h
      · rename_i e' f xs hj
        split at h
        · rename_i hee; subst hee
          simp only [Option.some.injEq, Prod.mk.injEq] at h
          rw [← h.2]; intro p hp; simp at hp; subst hp; exact ⟨_, _, _, hj, rfl⟩
        · exact absurd h (by simp)
      · exact absurd h (by simp)
    | _ => simp [frzL] at h
  | vs j o l =>
    cases k with
    | slice e =>
      simp only [frzL] at h
      split at h
      · rename_i e' f xs hj
        split at h
        · rename_i hee; subst hee
          simp only [Option.some.injEq, Prod.mk.injEq] at h
          rw [← h.2]; intro p hp; simp at hp; subst hp; exact ⟨_, _, _, hj, rfl⟩
        · exact absurd h (by simp)
      · exact absurd h (by simp)
    | _ => simp [frzL] at h
  | _ => cases k <;> simp [frzL] at h

theorem Frz.trans {a b c : Obj} (h : Frz a b) (k : Frz b c) : Frz a c := by
  rcases h with rfl | ⟨e, f, f', xs, rfl, rfl⟩
  · exact k
  · rcases k with rfl | ⟨e2, g, g', ys, h1, rfl⟩
    · exact .inr ⟨e, f, f', xs, rfl, rfl⟩
    · injection h1 with h1 _ h2; subst h1; subst h2
      exact .inr ⟨e, f, g', xs, rfl, rfl⟩

/-- Marks that are written. -/
theorem frz_writeAll {m0 : Nat → Obj} : ∀ (ws : List (Nat × Obj)) (m : Nat → Obj), (∀ k, Frz (m0 k) (m k)) → (∀ p ∈ ws, ∃ e f xs, m0 p.1 = .vec e f xs ∧ p.2 = .vec e true xs) → ∀ k, Frz (m0 k) (writeAll m ws k) := by
  intro ws
  induction ws with
  | nil => intro m h _ k; exact h k
  | cons p r ih =>
    intro m h hw k
    obtain ⟨j, o⟩ := p
    refine ih (upd m j o) (fun k => ?_) (fun q hq => hw q (List.mem_cons_of_mem _ hq)) k
    by_cases hk : k = j
    · subst hk
      rw [upd_at]
      obtain ⟨e, f, xs, h1, h2⟩ := hw (k, o) (List.mem_cons_self ..)
      simp only at h1 h2
      exact .inr ⟨e, f, true, xs, h1, h2⟩
    · rw [upd_ne _ _ hk]; exact h k

/-- A heap and what is shown of it, both written. -/
theorem shown_writeAll : ∀ (ws : List (Nat × Obj)) (m m1 : Nat → Obj), (∀ k, m1 k = .no ∨ m1 k = m k) → ∀ k, writeAll m1 ws k = .no ∨ writeAll m1 ws k = writeAll m ws k := by
  intro ws
  induction ws with
  | nil => intro m m1 h k; exact h k
  | cons p r ih =>
    intro m m1 h k
    obtain ⟨j, o⟩ := p
    refine ih (upd m j o) (upd m1 j o) (fun k => ?_) k
    by_cases hk : k = j
    · subst hk; right; rw [upd_at, upd_at]
    · rw [upd_ne _ _ hk, upd_ne _ _ hk]; exact h k

end
end Go.Ev

namespace Go.Ev
open Go Go.RowKit

section
variable {P : Program} {K : Nat → Prop} {w : World} {Z : Addr → Prop} {bl : Bl} {m : Nat → Obj}

/-- Frozen cells, and those of shown variables. -/
def ZS (br : Bool) (sh : List Nat) (m1 : Nat → Obj) (bl : Bl) (Z : Addr → Prop) (a : Addr) : Prop := Z a ∨ (br = false ∧ a.spot = none ∧ ∃ k ∈ sh, (∃ t cs, m1 k = .box t cs) ∧ ∃ o, bl k = some (a.block, o))

theorem LRep.zmono {Z2 : Addr → Prop} (hz : ∀ a, Z a → Z2 a) {x : SL} {v : Value} (h : LRep P w Z bl m x v) : LRep P w Z2 bl m x v :=
  h.tr (K := fun _ => True) (K' := fun _ => True) (fun _ _ => .refl _) (fun _ _ => rfl) hz (fun _ _ => rfl) (fun _ => Nat.le_refl _) (fun _ _ => trivial)

theorem leaves_zmono {Z2 : Addr → Prop} (hz : ∀ a, Z a → Z2 a) {xs : List SL} {us : List Value} (h : All2 (LRep P w Z bl m) xs us) : All2 (LRep P w Z2 bl m) xs us :=
  h.mono fun _ _ h => h.zmono hz

theorem SVRep.zmono {Z2 : Addr → Prop} (hz : ∀ a, Z a → Z2 a) {x : SV} {v : Value} (h : SVRep P w Z bl m x v) : SVRep P w Z2 bl m x v := by
  cases x with
  | one x => exact LRep.zmono hz h
  | agg xs => obtain ⟨us, hu, ha⟩ := h; exact ⟨us, hu, leaves_zmono hz ha⟩
  | tup vs =>
    obtain ⟨us, hu, ha⟩ := h
    exact ⟨us, hu, ha.mono fun _ _ h => by obtain ⟨cs, h1, h2⟩ := h; exact ⟨cs, leaves_zmono hz h1, h2⟩⟩

theorem SVRep.raw {Z' : Addr → Prop} {bl' : Bl} {m' : Nat → Obj} {w' : World} (cmp : ∀ k, K k → Compat (m k) (m' k)) (bls : ∀ k, K k → bl' k = bl k) (zs : ∀ a, Z a → Z' a) (zc : ∀ a, Z a → w'.cell? a = w.cell? a) (bsz : ∀ b, blockSize w b ≤ blockSize w' b)
    {x : SV} (hx : ∀ k ∈ keysSV x, K k) {v : Value} (h : SVRep P w Z bl m x v) : SVRep P w' Z' bl' m' x v := by
  have hl : ∀ {l : List SL} {us : List Value}, (∀ k ∈ l.flatMap allKeysL, K k) → All2 (LRep P w Z bl m) l us → All2 (LRep P w' Z' bl' m') l us := by
    intro l us hk ha
    induction ha with
    | nil => exact .nil
    | cons h t ih =>
      exact .cons (h.tr (K' := K) cmp bls zs zc bsz fun k hk' => hk k (by simp only [List.flatMap_cons, List.mem_append]; exact .inl hk'))
        (ih fun k hk' => hk k (by simp only [List.flatMap_cons, List.mem_append]; exact .inr hk'))
  cases x with
  | one x => exact LRep.tr (K' := K) cmp bls zs zc bsz (fun k hk => hx k (by simpa [keysSV, SV.leaves] using hk)) h
  | agg xs => obtain ⟨us, hu, ha⟩ := h; exact ⟨us, hu, hl (fun k hk => hx k (by simpa [keysSV, SV.leaves] using hk)) ha⟩
  | tup vs =>
    obtain ⟨us, hu, ha⟩ := h
    refine ⟨us, hu, ?_⟩
    have hk : ∀ p ∈ vs, ∀ k ∈ p.2.flatMap allKeysL, K k := fun p hp k hk => hx k (by
      simp only [keysSV, SV.leaves, List.mem_flatMap] at hk ⊢
      obtain ⟨a, ha, hka⟩ := hk
      exact ⟨a, ⟨p, hp, ha⟩, hka⟩)
    clear hu hx
    induction ha with
    | nil => exact .nil
    | cons h t ih =>
      obtain ⟨cs, hc, hr⟩ := h
      exact .cons ⟨cs, hl (hk _ (List.mem_cons_self ..)) hc, hr⟩ (ih fun p hp => hk p (List.mem_cons_of_mem _ hp))

theorem SVRep.all {R S : SV → Value → Prop} : ∀ {l : List SV} {v : List Value}, (∀ x ∈ l, ∀ u, R x u → S x u) → All2 R l v → All2 S l v := by
  intro l v h ha
  induction ha with
  | nil => exact .nil
  | cons a _ ih => exact .cons (h _ (List.mem_cons_self ..) _ a) (ih fun x hx => h x (List.mem_cons_of_mem _ hx))

theorem dataL_map : ∀ (l : List SL) (ds : List DL), dataL l = some ds → l = ds.map .d := by
  intro l
  induction l with
  | nil => intro ds h; simp [dataL] at h; subst h; rfl
  | cons x r ih =>
    intro ds h
    cases x with
    | d x =>
      simp only [dataL, Option.map_eq_some_iff] at h
      obtain ⟨ds', h1, rfl⟩ := h
      rw [ih ds' h1]; rfl
    | _ => simp [dataL] at h

theorem argL_sound (c : Cx P K Z bl m w) {m1 : Nat → Obj} (hm : Shows m1 m) {br : Bool} {sh : List Nat} {k : CK} {x y : SL} {ws : List (Nat × Obj)} {u : Value} (h : argL P m1 br k x = some (y, ws)) (hx : LRep P w Z bl m x u) (hsh : br = false → ∀ j ∈ shownL x, j ∈ sh) :
    ∃ Z', Tr P K K Z bl m w Z' bl (writeAll m ws) w ∧ Shows m1 (writeAll m ws) ∧ (∀ p ∈ ws, ∃ e f xs, m1 p.1 = .vec e f xs ∧ p.2 = .vec e true xs) ∧ LRep P w (ZS br sh m1 bl Z') bl (writeAll m ws) y u ∧ ∀ j ∈ allKeysL y, j ∈ allKeysL x := by
  have same : y = x → ws = [] → ∃ Z', Tr P K K Z bl m w Z' bl (writeAll m ws) w ∧ Shows m1 (writeAll m ws) ∧ (∀ p ∈ ws, ∃ e f xs, m1 p.1 = .vec e f xs ∧ p.2 = .vec e true xs) ∧ LRep P w (ZS br sh m1 bl Z') bl (writeAll m ws) y u ∧ ∀ j ∈ allKeysL y, j ∈ allKeysL x := fun e1 e2 => by
    subst e1; subst e2
    exact ⟨Z, c.refl fun _ h => h, hm, fun p hp => by simp at hp, hx.zmono fun _ h => .inl h, fun j hj => hj⟩
  have frz : ∀ {d : DL} {ws0 : List (Nat × Obj)}, frzL m1 k x = some (d, ws0) → y = .d d → ws = ws0 → ∃ Z', Tr P K K Z bl m w Z' bl (writeAll m ws) w ∧ Shows m1 (writeAll m ws) ∧ (∀ p ∈ ws, ∃ e f xs, m1 p.1 = .vec e f xs ∧ p.2 = .vec e true xs) ∧ LRep P w (ZS br sh m1 bl Z') bl (writeAll m ws) y u ∧ ∀ j ∈ allKeysL y, j ∈ allKeysL x := fun hf e1 e2 => by
    subst e1; subst e2
    obtain ⟨Z', T, hd, hs⟩ := frzL_sound c hm hf hx
    exact ⟨Z', T, hs, frzL_writes hf, ⟨k, hd.mono (fun _ _ => rfl) fun _ h => .inl h⟩, fun j hj => by simp [allKeysL] at hj⟩
  have frz' : ((frzL m1 k x).map fun r => (SL.d r.1, r.2)) = some (y, ws) → ∃ Z', Tr P K K Z bl m w Z' bl (writeAll m ws) w ∧ Shows m1 (writeAll m ws) ∧ (∀ p ∈ ws, ∃ e f xs, m1 p.1 = .vec e f xs ∧ p.2 = .vec e true xs) ∧ LRep P w (ZS br sh m1 bl Z') bl (writeAll m ws) y u ∧ ∀ j ∈ allKeysL y, j ∈ allKeysL x := fun h => by
    obtain ⟨⟨d, ws0⟩, hf, he⟩ := Option.map_eq_some_iff.1 h
    simp only [Prod.mk.injEq] at he
    exact frz hf he.1.symm he.2.symm
  cases x with
  | ptr j o => simp only [argL, Option.some.injEq, Prod.mk.injEq] at h; exact same h.1.symm h.2.symm
  | clo g cs => simp only [argL, Option.some.injEq, Prod.mk.injEq] at h; exact same h.1.symm h.2.symm
  | vr j =>
    simp only [argL] at h
    cases br with
    | true => simp only [cond_true, Option.some.injEq, Prod.mk.injEq] at h; exact same h.1.symm h.2.symm
    | false => exact frz' h
  | vs j o l =>
    simp only [argL] at h
    cases br with
    | true => simp only [cond_true, Option.some.injEq, Prod.mk.injEq] at h; exact same h.1.symm h.2.symm
    | false => exact frz' h
  | asl j o l =>
    simp only [argL] at h
    cases br with
    | true => simp only [cond_true, Option.some.injEq, Prod.mk.injEq] at h; exact same h.1.symm h.2.symm
    | false =>
      simp only [cond_false] at h
      split at h
      · rename_i t cs e hbox
        split at h
        · rename_i hle
          split at h
          · rename_i q hks
            obtain ⟨ds, hds, h⟩ := Option.bind_eq_some_iff.1 h
            cases hall : ds.all q.fits with
            | false => rw [hall] at h; simp at h
            | true =>
              rw [hall] at h
              simp only [cond_true, Option.some.injEq, Prod.mk.injEq] at h
              obtain ⟨rfl, rfl⟩ := h
              have hmk : m j = .box t cs := by have := hm j; rw [hbox] at this; exact this
              obtain ⟨b, o0, hbl, hsz, hc⟩ := boxAt c.mem hmk
              obtain ⟨b', o', hb', A, C, hu, hlC, hA⟩ := hx
              subst hu
              rw [hbl] at hb'; injection hb' with hb'; injection hb' with e1 e2; subst e1; subst e2
              have hd := dataL_map _ _ hds
              have hdl : ds.length = l := by
                have := congrArg List.length hd
                rw [drop_take_len hle, List.length_map] at this; exact this.symm
              have hrow : RowAt P w Z [q] (ds.map fun x => [x]) b (o0 + o) := by
                refine ⟨fun i x hx => ?_, fun i j x kk y hx hkk hy => ?_⟩
                · rw [List.getElem?_map] at hx
                  obtain ⟨z, _, rfl⟩ := Option.map_eq_some_iff.1 hx
                  rfl
                · rw [List.getElem?_map] at hx
                  obtain ⟨z, hz, rfl⟩ := Option.map_eq_some_iff.1 hx
                  have hj0 : j = 0 := by have := (List.getElem?_eq_some_iff.1 hkk).1; simp at this; omega
                  subst hj0
                  simp only [List.getElem?_cons_zero, Option.some.injEq] at hkk hy
                  subst hkk; subst hy
                  have h1 : ((cs.drop o).take l)[i]? = some (.d z) := by rw [hd, List.getElem?_map, hz]; rfl
                  obtain ⟨h2, _⟩ := drop_take_get h1
                  obtain ⟨v, hv, k', hr⟩ := hc _ _ h2
                  refine ⟨v, ?_, ?_⟩
                  · simp only [List.length_singleton, Nat.mul_one, Nat.add_zero]
                    rw [show o0 + o + i = o0 + (o + i) by omega]; exact hv
                  · rw [hr.kind (List.all_eq_true.1 hall z (List.mem_of_getElem? hz))]; exact hr
              have hlm : (ds.map fun x => [x]).length = l := by rw [List.length_map, hdl]
              refine ⟨Z, c.refl fun _ h => h, hm, fun p hp => by simp at hp, ⟨.slice e, ?_⟩, fun j hj => by simp [allKeysL] at hj⟩
              rcases Nat.eq_zero_or_pos l with h0 | h0
              · subst h0
                have : ds = [] := List.eq_nil_of_length_eq_zero hdl
                subst this
                exact .nil _ _ _
              · rw [hA (by omega)]
                have hrow' : RowAt P w (ZS false sh m1 bl Z) [q] (ds.map fun x => [x]) b (o0 + o) := ⟨hrow.1, fun i j x kk y h1 h2 h3 => by
                  obtain ⟨v, hv, hd⟩ := hrow.2 i j x kk y h1 h2 h3
                  exact ⟨v, hv, hd.mono (fun _ _ => rfl) fun _ h => .inl h⟩⟩
                have := drep_of_row (cap := C) hks hrow' (by rw [hlm]; exact hlC) (fun i j' hi hj => .inr ⟨rfl, rfl, j, hsh rfl j (by simp [shownL]), ⟨t, cs, hbox⟩, o0, hbl⟩)
                rwa [hlm] at this
          · exact absurd h (by simp)
        · exact absurd h (by simp)
      · exact absurd h (by simp)
  | d z => exact frz' h
  | nil => exact frz' h
  | ept j a b => exact frz' h
  | rpt e xs i j => exact frz' h
  | un => exact frz' h

theorem writes_app {m1 : Nat → Obj} {a b : List (Nat × Obj)} (ha : ∀ p ∈ a, ∃ e f xs, m1 p.1 = .vec e f xs ∧ p.2 = .vec e true xs) (hb : ∀ p ∈ b, ∃ e f xs, m1 p.1 = .vec e f xs ∧ p.2 = .vec e true xs) :
    ∀ p ∈ a ++ b, ∃ e f xs, m1 p.1 = .vec e f xs ∧ p.2 = .vec e true xs := fun p hp => (List.mem_append.1 hp).elim (ha p) (hb p)

theorem ZS.mono {br : Bool} {sh : List Nat} {m1 : Nat → Obj} {Z2 : Addr → Prop} (h : ∀ a, Z a → Z2 a) : ∀ a, ZS br sh m1 bl Z a → ZS br sh m1 bl Z2 a := fun a ha => ha.imp (h a) id

theorem argCells_sound {m1 : Nat → Obj} {br : Bool} {sh : List Nat} : ∀ {kk : List CK} {xs ys : List SL} {us : List Value} {ws : List (Nat × Obj)} {Z : Addr → Prop} {m : Nat → Obj} (_ : Cx P K Z bl m w) (_ : Shows m1 m) (_ : argCells P m1 br kk xs = some (ys, ws)) (_ : All2 (LRep P w Z bl m) xs us) (_ : ∀ l ∈ xs, ∀ k ∈ allKeysL l, K k) (_ : br = false → ∀ l ∈ xs, ∀ j ∈ shownL l, j ∈ sh),
    ∃ Z', Tr P K K Z bl m w Z' bl (writeAll m ws) w ∧ Shows m1 (writeAll m ws) ∧ (∀ p ∈ ws, ∃ e f xs, m1 p.1 = .vec e f xs ∧ p.2 = .vec e true xs) ∧ All2 (LRep P w (ZS br sh m1 bl Z') bl (writeAll m ws)) ys us ∧ ∀ y ∈ ys, ∀ j ∈ allKeysL y, ∃ x ∈ xs, j ∈ allKeysL x := by
  intro kk
  induction kk with
  | nil =>
    intro xs ys us ws Z m c hm h hx hk hs
    cases xs with
    | nil => simp [argCells] at h; obtain ⟨rfl, rfl⟩ := h; cases hx; exact ⟨Z, c.refl fun _ h => h, hm, fun p hp => by simp at hp, .nil, fun y hy => by simp at hy⟩
    | cons => simp [argCells] at h
  | cons k kk ih =>
    intro xs ys us ws Z m c hm h hx hk hs
    cases xs with
    | nil => simp [argCells] at h
    | cons x xs =>
      simp only [argCells, Option.bind_eq_some_iff, Option.map_eq_some_iff] at h
      obtain ⟨⟨y, ws0⟩, h0, ⟨ys1, ws1⟩, h1, he⟩ := h
      simp only [Prod.mk.injEq] at he
      obtain ⟨rfl, rfl⟩ := he
      cases hx with
      | cons hu hus =>
        obtain ⟨Z0, T0, hm0, hw0, hr0, hk0⟩ := argL_sound c hm (sh := sh) h0 hu (fun e => hs e x (List.mem_cons_self ..))
        obtain ⟨Z1, T1, hm1, hw1, hr1, hk1⟩ := ih T0.toCx hm0 h1 (T0.leaves (fun l hl => hk l (List.mem_cons_of_mem _ hl)) hus) (fun l hl => hk l (List.mem_cons_of_mem _ hl)) (fun e l hl => hs e l (List.mem_cons_of_mem _ hl))
        refine ⟨Z1, by simp only [writeAll_append]; exact T0.trans T1, by simp only [writeAll_append]; exact hm1, writes_app hw0 hw1, ?_, fun y' hy' j hj => ?_⟩
        · simp only [writeAll_append]
          refine .cons ?_ hr1
          exact hr0.tr (K := K) (K' := K) T1.cmp T1.bls (ZS.mono T1.zs) (fun _ _ => rfl) T1.bsz (fun j hj => hk x (List.mem_cons_self ..) j (hk0 j hj))
        · rcases List.mem_cons.1 hy' with rfl | hy'
          · exact ⟨x, List.mem_cons_self .., hk0 j hj⟩
          · obtain ⟨x', hx', h'⟩ := hk1 y' hy' j hj
            exact ⟨x', List.mem_cons_of_mem _ hx', h'⟩

theorem argSV_sound (c : Cx P K Z bl m w) {m1 : Nat → Obj} (hm : Shows m1 m) {br : Bool} {sh : List Nat} {kk : List CK} {x y : SV} {ws : List (Nat × Obj)} {u : Value} (h : argSV P m1 br kk x = some (y, ws)) (hx : SVRep P w Z bl m x u) (hk : ∀ k ∈ keysSV x, K k) (hsh : br = false → ∀ l ∈ x.leaves, ∀ j ∈ shownL l, j ∈ sh) :
    ∃ Z', Tr P K K Z bl m w Z' bl (writeAll m ws) w ∧ Shows m1 (writeAll m ws) ∧ (∀ p ∈ ws, ∃ e f xs, m1 p.1 = .vec e f xs ∧ p.2 = .vec e true xs) ∧ SVRep P w (ZS br sh m1 bl Z') bl (writeAll m ws) y u ∧ ∀ j ∈ keysSV y, j ∈ keysSV x := by
  cases x with
  | one x =>
    simp only [argSV, Option.bind_eq_some_iff] at h
    obtain ⟨⟨ys, ws0⟩, h0, h⟩ := h
    split at h
    · rename_i y' hy
      simp only at hy; subst hy
      simp only [Option.some.injEq, Prod.mk.injEq] at h
      obtain ⟨rfl, rfl⟩ := h
      obtain ⟨Z', T, h1, h2, h3, h4⟩ := argCells_sound (sh := sh) c hm h0 (.cons hx .nil) (fun l hl k hk' => by simp at hl; subst hl; exact hk k (by simpa [keysSV, SV.leaves] using hk')) (fun e l hl => hsh e l (by simpa [SV.leaves] using hl))
      cases h3 with
      | cons h3 _ => exact ⟨Z', T, h1, h2, h3, fun j hj => by
          obtain ⟨x', hx', h'⟩ := h4 y' (by simp) j (by simpa [keysSV, SV.leaves] using hj)
          simp at hx'; subst hx'
          simpa [keysSV, SV.leaves] using h'⟩
    · exact absurd h (by simp)
  | agg xs =>
    simp only [argSV, Option.map_eq_some_iff] at h
    obtain ⟨⟨ys, ws0⟩, h0, h⟩ := h
    simp only [Prod.mk.injEq] at h
    obtain ⟨rfl, rfl⟩ := h
    obtain ⟨us, hu, ha⟩ := hx
    obtain ⟨Z', T, h1, h2, h3, h4⟩ := argCells_sound (sh := sh) c hm h0 ha (fun l hl k hk' => hk k (by simp only [keysSV, SV.leaves, List.mem_flatMap]; exact ⟨l, hl, hk'⟩)) hsh
    refine ⟨Z', T, h1, h2, ⟨us, hu, h3⟩, fun j hj => ?_⟩
    simp only [keysSV, SV.leaves, List.mem_flatMap] at hj ⊢
    obtain ⟨l, hl, hj⟩ := hj
    exact h4 l hl j hj
  | tup vs => simp [argSV] at h

theorem argAll_sound {m1 : Nat → Obj} {br : Bool} {sh : List Nat} : ∀ {ps : List (Option (List CK))} {xs ys : List SV} {us : List Value} {ws : List (Nat × Obj)} {Z : Addr → Prop} {m : Nat → Obj} (_ : Cx P K Z bl m w) (_ : Shows m1 m) (_ : argAll P m1 br ps xs = some (ys, ws)) (_ : All2 (SVRep P w Z bl m) xs us) (_ : ∀ x ∈ xs, ∀ k ∈ keysSV x, K k) (_ : br = false → ∀ x ∈ xs, ∀ l ∈ x.leaves, ∀ j ∈ shownL l, j ∈ sh),
    ∃ Z', Tr P K K Z bl m w Z' bl (writeAll m ws) w ∧ Shows m1 (writeAll m ws) ∧ (∀ p ∈ ws, ∃ e f xs, m1 p.1 = .vec e f xs ∧ p.2 = .vec e true xs) ∧ All2 (SVRep P w (ZS br sh m1 bl Z') bl (writeAll m ws)) ys us ∧ ∀ y ∈ ys, ∀ j ∈ keysSV y, ∃ x ∈ xs, j ∈ keysSV x := by
  intro ps
  induction ps with
  | nil =>
    intro xs ys us ws Z m c hm h hx hk hs
    cases xs with
    | nil => simp [argAll] at h; obtain ⟨rfl, rfl⟩ := h; cases hx; exact ⟨Z, c.refl fun _ h => h, hm, fun p hp => by simp at hp, .nil, fun y hy => by simp at hy⟩
    | cons => simp [argAll] at h
  | cons p ps ih =>
    intro xs ys us ws Z m c hm h hx hk hs
    cases p with
    | none => simp [argAll] at h
    | some kk =>
      cases xs with
      | nil => simp [argAll] at h
      | cons x xs =>
        simp only [argAll, Option.bind_eq_some_iff, Option.map_eq_some_iff] at h
        obtain ⟨⟨y, ws0⟩, h0, ⟨ys1, ws1⟩, h1, he⟩ := h
        simp only [Prod.mk.injEq] at he
        obtain ⟨rfl, rfl⟩ := he
        cases hx with
        | cons hu hus =>
          obtain ⟨Z0, T0, hm0, hw0, hr0, hk0⟩ := argSV_sound c hm (sh := sh) h0 hu (hk x (List.mem_cons_self ..)) (fun e => hs e x (List.mem_cons_self ..))
          have hus' := SVRep.all (S := SVRep P w Z0 bl (writeAll m ws0)) (fun x' hx' u' h' => SVRep.tr T0 (hk x' (List.mem_cons_of_mem _ hx')) h') hus
          obtain ⟨Z1, T1, hm1, hw1, hr1, hk1⟩ := ih T0.toCx hm0 h1 hus' (fun x hx => hk x (List.mem_cons_of_mem _ hx)) (fun e x hx => hs e x (List.mem_cons_of_mem _ hx))
          refine ⟨Z1, by simp only [writeAll_append]; exact T0.trans T1, by simp only [writeAll_append]; exact hm1, writes_app hw0 hw1, ?_, fun y' hy' j hj => ?_⟩
          · simp only [writeAll_append]
            exact .cons (SVRep.raw T1.cmp T1.bls (ZS.mono T1.zs) (fun _ _ => rfl) T1.bsz (fun j hj => hk x (List.mem_cons_self ..) j (hk0 j hj)) hr0) hr1
          · rcases List.mem_cons.1 hy' with rfl | hy'
            · exact ⟨x, List.mem_cons_self .., hk0 j hj⟩
            · obtain ⟨x', hx', h'⟩ := hk1 y' hy' j hj
              exact ⟨x', List.mem_cons_of_mem _ hx', h'⟩

end
end Go.Ev

namespace Go.Ev
open Go Go.RowKit

def retV : List Value → Value
  | [v] => v
  | l => .tuple l.toArray

/-- What a call of a function does, from one state to another. -/
structure CallOk (P : Program) (g : FuncId) (c c' : CSt) : Prop where
  enter : ∀ w as, (callFunc g as).run P w = .ok (.enter g as) w
  run : ∀ (w : World) (Z : Addr → Prop) (bl : Bl) (us : List Value), GlobOk P w Z → MemInv P w Z bl (objM c.2) → Known (· < c.2.length) (objM c.2) → (∀ v ∈ c.1, ∀ k ∈ keysSV v, k < c.2.length) → All2 (SVRep P w Z bl (objM c.2)) c.1 us →
    Calls P g us.toArray w fun e w' => ∃ rs Z' bl', e = .returned (retV rs) ∧ Tr P (· < c.2.length) (· < c'.2.length) Z bl (objM c.2) w Z' bl' (objM c'.2) w' ∧ All2 (SVRep P w' Z' bl' (objM c'.2)) c'.1 rs ∧ (∀ v ∈ c'.1, ∀ k ∈ keysSV v, k < c'.2.length) ∧ ∀ v ∈ c'.1, v.known = true

def OracleOk (P : Program) (F : Oracle) : Prop := ∀ g c c', F.ask g c some = some c' → CallOk P g c c'

section
variable {P : Program} {K : Nat → Prop} {w : World} {Z : Addr → Prop} {bl : Bl} {m : Nat → Obj}

theorem DRep.flat {Z2 : Addr → Prop} {k : CK} {x : DL} {v : Value} (h : DRep P w Z k x v) (hf : SL.flat (.d x) = true) : DRep P w Z2 k x v := by
  cases h with
  | int k n => exact .int k n
  | bool b => exact .bool b
  | str s => exact .str s
  | fn f => exact .fn f
  | nil => simp [SL.flat] at hf
  | lst => simp [SL.flat] at hf

theorem LRep.flat {Z2 : Addr → Prop} {x : SL} {v : Value} (h : LRep P w Z bl m x v) (hf : x.flat = true) : LRep P w Z2 bl m x v := by
  cases x with
  | d x => obtain ⟨k, h⟩ := h; exact ⟨k, h.flat hf⟩
  | rpt e xs i j => simp [SL.flat] at hf
  | _ => exact h

theorem leaves_flat {Z2 : Addr → Prop} {xs : List SL} {us : List Value} (h : All2 (LRep P w Z bl m) xs us) (hf : xs.all SL.flat = true) : All2 (LRep P w Z2 bl m) xs us := by
  induction h with
  | nil => exact .nil
  | cons a _ ih =>
    simp only [List.all_cons, Bool.and_eq_true] at hf
    exact .cons (a.flat hf.1) (ih hf.2)

theorem SVRep.flat {Z2 : Addr → Prop} {x : SV} {v : Value} (h : SVRep P w Z bl m x v) (hf : x.leaves.all SL.flat = true) : SVRep P w Z2 bl m x v := by
  cases x with
  | one x => exact LRep.flat h (by simpa [SV.leaves] using hf)
  | agg xs => obtain ⟨us, hu, ha⟩ := h; exact ⟨us, hu, leaves_flat ha hf⟩
  | tup vs =>
    obtain ⟨us, hu, ha⟩ := h
    refine ⟨us, hu, ?_⟩
    clear hu
    induction ha with
    | nil => exact .nil
    | cons a _ ih =>
      obtain ⟨cs, h1, h2⟩ := a
      simp only [SV.leaves, List.flatMap_cons, List.all_append, Bool.and_eq_true] at hf
      exact .cons ⟨cs, leaves_flat h1 hf.1, h2⟩ (ih hf.2)

theorem ObjRep.flat {Z2 : Addr → Prop} {k : Nat} {ob : Obj} (h : ObjRep P w Z bl m k ob) (hf : ob.flat P = true) : ObjRep P w Z2 bl m k ob := by
  cases ob with
  | no => trivial
  | box t cs =>
    obtain ⟨b, o, hb, hsz, hc⟩ := h
    refine ⟨b, o, hb, hsz, fun i l hl => ?_⟩
    obtain ⟨v, hv, hr⟩ := hc i l hl
    exact ⟨v, hv, hr.flat (List.all_eq_true.1 hf l (List.mem_of_getElem? hl))⟩
  | vec e f xs =>
    obtain ⟨ks, h1, h2, h3⟩ := h
    refine ⟨ks, h1, h2, ?_⟩
    simp only [Obj.flat, h1] at hf
    split
    · rename_i hb; rw [hb] at h3; exact h3
    · rename_i b o hb
      rw [hb] at h3
      refine ⟨h3.1, fun i j x kk y a1 a2 a3 => ?_⟩
      obtain ⟨v, hv, hd⟩ := h3.2 i j x kk y a1 a2 a3
      have hk := List.all_eq_true.1 hf kk (List.mem_of_getElem? a2)
      refine ⟨v, hv, hd.flat ?_⟩
      cases hd <;> first | rfl | exact absurd hk (by simp [CK.noRow])

/-- More frozen cells, none of them an object's. -/
theorem MemInv.widen (h : MemInv P w Z bl m) {Z2 : Addr → Prop} (hz : ∀ a, Z a → Z2 a) (hz2 : ∀ a, Z2 a → Z a ∨ (a.block < w.heap.size ∧ a.spot = none ∧ ∀ k o, alive (m k) = true → bl k = some (a.block, o) → False)) : MemInv P w Z2 bl m := by
  refine ⟨fun k => ?_, h.inj, fun k b o ha hb q hq => ?_, fun a ha => ?_, h.blk⟩
  · exact ObjRep.tr (K := fun _ => True) (fun _ _ => .refl _) (fun _ _ => rfl) hz (fun _ _ => rfl) (fun _ => Nat.le_refl _) rfl (fun _ _ => trivial) (fun _ _ _ _ _ h => h) (h.obj k)
  · rcases hz2 _ hq with h1 | ⟨_, _, h1⟩
    · exact h.sep k b o ha hb q h1
    · exact (h1 k o ha hb).elim
  · rcases hz2 a ha with h1 | ⟨h1, h2, _⟩
    · exact h.zlt a h1
    · exact ⟨h1, h2⟩

theorem SVRep.back {Z' : Addr → Prop} {bl' : Bl} {m' : Nat → Obj} {f : Nat → Nat} {n : Nat} (emb : ∀ x v, (∀ k ∈ allKeysL x, k < n) → LRep P w Z bl m x v → LRep P w Z' bl' m' (backL f x) v)
    {x : SV} (hx : ∀ k ∈ keysSV x, k < n) {v : Value} (h : SVRep P w Z bl m x v) : SVRep P w Z' bl' m' (backSV f x) v := by
  have hl : ∀ {l : List SL} {us : List Value}, (∀ x ∈ l, ∀ k ∈ allKeysL x, k < n) → All2 (LRep P w Z bl m) l us → All2 (LRep P w Z' bl' m') (l.map (backL f)) us := by
    intro l us hk ha
    induction ha with
    | nil => exact .nil
    | cons a _ ih => exact .cons (emb _ _ (hk _ (List.mem_cons_self ..)) a) (ih fun x hx => hk x (List.mem_cons_of_mem _ hx))
  cases x with
  | one x => exact emb _ _ (fun k hk => hx k (by simpa [keysSV, SV.leaves] using hk)) h
  | agg xs => obtain ⟨us, hu, ha⟩ := h; exact ⟨us, hu, hl (fun x hx' k hk => hx k (by simp only [keysSV, SV.leaves, List.mem_flatMap]; exact ⟨x, hx', hk⟩)) ha⟩
  | tup vs =>
    obtain ⟨us, hu, ha⟩ := h
    refine ⟨us, hu, ?_⟩
    have hk : ∀ p ∈ vs, ∀ x ∈ p.2, ∀ k ∈ allKeysL x, k < n := fun p hp x hx' k hk => hx k (by simp only [keysSV, SV.leaves, List.mem_flatMap]; exact ⟨x, ⟨p, hp, hx'⟩, hk⟩)
    clear hu hx
    induction ha with
    | nil => exact .nil
    | cons a _ ih =>
      obtain ⟨cs, h1, h2⟩ := a
      exact .cons ⟨cs, hl (hk _ (List.mem_cons_self ..)) h1, h2⟩ (ih fun p hp => hk p (List.mem_cons_of_mem _ hp))

theorem back_known {f : Nat → Nat} {x : SL} : (backL f x).known = x.known := by cases x <;> rfl

theorem known_ne {x : SL} (h : x.known = true) : x ≠ .un := by intro e; subst e; simp [SL.known] at h

/-- Several results, as a tuple. -/
theorem tupOf_rep : ∀ {l : List SV} {us : List Value}, (∀ v ∈ l, v.known = true) → All2 (SVRep P w Z bl m) l us →
    All2 (fun (p : Bool × List SL) u => ∃ cs : List Value, All2 (LRep P w Z bl m) p.2 cs ∧ (if p.1 then u = .agg cs.toArray else cs = [u] ∧ Value.isCell u = true)) (tupOf l) us := by
  intro l us hk ha
  induction ha with
  | nil => exact .nil
  | cons a _ ih =>
    rename_i v u l us _
    have hv := hk v (List.mem_cons_self ..)
    have ih' := ih fun v hv => hk v (List.mem_cons_of_mem _ hv)
    cases v with
    | one x => exact .cons ⟨[u], .cons a .nil, by simp only [Bool.false_eq_true, if_false, true_and]; exact LRep.isCell (known_ne hv) a⟩ ih'
    | agg xs => obtain ⟨cs, hu, hc⟩ := a; exact .cons ⟨cs, hc, by simpa using hu⟩ ih'
    | tup vs => simp [SV.known] at hv

theorem resOf_rep {l : List SV} {us : List Value} (hk : ∀ v ∈ l, v.known = true) (h : All2 (SVRep P w Z bl m) l us) : SVRep P w Z bl m (resOf l) (retV us) := by
  cases h with
  | nil => exact ⟨[], rfl, .nil⟩
  | cons a t =>
    cases t with
    | nil => exact a
    | cons b t => exact ⟨_, rfl, tupOf_rep hk (.cons a (.cons b t))⟩

theorem tupOf_keys : ∀ {l : List SV} {k : Nat}, k ∈ keysSV (.tup (tupOf l)) → ∃ v ∈ l, k ∈ keysSV v := by
  intro l
  induction l with
  | nil => intro k h; simp [keysSV, SV.leaves, tupOf] at h
  | cons v l ih =>
    intro k h
    have step : ∀ {g : Bool} {xs : List SL}, k ∈ keysSV (.tup ((g, xs) :: tupOf l)) → (∃ x ∈ xs, k ∈ allKeysL x) ∨ k ∈ keysSV (.tup (tupOf l)) := fun h => by
      simp only [keysSV, SV.leaves, List.flatMap_cons, List.flatMap_append, List.mem_append] at h ⊢
      rcases h with h | h
      · left; simpa [List.mem_flatMap] using h
      · exact .inr h
    cases v with
    | one x =>
      rcases step h with ⟨y, hy, h'⟩ | h
      · simp only [List.mem_singleton] at hy; subst hy; exact ⟨_, List.mem_cons_self .., by simpa [keysSV, SV.leaves] using h'⟩
      · obtain ⟨v, hv, h⟩ := ih h; exact ⟨v, List.mem_cons_of_mem _ hv, h⟩
    | agg xs =>
      rcases step h with ⟨y, hy, h⟩ | h
      · exact ⟨_, List.mem_cons_self .., by simp only [keysSV, SV.leaves, List.mem_flatMap]; exact ⟨y, hy, h⟩⟩
      · obtain ⟨v, hv, h⟩ := ih h; exact ⟨v, List.mem_cons_of_mem _ hv, h⟩
    | tup vs =>
      rcases step h with ⟨y, hy, h'⟩ | h
      · simp only [List.mem_singleton] at hy; subst hy; simp [allKeysL] at h'
      · obtain ⟨v, hv, h⟩ := ih h; exact ⟨v, List.mem_cons_of_mem _ hv, h⟩

theorem resOf_keys {l : List SV} {k : Nat} (h : k ∈ keysSV (resOf l)) : ∃ v ∈ l, k ∈ keysSV v := by
  match l, h with
  | [], h => exact tupOf_keys h
  | [v], h => exact ⟨v, List.mem_cons_self .., h⟩
  | a :: b :: r, h => exact tupOf_keys h

theorem backAll_mem {f : Nat → Nat} : ∀ {os : List Obj} {i0 i : Nat}, i < os.length → ∃ o, (f (i0 + i), o) ∈ backAll f i0 os := by
  intro os
  induction os with
  | nil => intro i0 i h; simp at h
  | cons o r ih =>
    intro i0 i h
    cases i with
    | zero => exact ⟨_, List.mem_cons_self ..⟩
    | succ i =>
      obtain ⟨o', ho⟩ := ih (i0 := i0 + 1) (i := i) (by simpa using h)
      exact ⟨o', List.mem_cons_of_mem _ (by rw [show i0 + (i + 1) = i0 + 1 + i by omega]; exact ho)⟩

end
end Go.Ev

namespace Go.Ev
open Go Go.RowKit

section
variable {P : Program} {K : Nat → Prop} {w : World} {Z : Addr → Prop} {bl : Bl} {m : Nat → Obj}

theorem keysObj_eq (o : Obj) : keysObj o = objKeys o := by cases o <;> rfl

theorem reach_sub {m1 : Nat → Obj} {l : List Nat} (h1 : ∀ k ∈ l, K k) (h2 : ∀ k c, c ∈ objKeys (m1 k) → K c) : ∀ k ∈ reach m1 l, K k := by
  intro k hk
  unfold reach at hk
  rcases List.mem_append.1 (mem_dedup.1 hk) with h | h
  · exact h1 k (mem_dedup.1 h)
  · obtain ⟨j, _, h⟩ := List.mem_flatMap.1 h
    rw [keysObj_eq] at h
    exact h2 j k h

theorem hid_keys {a b : Obj} (h : Hid a b) {k : Nat} (hk : k ∈ objKeys b) : k ∈ objKeys a := by
  rcases h with rfl | rfl | ⟨e, f, f', xs, rfl, rfl⟩
  · simp [objKeys] at hk
  · exact hk
  · simp [objKeys] at hk

theorem caps_args {caps : List (Nat × Nat)} {cu : List Value} (hc : All2 (fun (c : Nat × Nat) u => ∃ b o, bl c.1 = some (b, o) ∧ u = .pointer (some ⟨b, o + c.2, none⟩)) caps cu) : All2 (SVRep P w Z bl m) (caps.map fun c => SV.one (.ptr c.1 c.2)) cu := by
  induction hc with
  | nil => exact .nil
  | cons a _ ih => exact .cons a ih

theorem callE_sound (hgl : GlobOk P w Z) (c : Cx P K Z bl m w) {ms : Nat → Obj} (hms : ∀ k, ms k = .no ∨ ms k = m k) {F : Oracle} (hF : OracleOk P F) {key N : Nat} (hfr : ∀ j, key ≤ j → j < N → ¬ K j) {g : FuncId} {caps : List (Nat × Nat)} {vs : List SV} {us cu : List Value} {v : SV} {ws : List (Nat × Obj)}
    (h : callE P F ms key g caps vs some = some (v, ws)) (hr : ∀ p ∈ ws, p.1 < N) (hv : All2 (SVRep P w Z bl m) vs us) (hvk : ∀ x ∈ vs, ∀ k ∈ keysSV x, K k)
    (hc : All2 (fun (c : Nat × Nat) u => ∃ b o, bl c.1 = some (b, o) ∧ u = .pointer (some ⟨b, o + c.2, none⟩)) caps cu) (hck : ∀ p ∈ caps, K p.1) :
    (∀ w as, (callFunc g as).run P w = .ok (.enter g as) w) ∧
    Calls P g (us ++ cu).toArray w fun e w' => ∃ u Z' bl', e = .returned u ∧ Tr P K (Kx K key N) Z bl m w Z' bl' (writeAll m ws) w' ∧ SVRep P w' Z' bl' (writeAll m ws) v u ∧ ∀ k ∈ keysSV v, Kx K key N k := by
  unfold callE at h
  simp only [] at h
  obtain ⟨⟨as, fz⟩, ha, h⟩ := Option.bind_eq_some_iff.1 h
  simp only at h
  generalize hks : reach (writeAll ms fz) (as.flatMap keysSV) = ks at h
  generalize hshd : (bif F.byref g then [] else ((vs ++ caps.map fun c => SV.one (.ptr c.1 c.2)).flatMap SV.leaves).flatMap shownL) = shown at h
  cases hany : shown.any fun k => ks.any (Nat.beq k) with
  | true => rw [hany] at h; exact absurd h (by simp)
  | false =>
  rw [hany] at h
  simp only [cond_false] at h
  rw [F.law] at h
  obtain ⟨⟨rs, os⟩, hask, h⟩ := Option.bind_eq_some_iff.1 h
  simp only at h
  obtain ⟨hent, hrun⟩ := hF g _ _ hask
  refine ⟨hent, ?_⟩
  simp only [List.length_map] at hrun
  -- arguments
  have hShows : Shows ms m := fun k => by
    rcases hms k with e | e
    · rw [e]; trivial
    · rw [e]
      cases hk : m k with
      | no => trivial
      | box t cs => rfl
      | vec e f xs => exact ⟨f, rfl⟩
  have hcaps := caps_args (P := P) (w := w) (Z := Z) (m := m) hc
  have hargs := hv.append hcaps
  have hargk : ∀ x ∈ vs ++ caps.map (fun c => SV.one (.ptr c.1 c.2)), ∀ k ∈ keysSV x, K k := fun x hx k hk => by
    rcases List.mem_append.1 hx with hx | hx
    · exact hvk x hx k hk
    · obtain ⟨p, hp, rfl⟩ := List.mem_map.1 hx
      simp [keysSV, SV.leaves, allKeysL] at hk; subst hk
      exact hck p hp
  have hsh : F.byref g = false → ∀ x ∈ vs ++ caps.map (fun c => SV.one (.ptr c.1 c.2)), ∀ l ∈ x.leaves, ∀ j ∈ shownL l, j ∈ shown := fun hb x hx l hl j hj => by
    rw [← hshd, hb]
    simp only [cond_false, List.mem_flatMap]
    exact ⟨l, ⟨x, hx, hl⟩, hj⟩
  obtain ⟨Z1, T1, _, hw1, hr1, hk1⟩ := argAll_sound (sh := shown) c hShows ha hargs hargk hsh
  -- the heap that is lent
  have hid1 := shown_writeAll fz m ms hms
  have hHid1 : ∀ k, Hid (writeAll m fz k) (writeAll ms fz k) := fun k => (hid1 k).imp id fun e => .inl e
  have hksK : ∀ k ∈ ks, K k := by
    rw [← hks]
    refine reach_sub (fun k hk => ?_) (fun k x hx => T1.known.ck k x (hid_keys (hHid1 k) hx))
    obtain ⟨y, hy, hk⟩ := List.mem_flatMap.1 hk
    obtain ⟨x, hx, hk⟩ := hk1 y hy k hk
    exact hargk x hx k hk
  have hnd : ks.Nodup := by rw [← hks]; exact reach_nodup _ _
  have hboxal : ∀ k, (∃ t cs, ms k = .box t cs) → alive (m k) = true := fun k ⟨t, cs, hk⟩ => by
    rcases hms k with e | e
    · rw [e] at hk; exact absurd hk (by simp)
    · rw [← e, hk]; rfl
  have hsub := (T1.mem.hide hid1).sub hnd
  have hsub2 : MemInv P w (ZS (F.byref g) shown ms bl Z1) (blS ks bl) (subM ks (writeAll ms fz)) := by
    refine hsub.widen (fun _ h => .inl h) fun a ha => ?_
    rcases ha with ha | ⟨_, hsp, k, hkin, hbox, o, hb⟩
    · exact .inl ha
    · right
      have hal := hboxal k hbox
      refine ⟨(c.mem.blk k _ o hal hb).lt, hsp, fun i o' hai hbi => ?_⟩
      obtain ⟨j, hj, haj⟩ := alive_sub hai
      rw [blS_get hj] at hbi
      have haj2 := (hHid1 j).alive haj
      have hmj : alive (m j) = true := by
        cases hmj : alive (m j) with
        | true => rfl
        | false => rw [T1.dead j (hksK j (List.mem_of_getElem? hj)) hmj] at haj2; exact absurd haj2 (by simp)
      have := c.mem.inj k j _ o o' hal hmj hb hbi
      subst this
      have h1 := List.any_eq_false.1 hany k hkin
      exact h1 (List.any_eq_true.2 ⟨k, List.mem_of_getElem? hj, Nat.beq_refl k⟩)
  have hreps : All2 (SVRep P w (ZS (F.byref g) shown ms bl Z1) (blS ks bl) (subM ks (writeAll ms fz))) (as.map (renSV ks)) (us ++ cu) := by
    have : ∀ {l : List SV} {v : List Value}, All2 (SVRep P w (ZS (F.byref g) shown ms bl Z1) bl (writeAll m fz)) l v → All2 (SVRep P w (ZS (F.byref g) shown ms bl Z1) (blS ks bl) (subM ks (writeAll ms fz))) (l.map (renSV ks)) v := by
      intro l v ha
      induction ha with
      | nil => exact .nil
      | cons a _ ih => exact .cons ((SVRep.hide hHid1 a).ren ks) ih
    exact this hr1
  refine Calls.mono (hrun w _ _ _ (hgl.mono (fun _ _ => rfl) fun a ha => .inl (T1.zs a ha)) hsub2 (sub_known ks _) (fun y hy k hk => by obtain ⟨x, _, rfl⟩ := List.mem_map.1 hy; exact renSV_lt hk) hreps) ?_
  rintro e w' ⟨ru, Z2, bl2, rfl, T, hres, hresk, hresn⟩
  -- back
  generalize hfl : (rs.all (fun v => v.leaves.all SL.flat) && os.all (Obj.flat P)) = flat at h
  cases hbad : !flat && !shown.isEmpty with
  | true => rw [hbad] at h; exact absurd h (by simp)
  | false =>
  rw [hbad] at h
  simp only [cond_false, Option.some.injEq, Prod.mk.injEq] at h
  obtain ⟨rfl, rfl⟩ := h
  have hN : ∀ i, ks.length ≤ i → i < os.length → key + (i - ks.length) < N := fun i h1 h2 => by
    obtain ⟨o, ho⟩ := backAll_mem (f := backK ks key) (i0 := 0) h2
    have := hr _ (List.mem_append_right _ ho)
    rw [Nat.zero_add] at this
    rw [backK_ge h1] at this; exact this
  have resK : ∀ k ∈ keysSV (resOf (rs.map (backSV (backK ks key)))), Kx K key N k := fun k hk => by
    obtain ⟨v, hv, hk⟩ := resOf_keys hk
    obtain ⟨v0, hv0, rfl⟩ := List.mem_map.1 hv
    obtain ⟨i, hi, rfl⟩ := backSV_keys hk
    have hin := hresk v0 hv0 i hi
    rcases Nat.lt_or_ge i ks.length with h1 | h1
    · exact .inl (hksK _ (List.mem_of_getElem? (backK_lt h1)))
    · right; rw [backK_ge h1]; exact ⟨by omega, hN i h1 hin⟩
  have knownB : ∀ v ∈ rs.map (backSV (backK ks key)), v.known = true := fun v hv => by
    obtain ⟨v0, hv0, rfl⟩ := List.mem_map.1 hv
    have := hresn v0 hv0
    cases v0 with
    | one x => simpa [backSV, SV.known, back_known] using this
    | agg xs => simpa [backSV, SV.known, back_known] using this
    | tup vs => simp [SV.known] at this
  have repB : ∀ {Z' : Addr → Prop} {bl' : Bl} {mm : Nat → Obj}, (∀ x v, (∀ k ∈ allKeysL x, k < os.length) → LRep P w' Z' bl2 (objM os) x v → LRep P w' Z' bl' mm (backL (backK ks key) x) v) →
      All2 (SVRep P w' Z' bl2 (objM os)) rs ru → SVRep P w' Z' bl' mm (resOf (rs.map (backSV (backK ks key)))) (retV ru) := by
    intro Z' bl' mm emb hre
    refine resOf_rep knownB ?_
    have : ∀ {l : List SV} {v : List Value}, (∀ x ∈ l, ∀ k ∈ keysSV x, k < os.length) → All2 (SVRep P w' Z' bl2 (objM os)) l v → All2 (SVRep P w' Z' bl' mm) (l.map (backSV (backK ks key))) v := by
      intro l v hk ha
      induction ha with
      | nil => exact .nil
      | cons a _ ih => exact .cons (a.back emb (hk _ (List.mem_cons_self ..))) (ih fun x hx => hk x (List.mem_cons_of_mem _ hx))
    exact this hresk hre
  cases flat with
  | true =>
    simp only [Bool.and_eq_true] at hfl
    have hm1 : ∀ k, Hid (m k) (writeAll ms fz k) := fun k => by
      rcases hid1 k with e | e
      · exact .inl e
      · rw [e]
        refine .inr (frz_writeAll fz m (fun k => .refl _) (fun p hp => ?_) k)
        obtain ⟨e, f, xs, h1, h2⟩ := hw1 p hp
        rcases hms p.1 with e' | e'
        · rw [e'] at h1; exact absurd h1 (by simp)
        · exact ⟨e, f, xs, by rw [← e']; exact h1, h2⟩
    obtain ⟨bl', T2, emb⟩ := Tr.embed (Zc' := Z) c hm1 hnd hksK hfr (fun a ha => .inl (T1.zs a ha)) T hN (fun a ha => T.zs a (.inl (T1.zs a ha))) (fun _ h => h) (fun _ h => .inl h) (fun i => by
      rcases Nat.lt_or_ge i os.length with h1 | h1
      · refine (T.mem.obj i).flat ?_
        have : objM os i = os[i] := by simp [objM, List.getD_eq_getElem?_getD, List.getElem?_eq_getElem h1]
        rw [this]; exact List.all_eq_true.1 hfl.2 _ (List.getElem_mem h1)
      · have : objM os i = .no := by simp [objM, List.getD_eq_getElem?_getD, List.getElem?_eq_none h1]
        rw [this]; trivial)
    refine ⟨_, Z, bl', rfl, T2, repB emb ?_, resK⟩
    exact SVRep.all (fun x hx u hu => hu.flat (List.all_eq_true.1 hfl.1 x hx)) hres
  | false =>
    simp only [Bool.not_false, Bool.true_and, Bool.not_eq_false'] at hbad
    have hsh0 : shown = [] := List.isEmpty_iff.1 hbad
    subst hsh0
    have hzs : ∀ a, ZS (F.byref g) [] ms bl Z1 a → Z1 a := fun a ha => by
      rcases ha with ha | ⟨_, _, k, hk, _⟩
      · exact ha
      · simp at hk
    simp only [cond_false, writeAll_append]
    obtain ⟨bl', T2, emb⟩ := Tr.embed (Zc' := Z2) T1.toCx hHid1 hnd hksK hfr (fun a ha => .inl ha) T hN (fun _ h => h) (fun a ha => T.zs a (.inl ha)) (fun a ha => by
      rcases T.zn a ha with h1 | h1 | h1
      · exact .inl (hzs a h1)
      · exact .inr (.inl h1)
      · exact .inr (.inr h1)) (fun i => T.mem.obj i)
    exact ⟨_, Z2, bl', rfl, T1.trans T2, repB emb hres, resK⟩

end
end Go.Ev

namespace Go.Ev
open Go Go.RowKit

/-- The state of a function's run: what it has done since it began, what its slots hold. -/
structure Run (P : Program) (nt nf : Nat) (Z0 : Addr → Prop) (bl0 : Bl) (m0 : Nat → Obj) (w0 : World) (K : Nat → Prop) (s : Nat → SV) (m : Nat → Obj) (Z : Addr → Prop) (bl : Bl) (a : Act) (w : World) : Prop where
  tr : Tr P (· < nf) K Z0 bl0 m0 w0 Z bl m w
  slot : ∀ t, SVRep P w Z bl m (s t) (a.tmps.getD t undef)
  keys : ∀ t, ∀ k ∈ keysSV (s t), K k
  defers : a.defers = []
  tsz : a.tmps.size = nt
  glob : GlobOk P w Z

section
variable {P : Program} {nt nf : Nat} {Z0 : Addr → Prop} {bl0 : Bl} {m0 : Nat → Obj} {w0 : World} {K : Nat → Prop} {s : Nat → SV} {m : Nat → Obj} {Z : Addr → Prop} {bl : Bl} {a : Act} {w : World}

theorem Run.cx (h : Run P nt nf Z0 bl0 m0 w0 K s m Z bl a w) : Cx P K Z bl m w := h.tr.toCx

theorem put_get {dst : Option Tmp} {u : Value} {t : Nat} (hd : ∀ d, dst = some d → d < a.tmps.size) : (a.put dst u).tmps.getD t undef = if dst = some t then u else a.tmps.getD t undef := by
  cases dst with
  | none => simp [Act.put]
  | some d =>
    have hlt := hd d rfl
    simp only [Act.put, Option.some.injEq]
    by_cases h : d = t
    · subst h; simp [hlt]
    · simp only [Array.getD_eq_getD_getElem?, if_neg h]
      rw [Array.getElem?_setIfInBounds_ne h]

theorem Run.step (h : Run P nt nf Z0 bl0 m0 w0 K s m Z bl a w) {K' : Nat → Prop} {Z' : Addr → Prop} {bl' : Bl} {m' : Nat → Obj} {w' : World} {dst : Option Tmp} {v : SV} {u : Value} (T : Tr P K K' Z bl m w Z' bl' m' w') (hv : SVRep P w' Z' bl' m' v u) (hk : ∀ k ∈ keysSV v, K' k) (hd : ∀ d, dst = some d → d < nt) :
    Run P nt nf Z0 bl0 m0 w0 K' (putS s dst v) m' Z' bl' (a.put dst u) w' := by
  have hd' : ∀ d, dst = some d → d < a.tmps.size := fun d e => by rw [h.tsz]; exact hd d e
  have hs : ∀ t, putS s dst v t = if dst = some t then v else s t := fun t => by
    cases dst with
    | none => simp [putS]
    | some d =>
      simp only [putS, Option.some.injEq]
      by_cases e : d = t
      · subst e; rw [upd_at, if_pos rfl]
      · rw [upd_ne _ _ (fun e' => e e'.symm), if_neg e]
  refine ⟨h.tr.trans T, fun t => ?_, fun t k hk' => ?_, ?_, ?_, h.glob.mono T.zc T.zs⟩
  · rw [hs, put_get hd']
    by_cases e : dst = some t
    · rw [if_pos e, if_pos e]; exact hv
    · rw [if_neg e, if_neg e]; exact SVRep.tr T (h.keys t) (h.slot t)
  · rw [hs] at hk'
    by_cases e : dst = some t
    · rw [if_pos e] at hk'; exact hk k hk'
    · rw [if_neg e] at hk'; exact T.kk k (h.keys t k hk')
  · cases dst <;> exact h.defers
  · cases dst with
    | none => exact h.tsz
    | some d => simp [Act.put, h.tsz]

theorem boolAt_val {t : Nat} {b : Bool} (h : boolAt (s t) = some b) {x : Value} (hx : SVRep P w Z bl m (s t) x) : x = .bool b := by
  rw [boolAt_some h] at hx; exact LRep.bool (bl := bl) (m := m) hx

theorem condB_val {c : Operand} {b : Bool} (h : condB s c = some b) (hs : ∀ t, SVRep P w Z bl m (s t) (a.tmps.getD t undef)) : a.eval c = .bool b := by
  cases c with
  | tmp t => exact boolAt_val h (hs t)
  | const v =>
    cases v with
    | bool b' => simp only [condB, Option.some.injEq] at h; subst h; rfl
    | _ => simp [condB] at h
  | global g => simp [condB] at h
  | func f => simp [condB] at h

theorem isUndef_some {v : SV} (h : isUndef v = true) : v = .tup [] := by
  unfold isUndef at h
  split at h
  · rfl
  · exact absurd h (by simp)

theorem undef_rep : SVRep P w Z bl m (.tup []) undef := ⟨[], rfl, .nil⟩

theorem undef_val {v : SV} {x : Value} (h : isUndef v = true) (hx : SVRep P w Z bl m v x) : x = .tuple #[] := by
  rw [isUndef_some h] at hx
  obtain ⟨us, rfl, ha⟩ := hx
  cases ha; rfl

theorem wanted_val {ops : Array Oper} {o : Oper} {b : Bool} (h : wantedE ops o s = some b) (hs : ∀ t, SVRep P w Z bl m (s t) (a.tmps.getD t undef)) : Region.wanted o (yielded ops a.tmps) = b := by
  unfold wantedE at h
  unfold Region.wanted
  cases hg : o.guard with
  | none => rw [hg] at h; simpa using h
  | some jw =>
    obtain ⟨j, want⟩ := jw
    rw [hg] at h
    simp only at h ⊢
    unfold yielded
    cases hd : (ops[j]?).bind (·.dst) with
    | none => rw [hd] at h; exact absurd h (by simp)
    | some t =>
      rw [hd] at h
      simp only at h
      have hst := hs t
      cases hu : isUndef (s t) with
      | true =>
        rw [hu] at h
        simp only [cond_true, Option.some.injEq] at h
        subst h
        have hv := undef_val hu hst
        cases ht : a.tmps[t]? with
        | none => simp [ht]
        | some x =>
          have : a.tmps.getD t undef = x := by simp [Array.getD_eq_getD_getElem?, ht]
          rw [this] at hv
          subst hv
          simp [ht]
      | false =>
        rw [hu] at h
        simp only [cond_false] at h
        obtain ⟨c, hc, rfl⟩ := Option.map_eq_some_iff.1 h
        have hv := boolAt_val (show boolAt (s t) = some c from hc) hst
        cases ht : a.tmps[t]? with
        | none => rw [Array.getD_eq_getD_getElem?, ht] at hv; exact absurd hv (by simp [undef])
        | some x =>
          have : a.tmps.getD t undef = x := by simp [Array.getD_eq_getD_getElem?, ht]
          rw [this] at hv
          subst hv
          simp [ht]

theorem showS_rep {dr : Bool} {o : Oper} (hs : ∀ t, SVRep P w Z bl m (s t) (a.tmps.getD t undef)) (t : Nat) : SVRep P w Z bl m (showS dr o s t) (a.tmps.getD t undef) := by
  unfold showS
  cases dr with
  | false => exact hs t
  | true =>
    show SVRep P w Z bl m (bif (opSlots o).any (Nat.beq t) then s t else .one .un) _
    cases (opSlots o).any (Nat.beq t) with
    | true => exact hs t
    | false => trivial

theorem showS_keys {dr : Bool} {o : Oper} (hk : ∀ t, ∀ k ∈ keysSV (s t), K k) (t : Nat) : ∀ k ∈ keysSV (showS dr o s t), K k := by
  unfold showS
  cases dr with
  | false => exact hk t
  | true =>
    show ∀ k ∈ keysSV (bif (opSlots o).any (Nat.beq t) then s t else .one .un), K k
    cases (opSlots o).any (Nat.beq t) with
    | true => exact hk t
    | false => intro k hk; simp [keysSV, SV.leaves, allKeysL] at hk

theorem showM_or {dr : Bool} {o : Oper} (k : Nat) : showM dr s o m k = .no ∨ showM dr s o m k = m k := by
  unfold showM
  cases dr with
  | false => exact .inr rfl
  | true =>
    show (bif (opKeys s o).any (Nat.beq k) then m k else .no) = .no ∨ (bif (opKeys s o).any (Nat.beq k) then m k else .no) = m k
    cases (opKeys s o).any (Nat.beq k) with
    | true => exact .inr rfl
    | false => exact .inl rfl

theorem showM_alive {dr : Bool} {o : Oper} (k : Nat) (h : alive (showM dr s o m k) = true) : m k = showM dr s o m k := by
  rcases showM_or (m := m) (s := s) (dr := dr) (o := o) k with e | e
  · rw [e] at h; exact absurd h (by simp [alive])
  · exact e.symm

end
end Go.Ev

namespace Go.Ev
open Go Go.RowKit

section
variable {P : Program} {nt nf : Nat} {Z0 : Addr → Prop} {bl0 : Bl} {m0 : Nat → Obj} {w0 : World} {K : Nat → Prop} {s : Nat → SV} {m : Nat → Obj} {Z : Addr → Prop} {bl : Bl} {a : Act} {w : World}

theorem args_rep (hgl : GlobOk P w Z) {s' : Nat → SV} (hs : ∀ t, SVRep P w Z bl m (s' t) (a.tmps.getD t undef)) (l : List Operand) : All2 (SVRep P w Z bl m) (l.map (evO P s')) (l.map a.eval) := by
  induction l with
  | nil => exact .nil
  | cons x r ih => exact .cons (evO_rep hgl hs x) ih

theorem run_resolve_fn {ρ : Operand → Value} {f : Operand} {as : Array Operand} {tys : Array TypeId} {g : FuncId} {cu : Array Value} {ty : TypeId} (hf : ρ f = .func (.func g) #[] cu) (hent : ∀ w as, (callFunc g as).run P w = .ok (.enter g as) w) (w : World) :
    (do let d ← resolve ρ { callee := .value f, args := as, argTypes := tys } ty; invoke d.target d.args : Sem Next).run P w = .ok (.enter g (as.map ρ ++ cu)) w := by
  simp [resolve, Deferred.ofValue, hf, invoke, hent]

set_option maxHeartbeats 1000000 in
/-- One operation of a region. -/
theorem step_sound {F : Oracle} (hF : OracleOk P F) {dr : Bool} {ops : Array Oper} {n0 i : Nat} {o : Oper} {r r' : Rg} (hi : ops[i]? = some o) (hdst : ∀ d, o.dst = some d → d < nt) (h : stepD P F dr ops n0 i o r = some r')
    (hfr : ∀ j, n0 + stride * i ≤ j → j < n0 + stride * (i + 1) → ¬ K j) {Q : Exit → Act → World → Prop} {Kt : Act → World → Prop} (R : Run P nt nf Z0 bl0 m0 w0 K r.s r.m Z bl a w)
    (hK : ∀ a' w' Z' bl', Run P nt nf Z0 bl0 m0 w0 (Kx K (n0 + stride * i) (n0 + stride * (i + 1))) r'.s r'.m Z' bl' a' w' → Kt a' w') : wpOp P ops Q i Kt a w := by
  have hkk : ∀ k, K k → Kx K (n0 + stride * i) (n0 + stride * (i + 1)) k := fun _ h => .inl h
  have hkn : n0 + stride * i < n0 + stride * (i + 1) := by rw [Nat.mul_add]; simp [stride]
  unfold stepD at h
  obtain ⟨b, hw, h⟩ := Option.bind_eq_some_iff.1 h
  have hwant := wanted_val hw R.slot
  unfold wpOp
  simp only [hi]
  rw [hwant]
  cases b with
  | false =>
    simp only [cond_false, Option.some.injEq] at h
    subst h
    simp only [Bool.false_eq_true, if_false]
    exact hK _ _ _ _ (R.step (R.cx.refl hkk) undef_rep (fun k hk => by simp [keysSV, SV.leaves] at hk) hdst)
  | true =>
    simp only [cond_true] at h
    simp only [if_true]
    refine .inl ?_
    obtain ⟨⟨v, ws⟩, ho, h⟩ := Option.bind_eq_some_iff.1 h
    cases hrg : rangeOk n0 i ws with
    | false => rw [hrg] at h; exact absurd h (by simp)
    | true =>
      rw [hrg] at h
      simp only [cond_true, Option.some.injEq] at h
      subst h
      have hr : ∀ p ∈ ws, p.1 < n0 + stride * (i + 1) := fun p hp => by
        have := List.all_eq_true.1 hrg p hp
        simpa [Nat.blt_eq] using this
      have hs' := showS_rep (dr := dr) (o := o) R.slot
      have hk' := showS_keys (dr := dr) (o := o) R.keys
      have hρ : ∀ x, SVRep P w Z bl r.m (evO P (showS dr o r.s) x) (a.eval x) := evO_rep R.glob hs'
      have hkeys : ∀ x, ∀ k ∈ keysSV (evO P (showS dr o r.s) x), K k := evO_keys hk'
      have okn : ∀ {nx : Sem Next}, execOp a.eval o = nx → OkN P K (Kx K (n0 + stride * i) (n0 + stride * (i + 1))) Z bl r.m w nx v ws → o.wp P a w Kt Q := by
        intro nx he hok
        obtain ⟨n, w', Z', bl', hrun, T, hkv, hres⟩ := hok
        unfold Oper.wp
        rw [he, hrun]
        rcases hres with ⟨rfl, rfl⟩ | ⟨u, rfl, hu⟩
        · exact hK _ _ _ _ (R.step T trivial hkv hdst)
        · exact hK _ _ _ _ (R.step T hu hkv hdst)
      have viaExec : (match exec P F.arr (showS dr o r.s) (showM dr r.s o r.m) (n0 + stride * i) o with
          | some (c, v, ws) => bif c then some (v, ws) else none
          | none => none) = some (v, ws) → o.wp P a w Kt Q := by
        intro he
        cases hx : exec P F.arr (showS dr o r.s) (showM dr r.s o r.m) (n0 + stride * i) o with
        | none => rw [hx] at he; exact absurd he (by simp)
        | some x =>
          obtain ⟨c, v', ws'⟩ := x
          rw [hx] at he
          cases c with
          | false => exact absurd he (by simp)
          | true =>
            simp only [cond_true, Option.some.injEq, Prod.mk.injEq] at he
            obtain ⟨rfl, rfl⟩ := he
            exact okn rfl (exec_sound R.cx (fun k hk => showM_alive k hk) hfr hkn hρ hkeys hx hr)
      have call : ∀ {f : Operand} {as : Array Operand} {tys : Array TypeId} {g : FuncId} {caps : List (Nat × Nat)} {cu : List Value}, o.op = .call { callee := .value f, args := as, argTypes := tys } → a.eval f = .func (.func g) #[] cu.toArray →
          All2 (fun (c : Nat × Nat) u => ∃ b o, bl c.1 = some (b, o) ∧ u = .pointer (some ⟨b, o + c.2, none⟩)) caps cu → (∀ p ∈ caps, K p.1) →
          callE P F (showM dr r.s o r.m) (n0 + stride * i) g caps (as.toList.map (evO P (showS dr o r.s))) some = some (v, ws) → o.wp P a w Kt Q := by
        intro f as tys g caps cu hop hf hc hck he
        obtain ⟨hent, hcall⟩ := callE_sound R.glob R.cx (fun k => showM_or k) hF hfr he hr (args_rep R.glob hs' as.toList) (fun x hx k hk => by
          obtain ⟨y, _, rfl⟩ := List.mem_map.1 hx
          exact hkeys y k hk) hc hck
        unfold Oper.wp
        have hex : execOp a.eval o = (do let d ← resolve a.eval { callee := .value f, args := as, argTypes := tys } o.type; invoke d.target d.args) := by
          unfold execOp; rw [hop]
        rw [hex, run_resolve_fn hf hent w, Oper.upon_enter]
        have hargs : as.map a.eval ++ cu.toArray = (as.toList.map a.eval ++ cu).toArray := by apply Array.ext'; simp
        rw [hargs]
        refine Calls.mono hcall ?_
        rintro e w' ⟨u, Z', bl', rfl, T, hu, hku⟩
        exact hK _ _ _ _ (R.step T hu hku hdst)
      unfold stepOut at ho
      simp only at ho
      cases hop : o.op with
      | pick c x y =>
        rw [hop] at ho
        simp only at ho
        obtain ⟨t, ht, ho⟩ := Option.bind_eq_some_iff.1 ho
        simp only [Option.some.injEq, Prod.mk.injEq] at ho
        obtain ⟨rfl, rfl⟩ := ho
        have hcv := condB_val ht R.slot
        unfold Oper.wp
        have hex : (execOp a.eval o).run P w = .ok (.value (bif t then a.eval x else a.eval y)) w := by
          unfold execOp
          rw [hop]
          simp [hcv, asBool]
        rw [hex]
        refine hK _ _ _ _ (R.step (R.cx.refl hkk) ?_ (fun k hk => .inl ?_) hdst)
        · cases t with
          | true => exact evO_rep R.glob R.slot x
          | false => exact evO_rep R.glob R.slot y
        · cases t with
          | true => exact evO_keys R.keys x k hk
          | false => exact evO_keys R.keys y k hk
      | call cl =>
        obtain ⟨callee, as, tys⟩ := cl
        rw [hop] at ho
        cases callee with
        | value f =>
          simp only at ho
          split at ho
          · rename_i g hg
            have hf := hρ f; rw [hg] at hf
            exact call hop (caps := []) (cu := []) (LRep.fn (bl := bl) (m := r.m) hf) .nil (fun p hp => by simp at hp) ho
          · rename_i g caps hg
            have hf := hρ f; rw [hg] at hf
            obtain ⟨cu, hcu, hall⟩ := hf
            have hkf := hkeys f; rw [hg] at hkf
            exact call hop hcu hall (fun p hp => hkf p.1 (by simp only [keysSV, SV.leaves, List.flatMap_cons, List.flatMap_nil, List.append_nil, allKeysL, List.mem_map]; exact ⟨p, hp, rfl⟩)) ho
          · exact absurd ho (by simp)
        | invoke rc mn => simp only at ho; exact viaExec ho
        | builtin bi => simp only at ho; exact viaExec ho
      | _ => rw [hop] at ho; simp only at ho; exact viaExec ho

end
end Go.Ev

namespace Go.Ev
open Go Go.RowKit

section
variable {P : Program} {nt nf : Nat} {Z0 : Addr → Prop} {bl0 : Bl} {m0 : Nat → Obj} {w0 : World} {K : Nat → Prop} {s : Nat → SV} {m : Nat → Obj} {Z : Addr → Prop} {bl : Bl} {a : Act} {w : World}

theorem Run.kmono {K' : Nat → Prop} (h : Run P nt nf Z0 bl0 m0 w0 K s m Z bl a w) (hk : ∀ k, K k → K' k) : Run P nt nf Z0 bl0 m0 w0 K' s m Z bl a w :=
  ⟨h.tr.kmono hk, h.slot, fun t k hk' => hk k (h.keys t k hk'), h.defers, h.tsz, h.glob⟩

def dstsOk (nt : Nat) (ops : Array Oper) : Prop := ∀ (i : Nat) (o : Oper), ops[i]? = some o → ∀ d, o.dst = some d → d < nt

theorem ops_text {F : Oracle} (hF : OracleOk P F) {dr : Bool} {ops : Array Oper} (hd : dstsOk nt ops) {n0 : Nat} {Q : Exit → Act → World → Prop} : ∀ (len i : Nat) (r r' : Rg) (Z : Addr → Prop) (bl : Bl) (a : Act) (w : World), i + len = ops.size →
    opsD P F dr ops n0 i (ops.toList.drop i) r = some r' → Run P nt nf Z0 bl0 m0 w0 (· < n0 + stride * i) r.s r.m Z bl a w →
    (∀ a' w' Z' bl', Run P nt nf Z0 bl0 m0 w0 (· < n0 + stride * ops.size) r'.s r'.m Z' bl' a' w' → Q .normal a' w') → wpOps P ops Q (List.range' i len) a w := by
  intro len
  induction len with
  | zero =>
    intro i r r' Z bl a w hl h R hQ
    have hi : i = ops.size := by omega
    subst hi
    rw [List.drop_of_length_le (by simp)] at h
    simp only [opsD, Option.some.injEq] at h
    subst h
    exact hQ _ _ _ _ R
  | succ len ih =>
    intro i r r' Z bl a w hl h R hQ
    have hlt : i < ops.size := by omega
    have hi : ops[i]? = some ops[i] := Array.getElem?_eq_getElem hlt
    rw [List.drop_eq_getElem_cons (by simpa using hlt)] at h
    simp only [opsD, Array.getElem_toList] at h
    obtain ⟨r1, h1, h2⟩ := Option.bind_eq_some_iff.1 h
    rw [List.range'_succ, wpOps_cons]
    refine step_sound hF hi (hd i _ hi) h1 (fun j hj1 hj2 hj => by omega) R fun a' w' Z' bl' R' => ?_
    refine ih (i + 1) r1 r' Z' bl' a' w' (by omega) h2 (R'.kmono fun k hk => ?_) hQ
    rcases hk with hk | hk
    · rw [Nat.mul_add]; omega
    · exact hk.2

theorem region_text {F : Oracle} (hF : OracleOk P F) {ops : Array Oper} (hd : dstsOk nt ops) {n0 id : Nat} {Q : Exit → Act → World → Prop} {r r' : Rg} (h : opsD P F false ops n0 0 ops.toList r = some r') (R : Run P nt nf Z0 bl0 m0 w0 (· < n0) r.s r.m Z bl a w)
    (hQ : ∀ a' w' Z' bl', Run P nt nf Z0 bl0 m0 w0 (· < n0 + stride * ops.size) r'.s r'.m Z' bl' a' w' → Q .normal a' w') : (Code.region id ops false).wp P Q a w := by
  refine wp_region ?_
  rw [List.range_eq_range']
  exact ops_text hF hd ops.size 0 r r' Z bl a w (by omega) (by simpa using h) (by simpa using R) hQ

end
end Go.Ev

namespace Go.Ev
open Go Go.RowKit

abbrev Foot := List Nat × List Nat

section
variable {P : Program} {F : Oracle} {ops : Array Oper} {n0 : Nat}

/-- What an operation gives, with its footprint. -/
def outF (P : Program) (F : Oracle) (ops : Array Oper) (n0 i : Nat) (o : Oper) (s : Nat → SV) (m : Nat → Obj) : Option (SV × List (Nat × Obj) × Foot) :=
  (wantedE ops o s).bind fun w =>
  bif w then (stepOut P F true n0 i o ⟨s, m, []⟩).bind fun x =>
    bif rangeOk n0 i x.2 then some (x.1, x.2, footOf o s x.2) else none
  else some (.tup [], [], ([], []))

theorem stepD_out {i : Nat} {o : Oper} {r : Rg} : stepD P F true ops n0 i o r = (outF P F ops n0 i o r.s r.m).map fun x => ⟨putS r.s o.dst x.1, writeAll r.m x.2.1, x.2.2 :: r.log⟩ := by
  unfold stepD outF
  cases hw : wantedE ops o r.s with
  | none => rfl
  | some w =>
    cases w with
    | false => rfl
    | true =>
      simp only [Option.bind_some, cond_true]
      have e : stepOut P F true n0 i o r = stepOut P F true n0 i o ⟨r.s, r.m, []⟩ := rfl
      rw [e]
      cases hs : stepOut P F true n0 i o ⟨r.s, r.m, []⟩ with
      | none => rfl
      | some x =>
        simp only [Option.bind_some]
        cases rangeOk n0 i x.2 <;> rfl

theorem mem_any {l : List Nat} {t : Nat} : l.any (Nat.beq t) = true ↔ t ∈ l := by
  rw [List.any_eq_true]
  constructor
  · rintro ⟨x, hx, h⟩; rw [Nat.eq_of_beq_eq_true h]; exact hx
  · intro h; exact ⟨t, h, Nat.beq_refl t⟩

theorem operands_slots {o : Oper} {t : Nat} (h : .tmp t ∈ o.op.operands.toList) : t ∈ opSlots o := by
  unfold opSlots
  exact List.mem_filterMap.2 ⟨.tmp t, h, rfl⟩

theorem evO_congr {P : Program} {o : Oper} {s s' : Nat → SV} (h : ∀ t ∈ opSlots o, s' t = s t) {x : Operand} (hx : x ∈ o.op.operands.toList) : evO P s' x = evO P s x := by
  cases x with
  | tmp t => exact h t (operands_slots hx)
  | _ => rfl

theorem condB_congr {o : Oper} {s s' : Nat → SV} (h : ∀ t ∈ opSlots o, s' t = s t) {x : Operand} (hx : x ∈ o.op.operands.toList) : condB s' x = condB s x := by
  cases x with
  | tmp t => simp only [condB, h t (operands_slots hx)]
  | const v => cases v <;> rfl
  | _ => rfl

theorem showS_congr {o : Oper} {s s' : Nat → SV} (h : ∀ t ∈ opSlots o, s' t = s t) : showS true o s' = showS true o s := by
  funext t
  show (bif (opSlots o).any (Nat.beq t) then s' t else .one .un) = (bif (opSlots o).any (Nat.beq t) then s t else .one .un)
  cases hb : (opSlots o).any (Nat.beq t) with
  | true => exact h t (mem_any.1 hb)
  | false => rfl

theorem opKeys_congr {o : Oper} {s s' : Nat → SV} (h : ∀ t ∈ opSlots o, s' t = s t) : opKeys s' o = opKeys s o := by
  unfold opKeys
  cases looks o.op with
  | false => rfl
  | true =>
    simp only [cond_true]
    congr 2
    refine List.map_congr_left fun x hx => ?_
    cases x with
    | tmp t => exact h t (operands_slots hx)
    | _ => rfl

theorem showM_congr {o : Oper} {s s' : Nat → SV} {m m' : Nat → Obj} (h : ∀ t ∈ opSlots o, s' t = s t) (hm : ∀ k ∈ opKeys s o, m' k = m k) : showM true s' o m' = showM true s o m := by
  funext k
  show (bif (opKeys s' o).any (Nat.beq k) then m' k else .no) = (bif (opKeys s o).any (Nat.beq k) then m k else .no)
  rw [opKeys_congr h]
  cases hb : (opKeys s o).any (Nat.beq k) with
  | true => exact hm k (mem_any.1 hb)
  | false => rfl

theorem lookSlots_op {o : Oper} {t : Nat} (h : t ∈ opSlots o) : t ∈ lookSlots ops o := List.mem_append_left _ h

theorem wantedE_congr {o : Oper} {s s' : Nat → SV} (h : ∀ t ∈ lookSlots ops o, s' t = s t) : wantedE ops o s' = wantedE ops o s := by
  unfold wantedE
  cases hg : o.guard with
  | none => rfl
  | some jw =>
    obtain ⟨j, want⟩ := jw
    simp only
    cases hd : (ops[j]?).bind (·.dst) with
    | none => rfl
    | some t =>
      have ht : t ∈ lookSlots ops o := by
        unfold lookSlots
        rw [hg]
        simp only
        rw [hd]
        exact List.mem_append_right _ (by simp)
      simp only [condB, h t ht]

/-- The memory that an operation looks at, as its footprint tells. -/
theorem outF_congr {i : Nat} {o : Oper} {s s' : Nat → SV} {m m' : Nat → Obj} {x : SV × List (Nat × Obj) × Foot} (h : outF P F ops n0 i o s m = some x) (hs : ∀ t ∈ lookSlots ops o, s' t = s t) (hm : ∀ k ∈ x.2.2.1, m' k = m k) :
    outF P F ops n0 i o s' m' = some x := by
  unfold outF at h ⊢
  rw [wantedE_congr hs]
  obtain ⟨w, hw, h⟩ := Option.bind_eq_some_iff.1 h
  rw [hw]
  simp only [Option.bind_some]
  cases w with
  | false => exact h
  | true =>
    simp only [cond_true] at h ⊢
    obtain ⟨y, hy, h⟩ := Option.bind_eq_some_iff.1 h
    have hso : ∀ t ∈ opSlots o, s' t = s t := fun t ht => hs t (lookSlots_op ht)
    have hk := opKeys_congr hso
    have hfoot : ∀ ws, footOf o s' ws = footOf o s ws := fun ws => by unfold footOf; rw [hk]
    have key : stepOut P F true n0 i o ⟨s', m', []⟩ = stepOut P F true n0 i o ⟨s, m, []⟩ := by
      cases hp : isPick o.op with
      | true =>
        cases hop : o.op with
        | pick c a b =>
          have hc := condB_congr (x := c) hso (by rw [hop]; simp [Op.operands])
          have ha := evO_congr (P := P) (x := a) hso (by rw [hop]; simp [Op.operands])
          have hb := evO_congr (P := P) (x := b) hso (by rw [hop]; simp [Op.operands])
          unfold stepOut
          rw [hop]
          simp only [hc, ha, hb]
        | _ => rw [hop] at hp; exact absurd hp (by simp [isPick])
      | false =>
        have hM : showM true s' o m' = showM true s o m := by
          refine showM_congr hso fun k hkk => hm k ?_
          cases hr : rangeOk n0 i y.2 with
          | false => rw [hr] at h; exact absurd h (by simp)
          | true =>
            rw [hr] at h
            simp only [cond_true, Option.some.injEq] at h
            subst h
            simp only [footOf, hp, cond_false]; exact hkk
        have hS := showS_congr hso
        unfold stepOut
        simp only [hS, hM]
        cases hop : o.op with
        | pick c a b => rw [hop] at hp; exact absurd hp (by simp [isPick])
        | call cl =>
          obtain ⟨callee, as, tys⟩ := cl
          cases callee <;> rfl
        | _ => rfl
    rw [key, hy]
    simp only [Option.bind_some, hfoot]
    exact h

theorem foot_writes {i : Nat} {o : Oper} {s : Nat → SV} {m : Nat → Obj} {x : SV × List (Nat × Obj) × Foot} (h : outF P F ops n0 i o s m = some x) : x.2.1.map (·.1) = x.2.2.2 := by
  unfold outF at h
  obtain ⟨w, hw, h⟩ := Option.bind_eq_some_iff.1 h
  cases w with
  | false => simp only [cond_false, Option.some.injEq] at h; subst h; rfl
  | true =>
    simp only [cond_true] at h
    obtain ⟨y, hy, h⟩ := Option.bind_eq_some_iff.1 h
    cases hr : rangeOk n0 i y.2 with
    | false => rw [hr] at h; exact absurd h (by simp)
    | true =>
      rw [hr] at h
      simp only [cond_true, Option.some.injEq] at h
      subst h
      simp only [footOf]
      cases hp : isPick o.op with
      | false => rfl
      | true =>
        simp only [cond_true]
        cases hop : o.op with
        | pick c a b =>
          unfold stepOut at hy
          rw [hop] at hy
          simp only at hy
          obtain ⟨t, _, hy⟩ := Option.bind_eq_some_iff.1 hy
          simp only [Option.some.injEq] at hy
          subst hy; rfl
        | _ => rw [hop] at hp; exact absurd hp (by simp [isPick])

theorem apartB_spec {x y : Oper} (h : apartB ops x y = true) : (∀ d, x.dst = some d → d ∉ lookSlots ops y ∧ y.dst ≠ some d) ∧ (∀ d, y.dst = some d → d ∉ lookSlots ops x) := by
  unfold apartB at h
  simp only [Bool.and_eq_true] at h
  obtain ⟨h1, h2⟩ := h
  refine ⟨fun d hd => ?_, fun d hd => ?_⟩
  · rw [hd] at h1
    simp only [Bool.and_eq_true, Bool.not_eq_true'] at h1
    refine ⟨fun hm => ?_, fun he => ?_⟩
    · rw [mem_any.2 hm] at h1; exact absurd h1.1 (by simp)
    · rw [he] at h1
      simp only [Bool.not_eq_true'] at h1
      rw [show Nat.beq d d = true from Nat.beq_refl d] at h1
      exact absurd h1.2 (by simp)
  · rw [hd] at h2
    simp only [Bool.not_eq_true'] at h2
    intro hm
    rw [mem_any.2 hm] at h2; exact absurd h2 (by simp)

theorem meets_spec {a b : Foot} (h : meets a b = false) : (∀ k ∈ a.2, k ∉ b.1 ∧ k ∉ b.2) ∧ ∀ k ∈ b.2, k ∉ a.1 := by
  unfold meets at h
  simp only [Bool.or_eq_false_iff, List.any_eq_false] at h
  refine ⟨fun k hk => ?_, fun k hk hm => ?_⟩
  · have := h.1 k hk
    simpa using this
  · have := h.2 k hk
    simp at this; exact this hm

theorem putS_ne {s : Nat → SV} {dst : Option Tmp} {v : SV} {t : Nat} (h : dst ≠ some t) : putS s dst v t = s t := by
  cases dst with
  | none => rfl
  | some d => exact upd_ne _ _ fun e => h (by rw [e])

theorem putS_comm {s : Nat → SV} {d e : Option Tmp} {u v : SV} (h : ∀ x, d = some x → e ≠ some x) : putS (putS s d u) e v = putS (putS s e v) d u := by
  cases d with
  | none => rfl
  | some d =>
    cases e with
    | none => rfl
    | some e => exact upd_comm _ _ _ fun he => h d rfl (by rw [he])

theorem writeAll_upd : ∀ {ws : List (Nat × Obj)} {m : Nat → Obj} {k : Nat} {o : Obj}, (∀ p ∈ ws, p.1 ≠ k) → writeAll (upd m k o) ws = upd (writeAll m ws) k o := by
  intro ws
  induction ws with
  | nil => intro m k o _; rfl
  | cons p r ih =>
    intro m k o h
    obtain ⟨j, q⟩ := p
    show writeAll (upd (upd m k o) j q) r = upd (writeAll (upd m j q) r) k o
    rw [upd_comm _ _ _ (fun e => h (j, q) (List.mem_cons_self ..) e.symm), ih fun p hp => h p (List.mem_cons_of_mem _ hp)]

theorem writeAll_comm : ∀ {a b : List (Nat × Obj)} {m : Nat → Obj}, (∀ p ∈ a, ∀ q ∈ b, p.1 ≠ q.1) → writeAll (writeAll m a) b = writeAll (writeAll m b) a := by
  intro a
  induction a with
  | nil => intro b m _; rfl
  | cons p r ih =>
    intro b m h
    obtain ⟨j, o⟩ := p
    show writeAll (writeAll (upd m j o) r) b = writeAll (upd (writeAll m b) j o) r
    rw [ih fun p hp => h p (List.mem_cons_of_mem _ hp), writeAll_upd fun q hq e => h (j, o) (List.mem_cons_self ..) q hq e.symm]

abbrev SM := (Nat → SV) × (Nat → Obj)

def stepF (P : Program) (F : Oracle) (ops : Array Oper) (n0 i : Nat) (σ : SM) : Option (SM × Foot) :=
  (ops[i]?).bind fun o => (outF P F ops n0 i o σ.1 σ.2).map fun x => ((putS σ.1 o.dst x.1, writeAll σ.2 x.2.1), x.2.2)

/-- Operations that do not meet may be swapped. -/
theorem stepF_swap {i j : Nat} {σ σ1 σ2 : SM} {fi fj : Foot} (hi : stepF P F ops n0 i σ = some (σ1, fi)) (hj : stepF P F ops n0 j σ1 = some (σ2, fj))
    {oi oj : Oper} (ei : ops[i]? = some oi) (ej : ops[j]? = some oj) (hap : apartB ops oi oj = true) (hme : meets fi fj = false) :
    ∃ σ', stepF P F ops n0 j σ = some (σ', fj) ∧ stepF P F ops n0 i σ' = some (σ2, fi) := by
  unfold stepF at hi hj ⊢
  rw [ei] at hi
  rw [ej] at hj
  simp only [Option.bind_some] at hi hj
  obtain ⟨⟨vi, wi, fi'⟩, hoi, he⟩ := Option.map_eq_some_iff.1 hi
  simp only [Prod.mk.injEq] at he
  obtain ⟨rfl, rfl⟩ := he
  obtain ⟨⟨vj, wj, fj'⟩, hoj, he⟩ := Option.map_eq_some_iff.1 hj
  simp only [Prod.mk.injEq] at he
  obtain ⟨rfl, rfl⟩ := he
  obtain ⟨hA, hB⟩ := apartB_spec hap
  obtain ⟨hC, hD⟩ := meets_spec hme
  have hwi := foot_writes hoi
  have hwj := foot_writes hoj
  simp only at hwi hwj hoi hoj
  have hj' : outF P F ops n0 j oj σ.1 σ.2 = some (vj, wj, fj') := by
    refine outF_congr hoj (fun t ht => ?_) fun k hk => ?_
    · rw [putS_ne]; intro e; exact (hA t e).1 ht
    · rw [writeAll_other]; intro p hp e
      exact (hC p.1 (by rw [← hwi]; exact List.mem_map.2 ⟨p, hp, rfl⟩)).1 (e ▸ hk)
  have hi' : outF P F ops n0 i oi (putS σ.1 oj.dst vj) (writeAll σ.2 wj) = some (vi, wi, fi') := by
    refine outF_congr hoi (fun t ht => ?_) fun k hk => ?_
    · rw [putS_ne]; intro e; exact hB t e ht
    · rw [writeAll_other]; intro p hp e
      exact hD p.1 (by rw [← hwj]; exact List.mem_map.2 ⟨p, hp, rfl⟩) (e ▸ hk)
  refine ⟨(putS σ.1 oj.dst vj, writeAll σ.2 wj), ?_, ?_⟩
  · rw [ej]; simp only [Option.bind_some, hj', Option.map_some]
  · rw [ei]
    simp only [Option.bind_some, hi', Option.map_some]
    rw [putS_comm (d := oj.dst) (e := oi.dst) fun x hx he => (hA x he).2 hx, writeAll_comm fun p hp q hq e => (hC q.1 (by rw [← hwi]; exact List.mem_map.2 ⟨q, hq, rfl⟩)).2 (by rw [← e, ← hwj]; exact List.mem_map.2 ⟨p, hp, rfl⟩)]

end
end Go.Ev

namespace Go.Ev
open Go Go.RowKit

section
variable {P : Program} {F : Oracle} {ops : Array Oper} {n0 : Nat}

/-- Operations in a given order, with their footprints. -/
def evalF (P : Program) (F : Oracle) (ops : Array Oper) (n0 : Nat) : List Nat → SM → Option (SM × List Foot)
  | [], σ => some (σ, [])
  | i :: r, σ => (stepF P F ops n0 i σ).bind fun x => (evalF P F ops n0 r x.1).map fun y => (y.1, x.2 :: y.2)

theorem evalF_cons {i : Nat} {r : List Nat} {σ σ' : SM} {fs : List Foot} (h : evalF P F ops n0 (i :: r) σ = some (σ', fs)) : ∃ σ1 f fs', stepF P F ops n0 i σ = some (σ1, f) ∧ evalF P F ops n0 r σ1 = some (σ', fs') ∧ fs = f :: fs' := by
  unfold evalF at h
  obtain ⟨⟨σ1, f⟩, h1, h⟩ := Option.bind_eq_some_iff.1 h
  obtain ⟨⟨σ2, fs'⟩, h2, h⟩ := Option.map_eq_some_iff.1 h
  simp only [Prod.mk.injEq] at h
  obtain ⟨rfl, rfl⟩ := h
  exact ⟨σ1, f, fs', h1, h2, rfl⟩

theorem evalF_mk {i : Nat} {r : List Nat} {σ σ1 σ' : SM} {f : Foot} {fs : List Foot} (h1 : stepF P F ops n0 i σ = some (σ1, f)) (h2 : evalF P F ops n0 r σ1 = some (σ', fs)) : evalF P F ops n0 (i :: r) σ = some (σ', f :: fs) := by
  simp [evalF, h1, h2]

theorem stepF_op {i : Nat} {σ σ' : SM} {f : Foot} (h : stepF P F ops n0 i σ = some (σ', f)) : ∃ o, ops[i]? = some o := by
  unfold stepF at h
  obtain ⟨o, ho, _⟩ := Option.bind_eq_some_iff.1 h
  exact ⟨o, ho⟩

/-- An operation that meets none ahead of it comes first. -/
theorem evalF_front {ft : Nat → Foot} {i : Nat} {post : List Nat} : ∀ {pre : List Nat} {σ σ' : SM}, evalF P F ops n0 (pre ++ i :: post) σ = some (σ', (pre ++ i :: post).map ft) →
    (∀ j ∈ pre, ∀ oj oi, ops[j]? = some oj → ops[i]? = some oi → apartB ops oj oi = true ∧ meets (ft j) (ft i) = false) → evalF P F ops n0 (i :: (pre ++ post)) σ = some (σ', (i :: (pre ++ post)).map ft) := by
  intro pre
  induction pre with
  | nil => intro σ σ' h _; exact h
  | cons j pre ih =>
    intro σ σ' h hok
    obtain ⟨σ1, f, fs, h1, h2, h3⟩ := evalF_cons h
    simp only [List.cons_append, List.map_cons, List.cons.injEq] at h3
    obtain ⟨rfl, rfl⟩ := h3
    have h4 := ih h2 fun j' hj' => hok j' (List.mem_cons_of_mem _ hj')
    obtain ⟨σ2, f2, fs2, h5, h6, h7⟩ := evalF_cons h4
    simp only [List.map_cons, List.cons.injEq] at h7
    obtain ⟨rfl, rfl⟩ := h7
    obtain ⟨oj, ej⟩ := stepF_op h1
    obtain ⟨oi, ei⟩ := stepF_op h5
    obtain ⟨ha, hb⟩ := hok j (List.mem_cons_self ..) oj oi ej ei
    obtain ⟨σ3, h8, h9⟩ := stepF_swap h1 h5 ej ei ha hb
    exact evalF_mk h8 (evalF_mk h9 h6)

/-! ### What comes before -/

theorem befGo_get : ∀ (l : List Oper) (acc : List Nat), (befGo l acc).length = acc.length + l.length ∧ (∀ i, i < acc.length → (befGo l acc)[i]? = acc[i]?) ∧
    ∀ i o, l[i]? = some o → (befGo l acc)[acc.length + i]? = some (befMask ((befGo l acc).take (acc.length + i)) o) := by
  intro l
  induction l with
  | nil => intro acc; exact ⟨rfl, fun i _ => rfl, fun i o h => by simp at h⟩
  | cons o r ih =>
    intro acc
    obtain ⟨h1, h2, h3⟩ := ih (acc ++ [befMask acc o])
    simp only [List.length_append, List.length_cons, List.length_nil] at h1 h2 h3
    refine ⟨by simp only [befGo, List.length_cons]; omega, fun i hi => ?_, fun i o' hi => ?_⟩
    · simp only [befGo]; rw [h2 i (by omega), List.getElem?_append_left hi]
    · cases i with
      | zero =>
        simp only [List.getElem?_cons_zero, Option.some.injEq] at hi
        subst hi
        simp only [befGo, Nat.add_zero]
        rw [h2 acc.length (by omega), List.getElem?_append_right (Nat.le_refl _)]
        simp only [Nat.sub_self, List.getElem?_cons_zero]
        congr 2
        apply List.ext_getElem?
        intro q
        rcases Nat.lt_or_ge q acc.length with hq | hq
        · rw [List.getElem?_take_of_lt hq, h2 q (by omega), List.getElem?_append_left hq]
        · rw [List.getElem?_eq_none hq, List.getElem?_eq_none (by rw [List.length_take]; omega)]
      | succ i =>
        simp only [List.getElem?_cons_succ] at hi
        have := h3 i o' hi
        rw [show acc.length + (0 + 1) + i = acc.length + (i + 1) by omega] at this
        exact this

theorem befMask_bit {acc : List Nat} {o : Oper} {q : Nat} (h : (befMask acc o).testBit q = true) : ∃ e ∈ o.after.toList, Region.binds .any e = true ∧ (e.on = q ∨ (acc.getD e.on 0).testBit q = true) := by
  unfold befMask at h
  have : ∀ (l : List Edge) (s : Nat), (l.foldl (fun s e => bif Region.binds .any e then Nat.lor (Nat.lor s (Nat.shiftLeft 1 e.on)) (acc.getD e.on 0) else s) s).testBit q = true →
      s.testBit q = true ∨ ∃ e ∈ l, Region.binds .any e = true ∧ (e.on = q ∨ (acc.getD e.on 0).testBit q = true) := by
    intro l
    induction l with
    | nil => intro s h; exact .inl h
    | cons e l ih =>
      intro s h
      rw [List.foldl_cons] at h
      rcases ih _ h with h1 | ⟨e', h1, h2⟩
      · cases hb : Region.binds .any e with
        | false => rw [hb] at h1; exact .inl h1
        | true =>
          rw [hb] at h1
          simp only [cond_true] at h1
          have h1' : ((s ||| (1 <<< e.on)) ||| acc.getD e.on 0).testBit q = true := h1
          rw [Nat.testBit_or, Nat.testBit_or] at h1'
          simp only [Bool.or_eq_true] at h1'
          rcases h1' with (h1' | h1') | h1'
          · exact .inl h1'
          · refine .inr ⟨e, List.mem_cons_self .., hb, .inl ?_⟩
            rw [Nat.one_shiftLeft, Nat.testBit_two_pow] at h1'
            simpa using h1'
          · exact .inr ⟨e, List.mem_cons_self .., hb, .inr h1'⟩
      · exact .inr ⟨e', List.mem_cons_of_mem _ h1, h2⟩
  rcases this _ 0 h with h | h
  · simp at h
  · exact h

def bef (ops : Array Oper) (i : Nat) : Nat := (befGo ops.toList []).getD i 0

theorem bef_step {i q : Nat} {o : Oper} (ho : ops[i]? = some o) (h : (bef ops i).testBit q = true) : ∃ e ∈ o.after.toList, Region.binds .any e = true ∧ (e.on = q ∨ (bef ops e.on).testBit q = true) := by
  obtain ⟨_, _, h3⟩ := befGo_get ops.toList []
  have := h3 i o (by rw [Array.getElem?_toList]; exact ho)
  simp only [List.length_nil, Nat.zero_add] at this
  unfold bef at h
  rw [List.getD_eq_getElem?_getD, this] at h
  obtain ⟨e, he, hb, hq⟩ := befMask_bit h
  refine ⟨e, he, hb, hq.imp id fun hq => ?_⟩
  unfold bef
  rw [List.getD_eq_getElem?_getD] at hq ⊢
  rcases Nat.lt_or_ge e.on i with hlt | hge
  · rwa [List.getElem?_take_of_lt hlt] at hq
  · rw [List.getElem?_eq_none (by rw [List.length_take]; omega)] at hq; simp at hq

theorem backOk_spec : ∀ {l : List Oper} {i0 : Nat}, backOk i0 l = true → ∀ (i : Nat) (o : Oper), l[i]? = some o → ∀ e ∈ o.after.toList, Region.binds .any e = true → e.on < i0 + i := by
  intro l
  induction l with
  | nil => intro i0 _ i o h; simp at h
  | cons x l ih =>
    intro i0 h i o hi e he hb
    unfold backOk at h
    simp only [Bool.and_eq_true] at h
    cases i with
    | zero =>
      simp only [List.getElem?_cons_zero, Option.some.injEq] at hi
      subst hi
      have := List.all_eq_true.1 h.1 e he
      rw [hb] at this
      simpa [Nat.blt_eq] using this
    | succ i =>
      simp only [List.getElem?_cons_succ] at hi
      have := ih h.2 i o hi e he hb
      omega

end
end Go.Ev

namespace Go.Ev
open Go Go.RowKit

/-- The keys behind some operations of a region. -/
def Kl (n0 : Nat) (listed : Array Bool) (k : Nat) : Prop := k < n0 ∨ ∃ i, listed.getD i false = true ∧ n0 + stride * i ≤ k ∧ k < n0 + stride * (i + 1)

def leftOf (listed : Array Bool) (n : Nat) : List Nat := (List.range n).filter fun i => !listed.getD i true

theorem mem_left {listed : Array Bool} {n i : Nat} : i ∈ leftOf listed n ↔ i < n ∧ listed.getD i true = false := by
  unfold leftOf
  rw [List.mem_filter, List.mem_range]
  simp

theorem left_sorted (listed : Array Bool) (n : Nat) : (leftOf listed n).Pairwise (· < ·) :=
  List.Pairwise.sublist List.filter_sublist List.pairwise_lt_range

theorem left_set {listed : Array Bool} {n i : Nat} (hs : listed.size = n) {pre post : List Nat} (h : leftOf listed n = pre ++ i :: post) : leftOf (listed.setIfInBounds i true) n = pre ++ post := by
  have hi : i ∈ leftOf listed n := by rw [h]; simp
  have hil := mem_left.1 hi
  have hsort := left_sorted listed n
  rw [h] at hsort
  have hne : ∀ j ∈ pre ++ post, j ≠ i := fun j hj e => by
    subst e
    rw [List.pairwise_append] at hsort
    rcases List.mem_append.1 hj with h1 | h1
    · exact Nat.lt_irrefl _ (hsort.2.2 j h1 j (List.mem_cons_self ..))
    · exact Nat.lt_irrefl _ ((List.pairwise_cons.1 hsort.2.1).1 j h1)
  have e1 : leftOf (listed.setIfInBounds i true) n = (leftOf listed n).filter (fun j => !Nat.beq j i) := by
    unfold leftOf
    rw [List.filter_filter]
    refine List.filter_congr fun j hj => ?_
    by_cases hji : j = i
    · subst hji
      rw [show Nat.beq j j = true from Nat.beq_refl j]
      have : j < listed.size := by rw [hs]; exact hil.1
      simp [this]
    · rw [beq_false hji, getD_set_ne true (fun e => hji e.symm)]; simp
  rw [e1, h, List.filter_append, List.filter_cons, show Nat.beq i i = true from Nat.beq_refl i]
  simp only [Bool.not_true, Bool.false_eq_true, if_false]
  rw [List.filter_eq_self.2 fun j hj => by rw [beq_false (hne j (List.mem_append_left _ hj))]; rfl, List.filter_eq_self.2 fun j hj => by rw [beq_false (hne j (List.mem_append_right _ hj))]; rfl]

section
variable {P : Program} {nt nf : Nat} {Z0 : Addr → Prop} {bl0 : Bl} {m0 : Nat → Obj} {w0 : World} {F : Oracle} {ops : Array Oper} {n0 : Nat} {Q : Exit → Act → World → Prop}

theorem any_sound (hF : OracleOk P F) (hd : dstsOk nt ops) {σ' : SM} {ft : Nat → Foot} (hback : backOk 0 ops.toList = true)
    (hok : ∀ j i, j < ops.size → i < j → (bef ops j).testBit i = true ∨ (∀ oi oj, ops[i]? = some oi → ops[j]? = some oj → apartB ops oi oj = true ∧ meets (ft i) (ft j) = false))
    (hQ : ∀ a' w' Z' bl', Run P nt nf Z0 bl0 m0 w0 (· < n0 + stride * ops.size) σ'.1 σ'.2 Z' bl' a' w' → Q .normal a' w') :
    ∀ (fuel : Nat) (listed : Array Bool) (σ : SM) (Z : Addr → Prop) (bl : Bl) (a : Act) (w : World), listed.size = ops.size → (leftOf listed ops.size).length ≤ fuel →
      (∀ i q, i < ops.size → listed.getD i false = true → (bef ops i).testBit q = true → listed.getD q false = true) →
      evalF P F ops n0 (leftOf listed ops.size) σ = some (σ', (leftOf listed ops.size).map ft) → Run P nt nf Z0 bl0 m0 w0 (Kl n0 listed) σ.1 σ.2 Z bl a w → wpAny P .any ops Q fuel listed a w := by
  intro fuel
  -- nothing ready: nothing left
  have stop : ∀ (listed : Array Bool) (σ : SM) (Z : Addr → Prop) (bl : Bl) (a : Act) (w : World), listed.size = ops.size → Region.ready .any ops listed = [] → evalF P F ops n0 (leftOf listed ops.size) σ = some (σ', (leftOf listed ops.size).map ft) →
      Run P nt nf Z0 bl0 m0 w0 (Kl n0 listed) σ.1 σ.2 Z bl a w → Q .normal a w := by
    intro listed σ Z bl a w hsz hr he R
    cases hl : leftOf listed ops.size with
    | nil =>
      rw [hl] at he
      simp only [evalF, List.map_nil, Option.some.injEq, Prod.mk.injEq, and_true] at he
      subst he
      refine hQ _ _ _ _ (R.kmono fun k hk => ?_)
      rcases hk with hk | ⟨i, hi, _, h2⟩
      · show k < n0 + stride * ops.size; omega
      · have hilt : i < ops.size := by
          rcases Nat.lt_or_ge i listed.size with h | h
          · omega
          · simp [Array.getD, Nat.not_lt.2 h] at hi
        have : stride * (i + 1) ≤ stride * ops.size := Nat.mul_le_mul_left _ hilt
        show k < n0 + stride * ops.size; omega
    | cons i rest =>
      exfalso
      have hi : i ∈ leftOf listed ops.size := by rw [hl]; exact List.mem_cons_self ..
      obtain ⟨hil, hiu⟩ := mem_left.1 hi
      have hready : i ∈ Region.ready .any ops listed := by
        rw [mem_ready]
        refine ⟨hiu, ops[i], Array.getElem?_eq_getElem hil, fun e he hb => ?_⟩
        have hlt := backOk_spec hback i ops[i] (by rw [Array.getElem?_toList]; exact Array.getElem?_eq_getElem hil) e (by simpa using he) hb
        rw [Nat.zero_add] at hlt
        cases hu : listed.getD e.on true with
        | false =>
          have hmem : e.on ∈ leftOf listed ops.size := mem_left.2 ⟨by omega, hu⟩
          rw [hl] at hmem
          have hs := left_sorted listed ops.size
          rw [hl] at hs
          rcases List.mem_cons.1 hmem with h | h
          · omega
          · have := (List.pairwise_cons.1 hs).1 _ h; omega
        | true =>
          have : e.on < listed.size := by omega
          simp [Array.getD, this] at hu ⊢; exact hu
      rw [hr] at hready
      simp at hready
  induction fuel with
  | zero =>
    intro listed σ Z bl a w hsz hlen hcl he R
    have hl : leftOf listed ops.size = [] := List.eq_nil_of_length_eq_zero (by omega)
    have hr : Region.ready .any ops listed = [] := by
      apply List.eq_nil_iff_forall_not_mem.2
      intro i hi
      obtain ⟨h1, o, ho, _⟩ := mem_ready.1 hi
      have : i ∈ leftOf listed ops.size := mem_left.2 ⟨(Array.getElem?_eq_some_iff.1 ho).1, h1⟩
      rw [hl] at this; simp at this
    exact ⟨hr, stop listed σ Z bl a w hsz hr he R⟩
  | succ fuel ih =>
    intro listed σ Z bl a w hsz hlen hcl he R
    refine ⟨fun hr => stop listed σ Z bl a w hsz hr he R, fun i hi => ?_⟩
    obtain ⟨hiu, o, ho, haft⟩ := mem_ready.1 hi
    have hil := (Array.getElem?_eq_some_iff.1 ho).1
    have hmem : i ∈ leftOf listed ops.size := mem_left.2 ⟨hil, hiu⟩
    obtain ⟨pre, post, hsplit⟩ := List.append_of_mem hmem
    have hsort := left_sorted listed ops.size
    rw [hsplit] at hsort he
    -- what comes before it is listed
    have hbefi : ∀ q, (bef ops i).testBit q = true → listed.getD q false = true := fun q hq => by
      obtain ⟨e, he, hb, h⟩ := bef_step ho hq
      have hle := haft e (by simpa using he) hb
      rcases h with h | h
      · rw [← h]; exact hle
      · refine hcl e.on q ?_ hle h
        rcases Nat.lt_or_ge e.on listed.size with h' | h'
        · omega
        · simp [Array.getD, Nat.not_lt.2 h'] at hle
    have hfront := evalF_front he fun j hj oj oi ej ei => by
      have hji : j < i := (List.pairwise_append.1 hsort).2.2 j hj i (List.mem_cons_self ..)
      rcases hok i j hil hji with h | h
      · have h1 := hbefi j h
        have h2 : j ∈ leftOf listed ops.size := by rw [hsplit]; exact List.mem_append_left _ hj
        have h3 := (mem_left.1 h2).2
        have : j < listed.size := by omega
        simp [Array.getD, this] at h1 h3
        rw [h1] at h3; exact absurd h3 (by simp)
      · exact h oj oi ej ei
    obtain ⟨σ1, f, fs, h1, h2, h3⟩ := evalF_cons hfront
    simp only [List.map_cons, List.cons.injEq] at h3
    obtain ⟨rfl, rfl⟩ := h3
    have hstep : stepD P F true ops n0 i o ⟨σ.1, σ.2, []⟩ = some ⟨σ1.1, σ1.2, [ft i]⟩ := by
      rw [stepD_out]
      unfold stepF at h1
      rw [ho] at h1
      simp only [Option.bind_some] at h1
      obtain ⟨x, hx, hxe⟩ := Option.map_eq_some_iff.1 h1
      simp only [Prod.mk.injEq] at hxe
      obtain ⟨rfl, hfe⟩ := hxe
      rw [hx]
      simp only [Option.map_some, hfe]
    have hleft := left_set hsz hsplit
    refine step_sound hF ho (hd i o ho) hstep (fun k hk1 hk2 hk => ?_) R fun a' w' Z' bl' R' => ?_
    · rcases hk with hk | ⟨j, hj, h4, h5⟩
      · omega
      · have hij : j ≠ i := fun e => by
          subst e
          have : j < listed.size := by omega
          simp [Array.getD, this] at hj hiu
          rw [hj] at hiu; exact absurd hiu (by simp)
        rcases Nat.lt_or_gt_of_ne hij with h | h
        · have : stride * (j + 1) ≤ stride * i := Nat.mul_le_mul_left _ h
          omega
        · have : stride * (i + 1) ≤ stride * j := Nat.mul_le_mul_left _ h
          omega
    · refine ih (listed.setIfInBounds i true) σ1 Z' bl' a' w' (by simpa using hsz) ?_ (fun p q hp hlp hq => ?_) (by rw [hleft]; exact h2) (R'.kmono fun k hk => ?_)
      · rw [hleft]
        rw [hsplit] at hlen
        simp only [List.length_append, List.length_cons] at hlen ⊢
        omega
      · by_cases hpi : p = i
        · subst hpi
          exact getD_set_true (hbefi q hq)
        · rw [getD_set_ne false (fun e => hpi e.symm)] at hlp
          exact getD_set_true (hcl p q hp hlp hq)
      · rcases hk with (hk | ⟨j, hj, h4⟩) | hk
        · exact .inl hk
        · exact .inr ⟨j, getD_set_true hj, h4⟩
        · refine .inr ⟨i, ?_, hk⟩
          have : i < listed.size := by omega
          simp [this]

end
end Go.Ev

namespace Go.Ev
open Go Go.RowKit

section
variable {P : Program} {nt nf : Nat} {Z0 : Addr → Prop} {bl0 : Bl} {m0 : Nat → Obj} {w0 : World} {K : Nat → Prop} {s : Nat → SV} {m : Nat → Obj} {Z : Addr → Prop} {bl : Bl} {a : Act} {w : World} {F : Oracle} {ops : Array Oper} {n0 : Nat}

theorem opsD_evalF : ∀ (l : List Oper) (i : Nat) (r r' : Rg), ops.toList.drop i = l → opsD P F true ops n0 i l r = some r' →
    ∃ fs, evalF P F ops n0 (List.range' i l.length) (r.s, r.m) = some ((r'.s, r'.m), fs) ∧ r'.log = fs.reverse ++ r.log ∧ fs.length = l.length := by
  intro l
  induction l with
  | nil =>
    intro i r r' _ h
    simp only [opsD, Option.some.injEq] at h
    subst h
    exact ⟨[], rfl, rfl, rfl⟩
  | cons o l ih =>
    intro i r r' hl h
    simp only [opsD] at h
    obtain ⟨r1, h1, h2⟩ := Option.bind_eq_some_iff.1 h
    have hil : i < ops.toList.length := by
      rcases Nat.lt_or_ge i ops.toList.length with h | h
      · exact h
      · rw [List.drop_of_length_le h] at hl; exact absurd hl (by simp)
    rw [List.drop_eq_getElem_cons hil] at hl
    injection hl with hl1 hl2
    obtain ⟨fs, h3, h4, h5⟩ := ih (i + 1) r1 r' hl2 h2
    have hoi : ops[i]? = some o := by
      rw [← hl1, ← Array.getElem?_toList, List.getElem?_eq_getElem hil]
    rw [stepD_out] at h1
    obtain ⟨x, hx, hr1⟩ := Option.map_eq_some_iff.1 h1
    subst hr1
    refine ⟨x.2.2 :: fs, ?_, ?_, by simp [h5]⟩
    · rw [List.length_cons, List.range'_succ]
      refine evalF_mk (σ1 := (putS r.s o.dst x.1, writeAll r.m x.2.1)) ?_ h3
      unfold stepF
      rw [hoi]
      simp only [Option.bind_some, hx, Option.map_some]
    · rw [h4]; simp

theorem orderOk_spec {log : List Foot} (h : orderOk ops log = true) : backOk 0 ops.toList = true ∧ ∀ j i, j < ops.size → i < j →
    (bef ops j).testBit i = true ∨ (∀ oi oj, ops[i]? = some oi → ops[j]? = some oj → apartB ops oi oj = true ∧ meets (log.reverse.getD i ([], [])) (log.reverse.getD j ([], [])) = false) := by
  unfold orderOk at h
  simp only [Bool.and_eq_true, List.all_eq_true, List.mem_range, Bool.or_eq_true, Bool.not_eq_true'] at h
  refine ⟨h.1, fun j i hj hi => (h.2 j hj i hi).imp id fun h oi oj ei ej => ?_⟩
  have e1 : ops.getD i default = oi := by rw [Array.getD_eq_getD_getElem?, ei]; rfl
  have e2 : ops.getD j default = oj := by rw [Array.getD_eq_getD_getElem?, ej]; rfl
  rw [e1, e2] at h
  exact h

theorem region_draw (hm : P.follows .mixedOrders = true) (hF : OracleOk P F) (hd : dstsOk nt ops) {id : Nat} {Q : Exit → Act → World → Prop} {r' : Rg} (h : opsD P F true ops n0 0 ops.toList ⟨s, m, []⟩ = some r') (ho : orderOk ops r'.log = true)
    (R : Run P nt nf Z0 bl0 m0 w0 (· < n0) s m Z bl a w)
    (hQ : ∀ a' w' Z' bl', Run P nt nf Z0 bl0 m0 w0 (· < n0 + stride * ops.size) r'.s r'.m Z' bl' a' w' → Q .normal a' w') : (Code.region id ops true).wp P Q a w := by
  obtain ⟨fs, h1, h2, h3⟩ := opsD_evalF ops.toList 0 ⟨s, m, []⟩ r' (by simp) h
  obtain ⟨hback, hord⟩ := orderOk_spec ho
  simp only [List.append_nil] at h2
  rw [h2, List.reverse_reverse] at hord
  have hlen : ops.toList.length = ops.size := by simp
  have hleft : leftOf (Array.replicate ops.size false) ops.size = List.range ops.size := by
    unfold leftOf
    refine List.filter_eq_self.2 fun i hi => ?_
    have := List.mem_range.1 hi
    simp [this]
  have hfs : (List.range ops.size).map (fun i => fs.getD i ([], [])) = fs := by
    apply List.ext_getElem
    · simp [h3]
    · intro i hi1 hi2
      simp [List.getD_eq_getElem?_getD, List.getElem?_eq_getElem hi2]
  have hdraw : Run P nt nf Z0 bl0 m0 w0 (· < n0) s m Z bl a { w with drawn := w.drawn + 1 } := by
    have T : Tr P (· < n0) (· < n0) Z bl m w Z bl m { w with drawn := w.drawn + 1 } := Tr.draw R.cx.mem R.cx.kn _ rfl rfl rfl rfl
    exact ⟨R.tr.trans T, fun t => SVRep.tr T (R.keys t) (R.slot t), R.keys, R.defers, R.tsz, R.glob.mono T.zc T.zs⟩
  refine wp_region_any hm ?_
  refine any_sound hF hd (σ' := (r'.s, r'.m)) (ft := fun i => fs.getD i ([], [])) hback hord hQ ops.size _ (s, m) Z bl a _ (by simp) (by rw [hleft]; simp) (fun i q hi hl _ => by simp [Array.getD, hi] at hl) ?_ (hdraw.kmono fun k hk => .inl hk)
  rw [hleft, hfs, List.range_eq_range', ← hlen]
  exact h1

end
end Go.Ev

namespace Go.Ev
open Go Go.RowKit

theorem unrK_law {R : Type} (body : (Ex → St → Option R) → St → Option R) (body' : (Ex → St → Option (Ex × St)) → St → Option (Ex × St)) {b0 : St → Option (Ex × St)}
    (hb : ∀ K σ, body K σ = (b0 σ).bind fun r => K r.1 r.2) (hb' : ∀ K σ, body' K σ = (b0 σ).bind fun r => K r.1 r.2) : ∀ (n : Nat) (K : Ex → St → Option R) (last : St → Option R) (last' : St → Option (Ex × St)),
    (∀ σ, last σ = (last' σ).bind fun r => K r.1 r.2) → ∀ σ, unrK body n K last σ = (unrK body' n (fun e σ => some (e, σ)) last' σ).bind fun r => K r.1 r.2 := by
  intro n
  induction n with
  | zero => intro K last last' h σ; exact h σ
  | succ n ih =>
    intro K last last' h σ
    simp only [unrK]
    rw [hb, hb', Option.bind_assoc]
    congr 1; funext r
    obtain ⟨e, σ1⟩ := r
    cases e with
    | next => exact ih K last last' h σ1
    | exit i => rfl
    | ret => rfl

theorem evK_law (P : Program) (F : Oracle) (L : Lp) (A : Nat → List Nat × List Nat) (nf : Nat) : ∀ (c : Code) {R : Type} (K : Ex → St → Option R) (σ : St),
    evK P F L A nf c K σ = (evK P F L A nf c (fun e σ => some (e, σ)) σ).bind fun r => K r.1 r.2 := by
  intro c
  induction c with
  | skip => intro R K σ; rfl
  | region id ops dr =>
    intro R K σ
    simp only [evK]
    rw [opsK_eq, opsK_eq, Option.bind_assoc]
    congr 1; funext r
    cases (!dr || orderOk ops r.log) <;> rfl
  | seq a b iha ihb =>
    intro R K σ
    simp only [evK]
    refine (iha _ σ).trans (Eq.trans ?_ (congrArg (fun (x : Option (Ex × St)) => x.bind fun r => K r.1 r.2) (iha _ σ).symm))
    rw [Option.bind_assoc]
    congr 1; funext r
    obtain ⟨e, σ'⟩ := r
    cases e with
    | next => exact ihb _ _
    | exit i => rfl
    | ret => rfl
  | cond c a b iha ihb =>
    intro R K σ
    simp only [evK]
    rw [branch_eq, branch_eq, Option.bind_assoc]
    congr 1; funext t
    cases t
    · exact ihb _ _
    · exact iha _ _
  | block id a iha =>
    intro R K σ
    simp only [evK]
    refine (iha _ σ).trans (Eq.trans ?_ (congrArg (fun (x : Option (Ex × St)) => x.bind fun r => K r.1 r.2) (iha _ σ).symm))
    rw [Option.bind_assoc]
    congr 1; funext r
    obtain ⟨e, σ'⟩ := r
    cases e with
    | next => rfl
    | exit i => simp only; cases Nat.beq i id <;> rfl
    | ret => rfl
  | loop a iha =>
    intro R K σ
    simp only [evK]
    exact unrK_law _ _ (fun K σ => iha K σ) (fun K σ => iha K σ) _ K _ _ (fun σ => by
      rw [L.law, L.law _ _ (fun e c => some (e, unc (A (loopId a)).2 c)), Option.bind_assoc]
      rfl) σ
  | exit id => intro R K σ; rfl
  | ret => intro R K σ; rfl
  | _ => intros; rfl

/-- Slots that are written are there. -/
def dstsB (nt : Nat) (ops : Array Oper) : Bool := ops.toList.all fun o => match o.dst with | some d => Nat.blt d nt | none => true

def codeB (nt : Nat) : Code → Bool
  | .region _ ops _ => dstsB nt ops
  | .seq a b => codeB nt a && codeB nt b
  | .cond _ a b => codeB nt a && codeB nt b
  | .block _ a => codeB nt a
  | .loop a => codeB nt a
  | _ => true

theorem dstsB_spec {nt nt' : Nat} {ops : Array Oper} (h : dstsB nt ops = true) (hle : nt ≤ nt') : dstsOk nt' ops := by
  intro i o hi d hd
  have hm : o ∈ ops.toList := by
    have : o ∈ ops := Array.mem_of_getElem? hi
    simpa using this
  have := List.all_eq_true.1 h o hm
  rw [hd] at this
  exact Nat.lt_of_lt_of_le ((Nat.blt_eq ▸ this : d < nt)) hle

def toExit : Ex → Exit
  | .next => .normal
  | .exit id => .exit id
  | .ret => .ret

theorem idxIn_mem : ∀ {ls : List Nat} {t i : Nat}, idxIn ls t = some i → t ∈ ls := fun h => List.mem_of_getElem? (idxIn_some h)

section
variable {P : Program} {nt nf : Nat} {Z0 : Addr → Prop} {bl0 : Bl} {m0 : Nat → Obj} {w0 : World} {K : Nat → Prop} {s : Nat → SV} {m : Nat → Obj} {Z : Addr → Prop} {bl : Bl} {a : Act} {w : World} {F : Oracle}

theorem compat_ren {ks : List Nat} {a b : Obj} (h : Compat a b) : Compat a (renObj ks b) := by
  cases h with
  | no => exact .no _
  | box t t' cs cs' h => exact .box _ _ _ _ (by simpa using h)
  | vec e f f' xs xs' h => exact .vec _ _ _ _ _ h

/-- What was done since the run began, told in numbers of its own. -/
theorem Tr.renum (T : Tr P (· < nf) K Z0 bl0 m0 w0 Z bl m w) {ks : List Nat} (hnd : ks.Nodup) (hpre : ∀ i, i < nf → ks[i]? = some i) :
    Tr P (· < nf) (· < ks.length) Z0 bl0 m0 w0 Z (blS ks bl) (subM ks m) w where
  mem := T.mem.sub hnd
  kk := fun k hk => (List.getElem?_eq_some_iff.1 (hpre k hk)).1
  cmp := fun k hk => by rw [subM_get (hpre k hk)]; exact compat_ren (T.cmp k hk)
  dead := fun k hk hd => by rw [subM_get (hpre k hk), alive_ren]; exact T.dead k hk hd
  bls := fun k hk => by rw [blS_get (hpre k hk)]; exact T.bls k hk
  zs := T.zs
  zc := T.zc
  bsz := T.bsz
  os := T.os
  tape := T.tape
  output := T.output
  size := T.size
  old := T.old
  zn := T.zn
  own := fun i b o ha hb => by
    obtain ⟨k, hk, hak⟩ := alive_sub ha
    rw [blS_get hk] at hb
    refine (T.own k b o hak hb).imp (fun ⟨k0, o0, h1, h2, h3⟩ => ⟨k0, o0, h1, h2, fun h => h3 ?_⟩) id
    rw [subM_get hk] at h
    obtain ⟨e, f, xs, h⟩ := h
    cases hm : m k with
    | no => rw [hm] at h; exact absurd h (by simp [renObj])
    | box t cs => rw [hm] at h; exact absurd h (by simp [renObj])
    | vec e f xs => exact ⟨e, f, xs, rfl⟩
  kn := fun i ha => .inr ((sub_known ks m).al i ha)
  kc := fun i c hc => (sub_known ks m).ck i c hc

theorem can_fst {ls : List Nat} {σ : St} : (can nf ls σ).1 = (ls.map σ.s).map (renSV (reach σ.m (List.range nf ++ (ls.map σ.s).flatMap keysSV))) := rfl
theorem can_snd {ls : List Nat} {σ : St} : (can nf ls σ).2 = (reach σ.m (List.range nf ++ (ls.map σ.s).flatMap keysSV)).map fun k => renObj (reach σ.m (List.range nf ++ (ls.map σ.s).flatMap keysSV)) (σ.m k) := rfl

theorem Run.canon {σ : St} {ls : List Nat} (R : Run P nt nf Z0 bl0 m0 w0 K σ.s σ.m Z bl a w) :
    ∃ bl', Run P nt nf Z0 bl0 m0 w0 (· < (can nf ls σ).2.length) (unc ls (can nf ls σ)).s (unc ls (can nf ls σ)).m Z bl' a w := by
  have hnd := reach_nodup σ.m (List.range nf ++ (ls.map σ.s).flatMap keysSV)
  have hpre : ∀ i, i < nf → (reach σ.m (List.range nf ++ (ls.map σ.s).flatMap keysSV))[i]? = some i := fun i hi => reach_range _ _ _ hi
  have hm : (unc ls (can nf ls σ)).m = subM (reach σ.m (List.range nf ++ (ls.map σ.s).flatMap keysSV)) σ.m := rfl
  have hl : (can nf ls σ).2.length = (reach σ.m (List.range nf ++ (ls.map σ.s).flatMap keysSV)).length := by rw [can_snd, List.length_map]
  have hs : ∀ t, (unc ls (can nf ls σ)).s t = .one .un ∨ (unc ls (can nf ls σ)).s t = renSV (reach σ.m (List.range nf ++ (ls.map σ.s).flatMap keysSV)) (σ.s t) := fun t => by
    show (match idxIn ls t with | some i => (can nf ls σ).1.getD i (.one .un) | none => .one .un) = _ ∨ _ = _
    cases hi : idxIn ls t with
    | none => exact .inl rfl
    | some i =>
      refine .inr ?_
      have e : (unc ls (can nf ls σ)).s t = (can nf ls σ).1.getD i (.one .un) := by simp only [unc, hi]
      rw [e, can_fst, List.getD_eq_getElem?_getD, List.getElem?_map, List.getElem?_map, idxIn_some hi]
      rfl
  generalize reach σ.m (List.range nf ++ (ls.map σ.s).flatMap keysSV) = ks at *
  refine ⟨blS ks bl, ?_, fun t => ?_, fun t k hk => ?_, R.defers, R.tsz, R.glob⟩
  · rw [hm, hl]; exact R.tr.renum hnd hpre
  · rcases hs t with h | h
    · rw [h]; trivial
    · rw [h, hm]; exact (R.slot t).ren ks
  · rw [hl]
    rcases hs t with h | h
    · rw [h] at hk; simp [keysSV, SV.leaves, allKeysL] at hk
    · rw [h] at hk; exact renSV_lt hk

/-- What a loop's rounds do, from one state to another. -/
def LoopOk (P : Program) (nt nf : Nat) (A : Nat → List Nat × List Nat) (c : Code) (n : Nat) (st : CSt) (e : Ex) (st' : CSt) : Prop :=
  ∀ {Z0 : Addr → Prop} {bl0 : Bl} {m0 : Nat → Obj} {w0 : World} {Z : Addr → Prop} {bl : Bl} {a : Act} {w : World} {Q : Exit → Act → World → Prop},
    Run P nt nf Z0 bl0 m0 w0 (· < st.2.length) (unc (A (loopId c)).1 st).s (unc (A (loopId c)).1 st).m Z bl a w →
    (∀ a' w' Z' bl', Run P nt nf Z0 bl0 m0 w0 (· < st'.2.length) (unc (A (loopId c)).2 st').s (unc (A (loopId c)).2 st').m Z' bl' a' w' → Q (toExit e) a' w') →
    Code.rounds P c Q n a w

def LpOk (P : Program) (nt nf : Nat) (A : Nat → List Nat × List Nat) (ls : List Code) (L : Lp) : Prop :=
  ∀ c ∈ ls, ∀ st e st', L.ask (loopId c) st (fun e c => some (e, c)) = some (e, st') → ∃ n, LoopOk P nt nf A c n st e st'

theorem code_sound (hm : P.follows .mixedOrders = true) (hF : OracleOk P F) {A : Nat → List Nat × List Nat} {ls : List Code} {L : Lp} (hL : LpOk P nt nf A ls L) {nt0 : Nat} (hnt : nt0 ≤ nt) : ∀ (c : Code), (∀ b ∈ loopsOf c, b ∈ ls) → codeB nt0 c = true →
    ∀ (σ : St) (e : Ex) (σ' : St), evK P F L A nf c (fun e σ => some (e, σ)) σ = some (e, σ') → ∀ {Z : Addr → Prop} {bl : Bl} {a : Act} {w : World} {Q : Exit → Act → World → Prop},
      Run P nt nf Z0 bl0 m0 w0 (· < σ.n) σ.s σ.m Z bl a w → (∀ a' w' Z' bl', Run P nt nf Z0 bl0 m0 w0 (· < σ'.n) σ'.s σ'.m Z' bl' a' w' → Q (toExit e) a' w') → c.wp P Q a w := by
  intro c
  induction c with
  | skip =>
    intro _ _ σ e σ' h Z bl a w Q R hQ
    simp only [evK, Option.some.injEq, Prod.mk.injEq] at h
    obtain ⟨rfl, rfl⟩ := h
    exact wp_skip (hQ _ _ _ _ R)
  | region id ops dr =>
    intro _ hB σ e σ' h Z bl a w Q R hQ
    simp only [evK] at h
    rw [opsK_eq] at h
    obtain ⟨r, h1, h2⟩ := Option.bind_eq_some_iff.1 h
    cases dr with
    | false =>
      simp only [Bool.not_false, Bool.true_or, cond_true, Option.some.injEq, Prod.mk.injEq] at h2
      obtain ⟨rfl, rfl⟩ := h2
      exact region_text hF (dstsB_spec hB hnt) h1 R hQ
    | true =>
      simp only [Bool.not_true, Bool.false_or] at h2
      cases ho : orderOk ops r.log with
      | false => rw [ho] at h2; exact absurd h2 (by simp)
      | true =>
        rw [ho] at h2
        simp only [cond_true, Option.some.injEq, Prod.mk.injEq] at h2
        obtain ⟨rfl, rfl⟩ := h2
        exact region_draw hm hF (dstsB_spec hB hnt) h1 ho R hQ
  | seq x y ihx ihy =>
    intro hl hB σ e σ' h Z bl a w Q R hQ
    simp only [codeB, Bool.and_eq_true] at hB
    simp only [evK] at h
    rw [evK_law] at h
    obtain ⟨⟨e1, σ1⟩, h1, h2⟩ := Option.bind_eq_some_iff.1 h
    refine wp_seq (ihx (fun b hb => hl b (List.mem_append_left _ hb)) hB.1 σ e1 σ1 h1 R fun a' w' Z' bl' R' => ?_)
    cases e1 with
    | next => exact ihy (fun b hb => hl b (List.mem_append_right _ hb)) hB.2 σ1 e σ' h2 R' hQ
    | exit i =>
      simp only [Option.some.injEq, Prod.mk.injEq] at h2
      obtain ⟨rfl, rfl⟩ := h2
      exact hQ _ _ _ _ R'
    | ret =>
      simp only [Option.some.injEq, Prod.mk.injEq] at h2
      obtain ⟨rfl, rfl⟩ := h2
      exact hQ _ _ _ _ R'
  | cond x p q ihp ihq =>
    intro hl hB σ e σ' h Z bl a w Q R hQ
    simp only [codeB, Bool.and_eq_true] at hB
    simp only [evK] at h
    rw [branch_eq] at h
    obtain ⟨t, h1, h2⟩ := Option.bind_eq_some_iff.1 h
    refine wp_cond (condB_val h1 R.slot) ?_
    cases t with
    | true => exact ihp (fun b hb => hl b (List.mem_append_left _ hb)) hB.1 ⟨σ.s, σ.m, σ.n⟩ e σ' h2 R hQ
    | false => exact ihq (fun b hb => hl b (List.mem_append_right _ hb)) hB.2 ⟨σ.s, σ.m, σ.n⟩ e σ' h2 R hQ
  | block id x ih =>
    intro hl hB σ e σ' h Z bl a w Q R hQ
    simp only [evK] at h
    rw [evK_law] at h
    obtain ⟨⟨e1, σ1⟩, h1, h2⟩ := Option.bind_eq_some_iff.1 h
    refine wp_block (ih hl hB σ e1 σ1 h1 R fun a' w' Z' bl' R' => ?_)
    cases e1 with
    | next =>
      simp only [Option.some.injEq, Prod.mk.injEq] at h2
      obtain ⟨rfl, rfl⟩ := h2
      exact hQ _ _ _ _ R'
    | exit i =>
      simp only at h2
      show if i = id then _ else _
      cases hb : Nat.beq i id with
      | true =>
        rw [hb] at h2
        simp only [cond_true, Option.some.injEq, Prod.mk.injEq] at h2
        obtain ⟨rfl, rfl⟩ := h2
        rw [if_pos (Nat.eq_of_beq_eq_true hb)]
        exact hQ _ _ _ _ R'
      | false =>
        rw [hb] at h2
        simp only [cond_false, Option.some.injEq, Prod.mk.injEq] at h2
        obtain ⟨rfl, rfl⟩ := h2
        rw [if_neg (fun e => by rw [e, show Nat.beq id id = true from Nat.beq_refl id] at hb; exact absurd hb (by simp))]
        exact hQ _ _ _ _ R'
    | ret =>
      simp only [Option.some.injEq, Prod.mk.injEq] at h2
      obtain ⟨rfl, rfl⟩ := h2
      exact hQ _ _ _ _ R'
  | loop x ihx =>
    intro hl hB σ e σ' h
    simp only [evK] at h
    have key : ∀ (k : Nat) (σ : St), unrK (fun K σ => evK P F L A nf x K σ) k (fun e σ => some (e, σ)) (fun σ => L.ask (loopId x) (can nf (A (loopId x)).1 σ) fun e c => some (e, unc (A (loopId x)).2 c)) σ = some (e, σ') →
        ∃ n, ∀ {Z : Addr → Prop} {bl : Bl} {a : Act} {w : World} {Q : Exit → Act → World → Prop}, Run P nt nf Z0 bl0 m0 w0 (· < σ.n) σ.s σ.m Z bl a w →
          (∀ a' w' Z' bl', Run P nt nf Z0 bl0 m0 w0 (· < σ'.n) σ'.s σ'.m Z' bl' a' w' → Q (toExit e) a' w') → Code.rounds P x Q n a w := by
      intro k
      induction k with
      | zero =>
        intro σ h
        simp only [unrK] at h
        rw [L.law] at h
        obtain ⟨⟨e1, st'⟩, h1, h2⟩ := Option.bind_eq_some_iff.1 h
        simp only [Option.some.injEq, Prod.mk.injEq] at h2
        obtain ⟨rfl, rfl⟩ := h2
        obtain ⟨n, hn⟩ := hL x (hl x (List.mem_cons_self ..)) _ _ _ h1
        refine ⟨n, fun R hQ => ?_⟩
        obtain ⟨bl1, R1⟩ := R.canon (ls := (A (loopId x)).1)
        exact hn R1 hQ
      | succ k ih =>
        intro σ h
        simp only [unrK] at h
        rw [evK_law] at h
        obtain ⟨⟨e1, σ1⟩, h1, h2⟩ := Option.bind_eq_some_iff.1 h
        cases e1 with
        | next =>
          obtain ⟨n, hn⟩ := ih σ1 h2
          refine ⟨n + 1, fun {Z bl a w Q} R hQ => ?_⟩
          show x.wp P (Exit.then (Code.rounds P x Q n) Q) a w
          exact ihx (fun b hb => hl b (List.mem_cons_of_mem _ hb)) hB σ .next σ1 h1 R fun a' w' Z' bl' R' => hn R' hQ
        | exit i =>
          simp only [Option.some.injEq, Prod.mk.injEq] at h2
          obtain ⟨rfl, rfl⟩ := h2
          refine ⟨1, fun {Z bl a w Q} R hQ => ?_⟩
          show x.wp P (Exit.then (Code.rounds P x Q 0) Q) a w
          exact ihx (fun b hb => hl b (List.mem_cons_of_mem _ hb)) hB σ (.exit i) σ1 h1 R fun a' w' Z' bl' R' => hQ _ _ _ _ R'
        | ret =>
          simp only [Option.some.injEq, Prod.mk.injEq] at h2
          obtain ⟨rfl, rfl⟩ := h2
          refine ⟨1, fun {Z bl a w Q} R hQ => ?_⟩
          show x.wp P (Exit.then (Code.rounds P x Q 0) Q) a w
          exact ihx (fun b hb => hl b (List.mem_cons_of_mem _ hb)) hB σ .ret σ1 h1 R fun a' w' Z' bl' R' => hQ _ _ _ _ R'
    obtain ⟨n, hn⟩ := key _ σ h
    intro Z bl a w Q R hQ
    exact wp_loop_rounds n (hn R hQ)
  | exit id =>
    intro _ _ σ e σ' h Z bl a w Q R hQ
    simp only [evK, Option.some.injEq, Prod.mk.injEq] at h
    obtain ⟨rfl, rfl⟩ := h
    exact wp_exit (hQ _ _ _ _ R)
  | ret =>
    intro _ _ σ e σ' h Z bl a w Q R hQ
    simp only [evK, Option.some.injEq, Prod.mk.injEq] at h
    obtain ⟨rfl, rfl⟩ := h
    exact wp_ret (hQ _ _ _ _ R)
  | _ => intros; rename_i h _ _ _ _ _ _ _; exact absurd h (by simp [evK])

end
end Go.Ev

namespace Go.Ev
open Go Go.RowKit

section
variable {P : Program} {w : World}

theorem Kx.app {K : Nat → Prop} {a b c : Nat} (h1 : a ≤ b) (h2 : b ≤ c) {k : Nat} (h : Kx (Kx K a b) b c k) : Kx K a c k := by
  rcases h with (h | h) | h
  · exact .inl h
  · exact .inr ⟨h.1, Nat.lt_of_lt_of_le h.2 h2⟩
  · exact .inr ⟨Nat.le_trans h1 h.1, h.2⟩

theorem Kx.fresh {K : Nat → Prop} {a b : Nat} (h : ∀ j, a ≤ j → ¬ K j) : ∀ j, b ≤ j → a ≤ b → ¬ Kx K a b j := fun j hj hab hk => by
  rcases hk with hk | hk
  · exact h j (by omega) hk
  · omega

/-- What a result's leaf gives. -/
def ResOk (P : Program) (w : World) (K : Nat → Prop) (Z : Addr → Prop) (bl : Bl) (m m1 : Nat → Obj) (key n : Nat) (ws : List (Nat × Obj)) (R : (Addr → Prop) → Bl → (Nat → Obj) → Prop) : Prop :=
  ∃ Z' bl', Tr P K (Kx K key n) Z bl m w Z' bl' (writeAll m ws) w ∧ Shows m1 (writeAll m ws) ∧ R Z' bl' (writeAll m ws)

theorem resL_sound {K : Nat → Prop} {Z : Addr → Prop} {bl : Bl} {m : Nat → Obj} (c : Cx P K Z bl m w) {m1 : Nat → Obj} (hm : Shows m1 m) {own : Bool} {key : Nat} (hfr : ∀ j, key ≤ j → ¬ K j) (hal : ∀ j, alive (m1 j) = true → j < key)
    {k : CK} {x y : SL} {ws : List (Nat × Obj)} {u : Value} (h : resL P own m1 key k x = some (y, ws)) (hx : LRep P w Z bl m x u) (hk : ∀ j ∈ allKeysL x, K j) :
    ResOk P w K Z bl m m1 key (key + 1) ws fun Z' bl' m' => LRep P w Z' bl' m' y u ∧ ∀ j ∈ allKeysL y, Kx K key (key + 1) j := by
  have same : y = x → ws = [] → ResOk P w K Z bl m m1 key (key + 1) ws fun Z' bl' m' => LRep P w Z' bl' m' y u ∧ ∀ j ∈ allKeysL y, Kx K key (key + 1) j := fun e1 e2 => by
    subst e1; subst e2
    exact ⟨Z, bl, c.refl fun _ h => .inl h, hm, hx, fun j hj => .inl (hk j hj)⟩
  have frz : ∀ {k : CK} {d : DL} {ws0 : List (Nat × Obj)}, frzL m1 k x = some (d, ws0) → y = .d d → ws = ws0 → ResOk P w K Z bl m m1 key (key + 1) ws fun Z' bl' m' => LRep P w Z' bl' m' y u ∧ ∀ j ∈ allKeysL y, Kx K key (key + 1) j := fun hf e1 e2 => by
    subst e1; subst e2
    obtain ⟨Z', T, hd, hs⟩ := frzL_sound c hm hf hx
    exact ⟨Z', bl, T.kmono fun _ h => .inl h, hs, ⟨_, hd⟩, fun j hj => by simp [allKeysL] at hj⟩
  have oth : (match k, x with | _, .un => (none : Option (SL × List (Nat × Obj))) | _, x => some (x, [])) = some (y, ws) → ResOk P w K Z bl m m1 key (key + 1) ws fun Z' bl' m' => LRep P w Z' bl' m' y u ∧ ∀ j ∈ allKeysL y, Kx K key (key + 1) j := fun h => by
    split at h
    · exact absurd h (by simp)
    · simp only [Option.some.injEq, Prod.mk.injEq] at h
      exact same h.1.symm h.2.symm
  cases k with
  | slice e =>
    cases x with
    | nil =>
      cases own with
      | true =>
        simp only [resL, cond_true] at h
        split at h
        · rename_i ks he
          simp only [Option.some.injEq, Prod.mk.injEq] at h
          obtain ⟨rfl, rfl⟩ := h
          have hnk := hfr key (Nat.le_refl _)
          have T := Tr.nilVec c.mem c.kn hnk e false ks he
          simp only [LRep] at hx
          subst hx
          refine ⟨Z, _, T.kmono fun j hj => ?_, fun j => ?_, ?_, fun j hj => ?_⟩
          · rcases hj with hj | rfl
            · exact .inl hj
            · exact .inr ⟨Nat.le_refl _, Nat.lt_succ_self _⟩
          · have := hm j
            show match m1 j with | .no => _ | .box t cs => _ | .vec e f xs => _
            cases h1 : m1 j with
            | no => trivial
            | box t cs =>
              rw [h1] at this
              have hj : j ≠ key := fun e => by have := hal j (by rw [h1]; rfl); omega
              simp only [writeAll]; rw [upd_ne _ _ hj]; exact this
            | vec e f xs =>
              rw [h1] at this
              have hj : j ≠ key := fun e => by have := hal j (by rw [h1]; rfl); omega
              simp only [writeAll]; rw [upd_ne _ _ hj]; exact this
          · simp only [LRep, writeAll, upd_at]
            exact ⟨none, rfl, rfl, rfl⟩
          · simp [allKeysL] at hj; subst hj; exact .inr ⟨Nat.le_refl _, Nat.lt_succ_self _⟩
        · exact absurd h (by simp)
      | false =>
        simp only [resL, cond_false, Option.some.injEq, Prod.mk.injEq] at h
        obtain ⟨rfl, rfl⟩ := h
        simp only [LRep] at hx
        subst hx
        exact ⟨Z, bl, c.refl fun _ h => .inl h, hm, ⟨_, .nil e none 0⟩, fun j hj => by simp [allKeysL] at hj⟩
    | vr q =>
      simp only [resL] at h
      split at h
      · rename_i e' xs hv
        split at h
        · rename_i hee
          subst hee
          cases own with
          | true => simp only [cond_true, Option.some.injEq, Prod.mk.injEq] at h; exact same h.1.symm h.2.symm
          | false =>
            simp only [cond_false, Option.some.injEq, Prod.mk.injEq] at h
            refine frz (k := .slice e) (d := .lst e xs) ?_ h.1.symm h.2.symm
            simp only [frzL, hv, if_true]
        · exact absurd h (by simp)
      · rename_i e' xs hv
        split at h
        · rename_i hee
          subst hee
          simp only [Option.some.injEq, Prod.mk.injEq] at h
          refine frz (k := .slice e) (d := .lst e xs) ?_ h.1.symm h.2.symm
          simp only [frzL, hv, if_true]
        · exact absurd h (by simp)
      · exact absurd h (by simp)
    | vs q o l =>
      simp only [resL] at h
      obtain ⟨⟨d, ws0⟩, h1, h2⟩ := Option.map_eq_some_iff.1 h
      simp only [Prod.mk.injEq] at h2
      exact frz h1 h2.1.symm h2.2.symm
    | un => simp [resL] at h
    | _ => exact oth (by simpa [resL] using h)
  | _ => exact oth (by cases x <;> first | exact h | (simp [resL] at h))

theorem ResOk.trans {K : Nat → Prop} {Z : Addr → Prop} {bl : Bl} {m m1 : Nat → Obj} {a b n : Nat} {ws ws' : List (Nat × Obj)} {Z1 : Addr → Prop} {bl1 : Bl} {R : (Addr → Prop) → Bl → (Nat → Obj) → Prop} (hab : a ≤ b) (hbn : b ≤ n)
    (T : Tr P K (Kx K a b) Z bl m w Z1 bl1 (writeAll m ws) w) (h : ResOk P w (Kx K a b) Z1 bl1 (writeAll m ws) m1 b n ws' R) : ResOk P w K Z bl m m1 a n (ws ++ ws') R := by
  obtain ⟨Z', bl', T', hs, hr⟩ := h
  refine ⟨Z', bl', ?_, ?_, ?_⟩
  · rw [writeAll_append]; exact (T.trans T').kmono fun k hk => Kx.app hab hbn hk
  · rw [writeAll_append]; exact hs
  · rw [writeAll_append]; exact hr

theorem ResOk.imp {K : Nat → Prop} {Z : Addr → Prop} {bl : Bl} {m m1 : Nat → Obj} {a n : Nat} {ws : List (Nat × Obj)} {R R' : (Addr → Prop) → Bl → (Nat → Obj) → Prop} (h : ResOk P w K Z bl m m1 a n ws R) (hr : ∀ Z' bl', Tr P K (Kx K a n) Z bl m w Z' bl' (writeAll m ws) w → R Z' bl' (writeAll m ws) → R' Z' bl' (writeAll m ws)) : ResOk P w K Z bl m m1 a n ws R' := by
  obtain ⟨Z', bl', T', hs, h⟩ := h
  exact ⟨Z', bl', T', hs, hr _ _ T' h⟩

theorem resCells_sound {m1 : Nat → Obj} {own : Bool} : ∀ {kk : List CK} {key : Nat} {xs ys : List SL} {us : List Value} {ws : List (Nat × Obj)} {K : Nat → Prop} {Z : Addr → Prop} {bl : Bl} {m : Nat → Obj} (_ : Cx P K Z bl m w) (_ : Shows m1 m) (_ : ∀ j, key ≤ j → ¬ K j) (_ : ∀ j, alive (m1 j) = true → j < key)
    (_ : resCells P own m1 key kk xs = some (ys, ws)) (_ : All2 (LRep P w Z bl m) xs us) (_ : ∀ l ∈ xs, ∀ k ∈ allKeysL l, K k),
    ResOk P w K Z bl m m1 key (key + kk.length) ws fun Z' bl' m' => All2 (LRep P w Z' bl' m') ys us ∧ ∀ y ∈ ys, ∀ j ∈ allKeysL y, Kx K key (key + kk.length) j := by
  intro kk
  induction kk with
  | nil =>
    intro key xs ys us ws K Z bl m c hm hfr hal h hx hk
    cases xs with
    | nil => simp [resCells] at h; obtain ⟨rfl, rfl⟩ := h; cases hx; exact ⟨Z, bl, c.refl fun _ h => .inl h, hm, .nil, fun y hy => by simp at hy⟩
    | cons => simp [resCells] at h
  | cons k kk ih =>
    intro key xs ys us ws K Z bl m c hm hfr hal h hx hk
    cases xs with
    | nil => simp [resCells] at h
    | cons x xs =>
      simp only [resCells, Option.bind_eq_some_iff, Option.map_eq_some_iff] at h
      obtain ⟨⟨y, ws0⟩, h0, ⟨ys1, ws1⟩, h1, he⟩ := h
      simp only [Prod.mk.injEq] at he
      obtain ⟨rfl, rfl⟩ := he
      cases hx with
      | cons hu hus =>
        obtain ⟨Z0, bl0, T0, hm0, hr0, hk0⟩ := resL_sound c hm hfr hal h0 hu (hk x (List.mem_cons_self ..))
        have h2 := ih T0.toCx hm0 (fun j hj => Kx.fresh hfr j hj (Nat.le_succ _)) (fun j hj => Nat.lt_succ_of_lt (hal j hj)) h1 (T0.leaves (fun l hl => hk l (List.mem_cons_of_mem _ hl)) hus) (fun l hl j hj => .inl (hk l (List.mem_cons_of_mem _ hl) j hj))
        have h3 := ResOk.trans (R := fun Z' bl' m' => All2 (LRep P w Z' bl' m') (y :: ys1) _ ∧ ∀ y ∈ ys1, ∀ j ∈ allKeysL y, Kx (Kx K key (key + 1)) (key + 1) (key + 1 + kk.length) j) (Nat.le_succ key) (by omega : key + 1 ≤ key + 1 + kk.length) T0 (h2.imp fun Z' bl' T' h => ⟨All2.cons (T'.leaf hk0 hr0) h.1, h.2⟩)
        have e : key + 1 + kk.length = key + (k :: kk).length := by rw [List.length_cons]; omega
        rw [e] at h3
        refine h3.imp fun Z' bl' _ h => ⟨h.1, fun y' hy' j hj => ?_⟩
        rcases List.mem_cons.1 hy' with rfl | hy'
        · rcases hk0 j hj with h | h
          · exact .inl h
          · exact .inr ⟨h.1, by rw [List.length_cons]; omega⟩
        · rcases h.2 y' hy' j hj with (h | h) | h
          · exact .inl h
          · exact .inr ⟨h.1, by rw [List.length_cons]; omega⟩
          · exact .inr ⟨by omega, by rw [List.length_cons]; omega⟩

theorem resSV_sound {m1 : Nat → Obj} {own : Bool} {kk : List CK} {key : Nat} {x y : SV} {u : Value} {ws : List (Nat × Obj)} {K : Nat → Prop} {Z : Addr → Prop} {bl : Bl} {m : Nat → Obj} (c : Cx P K Z bl m w) (hm : Shows m1 m) (hfr : ∀ j, key ≤ j → ¬ K j) (hal : ∀ j, alive (m1 j) = true → j < key)
    (h : resSV P own m1 key kk x = some (y, ws)) (hx : SVRep P w Z bl m x u) (hk : ∀ k ∈ keysSV x, K k) :
    ResOk P w K Z bl m m1 key (key + kk.length) ws fun Z' bl' m' => SVRep P w Z' bl' m' y u ∧ ∀ j ∈ keysSV y, Kx K key (key + kk.length) j := by
  cases x with
  | one x =>
    simp only [resSV] at h
    obtain ⟨⟨ys, ws0⟩, h1, h2⟩ := Option.bind_eq_some_iff.1 h
    simp only at h2
    split at h2
    · rename_i y0
      simp only [Option.some.injEq, Prod.mk.injEq] at h2
      obtain ⟨rfl, rfl⟩ := h2
      refine (resCells_sound c hm hfr hal h1 (.cons hx .nil) (fun l hl k hk' => hk k (by simp at hl; subst hl; simpa [keysSV, SV.leaves] using hk'))).imp fun Z' bl' _ h => ?_
      obtain ⟨h3, h4⟩ := h
      cases h3 with
      | cons h3 _ => exact ⟨h3, fun j hj => h4 _ (List.mem_cons_self ..) j (by simpa [keysSV, SV.leaves] using hj)⟩
    · exact absurd h2 (by simp)
  | agg xs =>
    simp only [resSV] at h
    obtain ⟨⟨ys, ws0⟩, h1, h2⟩ := Option.map_eq_some_iff.1 h
    simp only [Prod.mk.injEq] at h2
    obtain ⟨rfl, rfl⟩ := h2
    obtain ⟨us, rfl, ha⟩ := hx
    refine (resCells_sound c hm hfr hal h1 ha (fun l hl k hk' => hk k (by simp only [keysSV, SV.leaves, List.mem_flatMap]; exact ⟨l, hl, hk'⟩))).imp fun Z' bl' _ h => ?_
    refine ⟨⟨us, rfl, h.1⟩, fun j hj => ?_⟩
    simp only [keysSV, SV.leaves, List.mem_flatMap] at hj
    obtain ⟨l, hl, hj⟩ := hj
    exact h.2 l hl j hj
  | tup vs => simp [resSV] at h

theorem loadE_ptr {m1 : Nat → Obj} {K : Nat → Prop} {Z : Addr → Prop} {bl : Bl} {m : Nat → Obj} (hm : ∀ k, alive (m1 k) = true → m k = m1 k) {t : TypeId} {x : SL} {r : Bool × SV} {u : Value} (h : loadE P m1 t x = some r) (hx : LRep P w Z bl m x u) : ∃ a, u = .pointer (some a) := by
  cases x with
  | ptr k o => obtain ⟨b, o', _, rfl⟩ := hx; exact ⟨_, rfl⟩
  | ept k i j =>
    simp only [LRep] at hx
    split at hx
    · obtain ⟨b, o, _, rfl⟩ := hx; exact ⟨_, rfl⟩
    · obtain ⟨b, q, rfl⟩ := hx; exact ⟨_, rfl⟩
  | rpt e xs i j => obtain ⟨_, b, off, cap, _, rfl⟩ := hx; exact ⟨_, rfl⟩
  | _ => simp [loadE] at h

/-- One result's value in the model. -/
def resOne (tmps : Array Value) : ResultVar → Sem Value
  | .tmp t => pure (tmps.getD t undef)
  | .cell a t => do loadVar t (← asAddr (tmps.getD a undef))

theorem resVals_sound {m1 : Nat → Obj} {own : Bool} {s : Nat → SV} {tmps : Array Value} : ∀ {rs : List ResultVar} {tys : List TypeId} {key : Nat} {vs : List SV} {ws : List (Nat × Obj)} {K : Nat → Prop} {Z : Addr → Prop} {bl : Bl} {m : Nat → Obj} {Z0 : Addr → Prop} {bl0 : Bl} {K0 : Nat → Prop}
    (_ : Cx P K0 Z0 bl0 m1 w) (_ : ∀ t, SVRep P w Z0 bl0 m1 (s t) (tmps.getD t undef)) (_ : ∀ t, ∀ k ∈ keysSV (s t), K0 k) (_ : Tr P K0 K Z0 bl0 m1 w Z bl m w) (_ : Shows m1 m) (_ : ∀ j, key ≤ j → ¬ K j) (_ : ∀ j, alive (m1 j) = true → j < key)
    (_ : resVals P own s m1 key rs tys = some (vs, ws)),
    ∃ (n : Nat) (us : List Value), key ≤ n ∧ (rs.mapM (resOne tmps)).run P w = .ok us w ∧ ResOk P w K Z bl m m1 key n ws fun Z' bl' m' => All2 (SVRep P w Z' bl' m') vs us ∧ ∀ v ∈ vs, ∀ j ∈ keysSV v, Kx K key n j := by
  intro rs
  induction rs with
  | nil =>
    intro tys key vs ws K Z bl m Z0 bl0 K0 c0 hs0 hk0 T0 hm hfr hal h
    cases tys with
    | nil => simp [resVals] at h; obtain ⟨rfl, rfl⟩ := h; exact ⟨key, [], Nat.le_refl _, by simp, Z, bl, T0.toCx.refl fun _ h => .inl h, hm, .nil, fun y hy => by simp at hy⟩
    | cons => simp [resVals] at h
  | cons r rs ih =>
    intro tys key vs ws K Z bl m Z0 bl0 K0 c0 hs0 hk0 T0 hm hfr hal h
    cases tys with
    | nil => simp [resVals] at h
    | cons ty tys =>
      simp only [resVals] at h
      obtain ⟨ks, hks, h⟩ := Option.bind_eq_some_iff.1 h
      obtain ⟨v, hv, h⟩ := Option.bind_eq_some_iff.1 h
      obtain ⟨⟨y, ws0⟩, hy, h⟩ := Option.bind_eq_some_iff.1 h
      obtain ⟨⟨ys, ws1⟩, hys, h⟩ := Option.map_eq_some_iff.1 h
      simp only [Prod.mk.injEq] at h
      obtain ⟨rfl, rfl⟩ := h
      -- the value
      have hval : ∃ u, (resOne tmps r).run P w = .ok u w ∧ SVRep P w Z0 bl0 m1 v u ∧ ∀ k ∈ keysSV v, K0 k := by
        cases r with
        | tmp t =>
          simp only [Option.some.injEq] at hv
          subst hv
          exact ⟨_, rfl, hs0 t, hk0 t⟩
        | cell a t =>
          simp only at hv
          split at hv
          · rename_i p hp
            obtain ⟨⟨b, v'⟩, hl, hb⟩ := Option.bind_eq_some_iff.1 hv
            simp only at hb
            cases b with
            | false => exact absurd hb (by simp)
            | true =>
              simp only [cond_true, Option.some.injEq] at hb
              subst hb
              have hsa := hs0 a
              rw [hp] at hsa
              obtain ⟨u', hrun, hrep, hkeys⟩ := loadE_sound c0 (fun _ _ => rfl) hl hsa
              obtain ⟨ad, had⟩ := loadE_ptr (K := K0) (fun _ _ => rfl) hl hsa
              refine ⟨u', ?_, hrep, hkeys⟩
              rw [had] at hrun
              simp only [resOne, had]
              simpa [Instr.loadAt, Instr.sureAddr, asAddr] using hrun
          · exact absurd hv (by simp)
      obtain ⟨u, hrun, hrep, hkeys⟩ := hval
      obtain ⟨Z1, bl1, T1, hm1, hr1, hk1⟩ := resSV_sound T0.toCx hm hfr hal hy (SVRep.tr T0 hkeys hrep) (fun k hk => T0.kk k (hkeys k hk))
      obtain ⟨n, us, hn, hmap, h2⟩ := ih c0 hs0 hk0 (T0.trans T1) hm1 (fun j hj => Kx.fresh hfr j hj (by omega)) (fun j hj => by have := hal j hj; omega) hys
      refine ⟨n, u :: us, by omega, by simp [List.mapM_cons, hrun, hmap], ?_⟩
      have h3 := ResOk.trans (R := fun Z' bl' m' => All2 (SVRep P w Z' bl' m') (y :: ys) (u :: us) ∧ ∀ v ∈ ys, ∀ j ∈ keysSV v, Kx (Kx K key (key + ks.length)) (key + ks.length) n j) (by omega : key ≤ key + ks.length) hn T1 (h2.imp fun Z' bl' T' h => ⟨All2.cons (SVRep.tr T' hk1 hr1) h.1, h.2⟩)
      refine h3.imp fun Z' bl' _ h => ⟨h.1, fun y' hy' j hj => ?_⟩
      rcases List.mem_cons.1 hy' with rfl | hy'
      · rcases hk1 j hj with h | h
        · exact .inl h
        · exact .inr ⟨h.1, by omega⟩
      · exact Kx.app (by omega) hn (h.2 y' hy' j hj)

end
end Go.Ev

namespace Go.Ev
open Go Go.RowKit

section
variable {P : Program} {F : Oracle}

theorem canV_rep {nf : Nat} {K : Nat → Prop} {Z0 : Addr → Prop} {bl0 : Bl} {m0 : Nat → Obj} {w0 : World} {Z : Addr → Prop} {bl : Bl} {m : Nat → Obj} {w : World} (T : Tr P (· < nf) K Z0 bl0 m0 w0 Z bl m w) {vs : List SV} {us : List Value} (h : All2 (SVRep P w Z bl m) vs us) :
    ∃ bl', Tr P (· < nf) (· < (canV nf vs m).2.length) Z0 bl0 m0 w0 Z bl' (objM (canV nf vs m).2) w ∧ All2 (SVRep P w Z bl' (objM (canV nf vs m).2)) (canV nf vs m).1 us ∧ ∀ v ∈ (canV nf vs m).1, ∀ k ∈ keysSV v, k < (canV nf vs m).2.length := by
  have hnd := reach_nodup m (List.range nf ++ vs.flatMap keysSV)
  have hpre : ∀ i, i < nf → (reach m (List.range nf ++ vs.flatMap keysSV))[i]? = some i := fun i hi => reach_range _ _ _ hi
  have hm : objM (canV nf vs m).2 = subM (reach m (List.range nf ++ vs.flatMap keysSV)) m := rfl
  have h1 : (canV nf vs m).1 = vs.map (renSV (reach m (List.range nf ++ vs.flatMap keysSV))) := rfl
  have hl : (canV nf vs m).2.length = (reach m (List.range nf ++ vs.flatMap keysSV)).length := by simp [canV]
  rw [hm, hl, h1]
  generalize reach m (List.range nf ++ vs.flatMap keysSV) = ks at *
  refine ⟨blS ks bl, T.renum hnd hpre, ?_, fun v hv k hk => ?_⟩
  · clear h1 hl hm
    induction h with
    | nil => exact .nil
    | cons a _ ih => exact .cons (a.ren ks) ih
  · obtain ⟨x, _, rfl⟩ := List.mem_map.1 hv
    exact renSV_lt hk

/-- A round is right, and so are the rounds behind it. -/
theorem round_sound (hm : P.follows .mixedOrders = true) (hF : OracleOk P F) {A : Nat → List Nat × List Nat} {nt nf : Nat} {nt0 : Nat} (hnt : nt0 ≤ nt) {b : Code} (hB : codeB nt0 b = true) {ls : List Code} (hb : b ∈ ls) (hls : ∀ x ∈ loopsOf b, x ∈ ls) {L : Lp} (hL : LpOk P nt nf A ls L)
    {st : CSt} {e : Ex} {st' : CSt} (h : roundE P F L A nf b st = some (e, st')) : ∃ n, LoopOk P nt nf A b n st e st' := by
  unfold roundE at h
  rw [evK_law] at h
  obtain ⟨⟨e1, σ1⟩, h1, h2⟩ := Option.bind_eq_some_iff.1 h
  have ex : (e1 = .next → ∃ n, LoopOk P nt nf A b n (can nf (A (loopId b)).1 σ1) e st') := fun he => by subst he; exact hL b hb _ _ _ h2
  have ex' : ∃ n, e1 = .next → LoopOk P nt nf A b n (can nf (A (loopId b)).1 σ1) e st' := by
    cases e1 with
    | next => obtain ⟨n, hn⟩ := ex rfl; exact ⟨n, fun _ => hn⟩
    | exit i => exact ⟨0, fun h => by cases h⟩
    | ret => exact ⟨0, fun h => by cases h⟩
  obtain ⟨n, hn⟩ := ex'
  refine ⟨n + 1, ?_⟩
  intro Z0 bl0 m0 w0 Z bl a w Q R hQ
  show b.wp P (Exit.then (Code.rounds P b Q n) Q) a w
  refine code_sound hm hF hL hnt b hls hB _ e1 σ1 h1 R fun a' w' Z' bl' R' => ?_
  obtain ⟨bl1, R1⟩ := R'.canon (ls := (A (loopId b)).1)
  obtain ⟨bl2, R2⟩ := R'.canon (ls := (A (loopId b)).2)
  cases e1 with
  | next => exact hn rfl R1 hQ
  | exit i =>
    simp only [Option.some.injEq, Prod.mk.injEq] at h2
    obtain ⟨rfl, rfl⟩ := h2
    exact hQ _ _ _ _ R2
  | ret =>
    simp only [Option.some.injEq, Prod.mk.injEq] at h2
    obtain ⟨rfl, rfl⟩ := h2
    exact hQ _ _ _ _ R2

theorem results_run {fn : Func} {tmps : Array Value} {us : List Value} {w : World} (h : (fn.results.toList.mapM (resOne tmps)).run P w = .ok us w) : (results fn tmps).run P w = .ok (retV us) w := by
  have e : results fn tmps = (fn.results.mapM (resOne tmps) >>= fun vs => pure (if h : vs.size = 1 then vs[0] else .tuple vs)) := by
    unfold results
    congr 1
    try congr 1
    try (funext r; cases r <;> rfl)
  rw [e, Array.mapM_eq_mapM_toList]
  simp only [Sem.run_bind, Sem.run_map, h, Result.andThen_ok]
  cases us with
  | nil => rfl
  | cons u us =>
    cases us with
    | nil => rfl
    | cons v us => simp [retV]

theorem body_sound (hm : P.follows .mixedOrders = true) (hF : OracleOk P F) {g : FuncId} {fn : Func} {b : Code} (hfn : P.funcs[g]? = some fn) (hb : fn.body = some b) (hB : codeB fn.ntmps b = true) {A : Nat → List Nat × List Nat} {own : Bool} {L : Lp} {c c' : CSt}
    (hL : ∀ nt, fn.ntmps ≤ nt → LpOk P nt c.2.length A (loopsOf b) L) (h : bodyE P F L A own fn c = some c') (hent : ∀ w as, (callFunc g as).run P w = .ok (.enter g as) w) : CallOk P g c c' := by
  refine ⟨hent, fun w Z bl us hgl hmem hkn hkeys hus => ?_⟩
  unfold bodyE at h
  rw [hb] at h
  simp only at h
  rw [evK_law] at h
  obtain ⟨⟨e, σ⟩, h1, h2⟩ := Option.bind_eq_some_iff.1 h
  refine calls_of_wp hfn hb ?_
  have hlen := hus.length
  have R0 : Run P (us.toArray.size + (fn.ntmps - us.toArray.size)) c.2.length Z bl (objM c.2) w (· < c.2.length) (unc (List.range c.1.length) c).s (unc (List.range c.1.length) c).m Z bl { tmps := us.toArray ++ Array.replicate (fn.ntmps - us.toArray.size) undef, defers := [] } w := by
    have hs : ∀ t, (∃ v u, (unc (List.range c.1.length) c).s t = v ∧ c.1[t]? = some v ∧ us[t]? = some u) ∨ (unc (List.range c.1.length) c).s t = .one .un := fun t => by
      cases hi : idxIn (List.range c.1.length) t with
      | none => right; simp only [unc, hi]
      | some i =>
        have := idxIn_some hi
        rw [List.getElem?_range (by have := idxIn_lt hi; simpa using this)] at this
        simp only [Option.some.injEq] at this
        subst this
        have hlt := idxIn_lt hi
        simp only [List.length_range] at hlt
        left
        refine ⟨c.1[i], us[i]'(by omega), ?_, List.getElem?_eq_getElem hlt, List.getElem?_eq_getElem (by omega)⟩
        simp only [unc, hi, List.getD_eq_getElem?_getD, List.getElem?_eq_getElem hlt, Option.getD_some]
    refine ⟨Tr.refl hmem (fun _ h => h) hkn.al hkn.ck, fun t => ?_, fun t k hk => ?_, rfl, by simp, hgl⟩
    · rcases hs t with ⟨v, u, h3, h4, h5⟩ | h3
      · rw [h3]
        obtain ⟨u', hu', hr⟩ := hus.get t v h4
        rw [hu'] at h5
        simp only [Option.some.injEq] at h5
        subst h5
        have : ({ tmps := us.toArray ++ Array.replicate (fn.ntmps - us.toArray.size) undef, defers := [] } : Act).tmps.getD t undef = u' := by
          have hlt := (List.getElem?_eq_some_iff.1 hu').1
          have hu2 := (List.getElem?_eq_some_iff.1 hu').2
          simp [Array.getD_eq_getD_getElem?, Array.getElem?_append, hlt, hu2]
        rw [this]
        exact hr
      · rw [h3]; trivial
    · rcases hs t with ⟨v, u, h3, h4, h5⟩ | h3
      · rw [h3] at hk; exact hkeys v (List.mem_of_getElem? h4) k hk
      · rw [h3] at hk; simp [keysSV, SV.leaves, allKeysL] at hk
  refine code_sound hm hF (hL _ (by simp; omega)) (by simp; omega) b (fun _ h => h) hB _ e σ h1 R0 fun a' w' Z' bl' R' => ?_
  have fin : ∀ {e : Ex}, (∀ i, e ≠ .exit i) → finish P own c.2.length fn e σ = some c' → a'.defers = [] ∧ ∃ v, (results fn a'.tmps).run P w' = .ok v w' ∧ ∃ rs Z'' bl'', (.returned v : Ending) = .returned (retV rs) ∧ Tr P (· < c.2.length) (· < c'.2.length) Z bl (objM c.2) w Z'' bl'' (objM c'.2) w' ∧ All2 (SVRep P w' Z'' bl'' (objM c'.2)) c'.1 rs ∧ (∀ v ∈ c'.1, ∀ k ∈ keysSV v, k < c'.2.length) ∧ ∀ v ∈ c'.1, v.known = true := by
    intro e he hf
    have hf' : ((resVals P own σ.s σ.m σ.n fn.results.toList fn.resultTypes.toList).bind fun r =>
        bif (canV c.2.length r.1 (writeAll σ.m r.2)).1.all SV.known then some (canV c.2.length r.1 (writeAll σ.m r.2)) else none) = some c' := by
      cases e with
      | exit i => exact absurd rfl (he i)
      | next => exact hf
      | ret => exact hf
    obtain ⟨⟨vs, ws⟩, h3, h4⟩ := Option.bind_eq_some_iff.1 hf'
    simp only at h4
    cases hk : (canV c.2.length vs (writeAll σ.m ws)).1.all SV.known with
    | false => rw [hk] at h4; exact absurd h4 (by simp)
    | true =>
      rw [hk] at h4
      simp only [cond_true, Option.some.injEq] at h4
      subst h4
      have hsh : Shows σ.m σ.m := Shows.of fun _ _ => rfl
      obtain ⟨n, rs, hn, hrun, Z2, bl2, T2, _, hrep, _⟩ := resVals_sound (key := σ.n) R'.cx R'.slot R'.keys (R'.cx.refl fun _ h => h) hsh (fun j hj h => by omega) (fun j hj => R'.cx.kn.al j hj) h3
      obtain ⟨bl3, T3, h5, h6⟩ := canV_rep (R'.tr.trans T2) hrep
      exact ⟨R'.defers, retV rs, results_run hrun, rs, Z2, bl3, rfl, T3, h5, h6, fun v hv => List.all_eq_true.1 hk v hv⟩
  cases e with
  | next => exact fin (by simp) h2
  | exit i => simp [finish] at h2
  | ret => exact fin (by simp) h2

/-- A loop's name leads to it. -/
def loopsB (c : Code) : Bool := (dedup ((loopsOf c).map loopId)).length == (loopsOf c).length

end
end Go.Ev

namespace Go.Ev
open Go Go.RowKit

/-- Sharing. -/
abbrev Sh := {α R : Type} → α → (α → Option R) → Option R
def sh0 : Sh := fun x K => K x

/-- Numbers in a pack: an array of numbers as one list. -/
def nthI : List Int → Nat → Int
  | [], _ => 0
  | x :: _, 0 => x
  | _ :: r, n + 1 => nthI r n
def pkS (k : IntKind) (l : List Int) (n : Nat) : List SL := (List.range n).map fun j => .d (.int k (nthI l j))
def pkL (l : List Int) (n : Nat) : List Int := (List.range n).map fun j => nthI l j
/-- Cells of an element, and of a row whose elements have one cell. -/
def rowI (xs : List (List DL)) (i n : Nat) : List Int := (List.range n).map fun j => (cellAt xs i j).getI
def colI (xs : List (List DL)) (n : Nat) : List Int := (List.range n).map fun j => (cellAt xs j 0).getI
/-- Are two packs alike? -/
def eqI (l m : List Int) (n : Nat) : Bool := (List.range n).foldr (fun i acc => (nthI l i == nthI m i) && acc) true
def mapD (k : IntKind) (l : List Int) : List DL := l.map fun x => .int k x
def colD (l : List DL) : List (List DL) := l.map fun d => [d]

/-- One function's entry. -/
structure Ent where
  g : FuncId
  fits : CSt → Bool
  ask : {R : Type} → CSt → (CSt → Option R) → Option R
  law : ∀ {R : Type} (c : CSt) (K : CSt → Option R), ask c K = (ask c some).bind K

def mkEnt {α β : Type} (g : FuncId) {enc : α → CSt} (dec : (c : CSt) → Option { a : α // c = enc a }) (out : β → CSt) (outK : {R : Type} → (CSt → Option R) → β → Option R)
    (hout : ∀ {R : Type} (K : CSt → Option R) (b : β), outK K b = K (out b)) (f : α → Option β) : Ent where
  g := g
  fits := fun c => (dec c).isSome
  ask := fun c K => (dec c).bind fun a => (f a.1).bind (outK K)
  law := fun c K => by
    cases dec c with
    | none => rfl
    | some a =>
      simp only [Option.bind_some]
      cases f a.1 with
      | none => rfl
      | some b => simp only [Option.bind_some, hout]

def askL {R : Type} : List Ent → FuncId → CSt → (CSt → Option R) → Option R
  | [], _, _, _ => none
  | e :: r, g, c, K => bif Nat.beq e.g g && e.fits c then e.ask c K else askL r g c K

theorem askL_law {R : Type} (l : List Ent) (g : FuncId) (c : CSt) (K : CSt → Option R) : askL l g c K = (askL l g c some).bind K := by
  induction l with
  | nil => rfl
  | cons e r ih =>
    simp only [askL]
    cases (Nat.beq e.g g && e.fits c) with
    | true => exact e.law c K
    | false => exact ih

def tabO (sh : Sh) (hsh : ∀ {α R : Type} (x : α) (K : α → Option R), sh x K = K x) (br : FuncId → Bool) (ar : TypeId → Bool) (l : List Ent) : Oracle := ⟨sh, hsh, br, ar, askL l, askL_law l⟩

structure LEnt where
  id : Nat
  fits : CSt → Bool
  ask : {R : Type} → CSt → (Ex → CSt → Option R) → Option R
  law : ∀ {R : Type} (c : CSt) (K : Ex → CSt → Option R), ask c K = (ask c fun e c => some (e, c)).bind fun r => K r.1 r.2

def mkLEnt {α β : Type} (id : Nat) {enc : α → CSt} (dec : (c : CSt) → Option { a : α // c = enc a }) (out : β → Ex × CSt) (outK : {R : Type} → (Ex → CSt → Option R) → β → Option R)
    (hout : ∀ {R : Type} (K : Ex → CSt → Option R) (b : β), outK K b = K (out b).1 (out b).2) (f : α → Option β) : LEnt where
  id := id
  fits := fun c => (dec c).isSome
  ask := fun c K => (dec c).bind fun a => (f a.1).bind (outK K)
  law := fun c K => by
    cases dec c with
    | none => rfl
    | some a =>
      simp only [Option.bind_some]
      cases f a.1 with
      | none => rfl
      | some b => simp only [Option.bind_some, hout]

def askLL {R : Type} : List LEnt → Nat → CSt → (Ex → CSt → Option R) → Option R
  | [], _, _, _ => none
  | e :: r, g, c, K => bif Nat.beq e.id g && e.fits c then e.ask c K else askLL r g c K

theorem askLL_law {R : Type} (l : List LEnt) (g : Nat) (c : CSt) (K : Ex → CSt → Option R) : askLL l g c K = (askLL l g c fun e c => some (e, c)).bind fun r => K r.1 r.2 := by
  induction l with
  | nil => rfl
  | cons e r ih =>
    simp only [askLL]
    cases (Nat.beq e.id g && e.fits c) with
    | true => exact e.law c K
    | false => exact ih

def tabL (l : List LEnt) : Lp := ⟨askLL l, askLL_law l⟩

/-- The results, in the form of a continuation. -/
def resValsK {R : Type} (P : Program) (own : Bool) (s : Nat → SV) (m : Nat → Obj) : Nat → List ResultVar → List TypeId → (List SV × List (Nat × Obj) → Option R) → Option R
  | _, [], [], K => K ([], [])
  | key, .tmp t :: rs, ty :: tys, K => (kindsOf P ty).bind fun ks =>
      (resSV P own m key ks (s t)).bind fun (a : SV × List (Nat × Obj)) => resValsK P own s m (key + ks.length) rs tys fun b => K (a.1 :: b.1, a.2 ++ b.2)
  | key, .cell a t :: rs, ty :: tys, K => (kindsOf P ty).bind fun ks =>
      match s a with
      | .one p => (loadE P m t p).bind fun v => bif v.1 then
          ((resSV P own m key ks v.2).bind fun (a : SV × List (Nat × Obj)) => resValsK P own s m (key + ks.length) rs tys fun b => K (a.1 :: b.1, a.2 ++ b.2)) else none
      | _ => none
  | _, _, _, _ => none

theorem resValsK_eq {R : Type} {P : Program} {own : Bool} {s : Nat → SV} {m : Nat → Obj} : ∀ (rs : List ResultVar) (tys : List TypeId) (key : Nat) (K : List SV × List (Nat × Obj) → Option R), resValsK P own s m key rs tys K = (resVals P own s m key rs tys).bind K := by
  intro rs
  induction rs with
  | nil => intro tys key K; cases tys <;> rfl
  | cons r rs ih =>
    intro tys key K
    cases tys with
    | nil => cases r <;> rfl
    | cons ty tys =>
      cases r with
      | tmp t =>
        simp only [resValsK, resVals, Option.bind_assoc, Option.bind_some]
        congr 1; funext ks
        congr 1; funext a
        rw [ih, Option.bind_map]; rfl
      | cell a t =>
        simp only [resValsK, resVals, Option.bind_assoc]
        congr 1; funext ks
        cases hs : s a with
        | one p =>
          simp only [Option.bind_assoc]
          congr 1; funext v
          cases hv : v.1 with
          | false => rfl
          | true =>
            simp only [cond_true, Option.bind_some]
            congr 1; funext a
            rw [ih, Option.bind_map]; rfl
        | _ => rfl

def finishK {R : Type} (P : Program) (own : Bool) (nf : Nat) (fn : Func) (e : Ex) (σ : St) (K : CSt → Option R) : Option R :=
  match e with
  | .exit _ => none
  | _ => resValsK P own σ.s σ.m σ.n fn.results.toList fn.resultTypes.toList fun r =>
    let c := canV nf r.1 (writeAll σ.m r.2)
    bif c.1.all SV.known then K c else none

theorem finishK_eq {R : Type} (P : Program) (own : Bool) (nf : Nat) (fn : Func) (e : Ex) (σ : St) (K : CSt → Option R) : finishK P own nf fn e σ K = (finish P own nf fn e σ).bind K := by
  cases e with
  | exit i => rfl
  | _ =>
    simp only [finishK, finish, resValsK_eq, Option.bind_assoc]
    congr 1; funext r
    cases ((canV nf r.1 (writeAll σ.m r.2)).1.all SV.known) <;> rfl

/-- A body, with what becomes of its result. -/
def bodyK {R : Type} (P : Program) (F : Oracle) (L : Lp) (A : Nat → List Nat × List Nat) (own : Bool) (fn : Func) (c : CSt) (K : CSt → Option R) : Option R :=
  match fn.body with
  | some b => evK P F L A c.2.length b (fun e σ => finishK P own c.2.length fn e σ K) (unc (List.range c.1.length) c)
  | none => none

theorem bodyK_eq {R : Type} (P : Program) (F : Oracle) (L : Lp) (A : Nat → List Nat × List Nat) (own : Bool) (fn : Func) (c : CSt) (K : CSt → Option R) : bodyK P F L A own fn c K = (bodyE P F L A own fn c).bind K := by
  unfold bodyK bodyE
  cases fn.body with
  | none => rfl
  | some b =>
    simp only [finishK_eq]
    rw [evK_law, evK_law P F L A c.2.length b (finish P own c.2.length fn), Option.bind_assoc]

def roundK {R : Type} (P : Program) (F : Oracle) (L : Lp) (A : Nat → List Nat × List Nat) (nf : Nat) (fn : Func) (id : Nat) (st : CSt) (K : Ex → CSt → Option R) : Option R :=
  match fn.body with
  | some b => match loopIn id b with
    | some c => evK P F L A nf c (fun e σ => match e with | .next => L.ask id (can nf (A id).1 σ) K | e => K e (can nf (A id).2 σ)) (unc (A id).1 st)
    | none => none
  | none => none

/-- A round of the loop of a given name. -/
def LoopAt (P : Program) (nt nf : Nat) (A : Nat → List Nat × List Nat) (fn : Func) (id : Nat) (st : CSt) (r : Ex × CSt) : Prop :=
  fn.ntmps ≤ nt → ∀ b c, fn.body = some b → c ∈ loopsOf b → loopId c = id → ∃ n, LoopOk P nt nf A c n st r.1 r.2

section
variable {P : Program}

theorem mkEnt_ok {α β : Type} {g : FuncId} {enc : α → CSt} {dec : (c : CSt) → Option { a : α // c = enc a }} {out : β → CSt} {outK : {R : Type} → (CSt → Option R) → β → Option R} {hout : ∀ {R : Type} (K : CSt → Option R) (b : β), outK K b = K (out b)}
    {f : α → Option β} (h : ∀ a b, f a = some b → CallOk P g (enc a) (out b)) : ∀ c c', (mkEnt g dec out outK hout f).ask c some = some c' → CallOk P (mkEnt g dec out outK hout f).g c c' := by
  intro c c' hc
  obtain ⟨⟨a, rfl⟩, _, h2⟩ := Option.bind_eq_some_iff.1 hc
  obtain ⟨b, h3, h4⟩ := Option.bind_eq_some_iff.1 h2
  have h5 : outK some b = some c' := h4
  rw [hout] at h5
  injection h5 with h5
  subst h5
  exact h a b h3

/-- All entries keep what they promise. -/
inductive AllOk (P : Program) : List Ent → Prop
  | nil : AllOk P []
  | cons {e : Ent} {l : List Ent} (h : ∀ c c', e.ask c some = some c' → CallOk P e.g c c') (t : AllOk P l) : AllOk P (e :: l)

theorem tabO_ok {sh : Sh} {hsh : ∀ {α R : Type} (x : α) (K : α → Option R), sh x K = K x} {br : FuncId → Bool} {ar : TypeId → Bool} {l : List Ent} (h : AllOk P l) : OracleOk P (tabO sh hsh br ar l) := by
  intro g c c' hc
  have hc' : askL l g c some = some c' := hc
  clear hc
  induction h with
  | nil => simp [askL] at hc'
  | cons h t ih =>
    rename_i e l
    simp only [askL] at hc'
    cases hb : (Nat.beq e.g g && e.fits c) with
    | true =>
      rw [hb] at hc'
      simp only [Bool.and_eq_true] at hb
      have := Nat.eq_of_beq_eq_true hb.1
      subst this
      exact h c c' hc'
    | false => rw [hb] at hc'; exact ih hc'

def AllLOk (P : Program) (nt nf : Nat) (A : Nat → List Nat × List Nat) (fn : Func) (l : List LEnt) : Prop :=
  ∀ e ∈ l, ∀ c r, e.ask c (fun e c => some (e, c)) = some r → LoopAt P nt nf A fn e.id c r

theorem AllLOk.nil {nt nf : Nat} {A : Nat → List Nat × List Nat} {fn : Func} : AllLOk P nt nf A fn [] := fun e h => by simp at h

theorem AllLOk.cons {nt nf : Nat} {A : Nat → List Nat × List Nat} {fn : Func} {e : LEnt} {l : List LEnt} (h : ∀ c r, e.ask c (fun e c => some (e, c)) = some r → LoopAt P nt nf A fn e.id c r) (t : AllLOk P nt nf A fn l) : AllLOk P nt nf A fn (e :: l) := fun x hx => by
  rcases List.mem_cons.1 hx with rfl | hx
  · exact h
  · exact t x hx

theorem mkLEnt_ok {α β : Type} {nt nf : Nat} {A : Nat → List Nat × List Nat} {fn : Func} {id : Nat} {enc : α → CSt} {dec : (c : CSt) → Option { a : α // c = enc a }} {out : β → Ex × CSt} {outK : {R : Type} → (Ex → CSt → Option R) → β → Option R} {hout : ∀ {R : Type} (K : Ex → CSt → Option R) (b : β), outK K b = K (out b).1 (out b).2}
    {f : α → Option β} (h : ∀ a b, f a = some b → LoopAt P nt nf A fn id (enc a) (out b)) : ∀ c r, (mkLEnt id dec out outK hout f).ask c (fun e c => some (e, c)) = some r → LoopAt P nt nf A fn (mkLEnt id dec out outK hout f).id c r := by
  intro c r hc
  obtain ⟨⟨a, rfl⟩, _, h2⟩ := Option.bind_eq_some_iff.1 hc
  obtain ⟨b, h3, h4⟩ := Option.bind_eq_some_iff.1 h2
  have h5 : outK (fun e c => some (e, c)) b = some r := h4
  rw [hout] at h5
  injection h5 with h5
  subst h5
  exact h a b h3

theorem askLL_mem {l : List LEnt} {id : Nat} {c : CSt} {r : Ex × CSt} (h : askLL l id c (fun e c => some (e, c)) = some r) : ∃ e ∈ l, e.id = id ∧ e.ask c (fun e c => some (e, c)) = some r := by
  induction l with
  | nil => simp [askLL] at h
  | cons e l ih =>
    simp only [askLL] at h
    cases hb : (Nat.beq e.id id && e.fits c) with
    | true =>
      rw [hb] at h
      simp only [Bool.and_eq_true] at hb
      exact ⟨e, List.mem_cons_self .., Nat.eq_of_beq_eq_true hb.1, h⟩
    | false =>
      rw [hb] at h
      obtain ⟨x, hx, h1⟩ := ih h
      exact ⟨x, List.mem_cons_of_mem _ hx, h1⟩

theorem tabL_ok {nt nf : Nat} {A : Nat → List Nat × List Nat} {fn : Func} {b : Code} (hb : fn.body = some b) (hnt : fn.ntmps ≤ nt) {l : List LEnt} (h : AllLOk P nt nf A fn l) : LpOk P nt nf A (loopsOf b) (tabL l) := by
  intro c hc st e st' hask
  obtain ⟨x, hx, hid, hr⟩ := askLL_mem hask
  exact h x hx st (e, st') hr hnt b c hb hc hid.symm

/-- A function is entered. -/
theorem enter_ok {g : FuncId} {fn : Func} {b : Code} (hfn : P.funcs[g]? = some fn) (hb : fn.body = some b) (hn : (fn.name == "runtime.NumGoroutine") = false) (w : World) (as : Array Value) : (callFunc g as).run P w = .ok (.enter g as) w := by
  have hn' : ¬ fn.name = "runtime.NumGoroutine" := by simpa using hn
  unfold callFunc
  simp [hfn, hb, hn']

/-- What is asked of a function's text. -/
def funcB (fn : Func) : Bool :=
  match fn.body with
  | some b => codeB fn.ntmps b && loopsB b && !(fn.name == "runtime.NumGoroutine")
  | none => false

theorem call_ok (hm : P.follows .mixedOrders = true) {g : FuncId} {fn : Func} (hfn : P.funcs[g]? = some fn) (hB : funcB fn = true) {sh : Sh} {hsh : ∀ {α R : Type} (x : α) (K : α → Option R), sh x K = K x} {br : FuncId → Bool} {ar : TypeId → Bool} {l : List Ent} (hl : AllOk P l)
    {A : Nat → List Nat × List Nat} {own : Bool} {ll : List LEnt} {c c' : CSt} (hll : ∀ nt, AllLOk P nt c.2.length A fn ll) (h : bodyK P (tabO sh hsh br ar l) (tabL ll) A own fn c some = some c') : CallOk P g c c' := by
  unfold funcB at hB
  cases hb : fn.body with
  | none => rw [hb] at hB; exact absurd hB (by simp)
  | some b =>
    rw [hb] at hB
    simp only [Bool.and_eq_true, Bool.not_eq_true'] at hB
    rw [bodyK_eq] at h
    obtain ⟨c1, h1, h2⟩ := Option.bind_eq_some_iff.1 h
    injection h2 with h2
    subst h2
    exact body_sound hm (tabO_ok hl) hfn hb hB.1.1 (fun nt hnt => tabL_ok hb hnt (hll nt)) h1 (enter_ok hfn hb hB.2)

theorem dedup_len {l : List Nat} : (dedup l).length ≤ l.length := by
  induction l with
  | nil => exact Nat.le_refl _
  | cons k r ih => simp only [dedup, List.length_cons]; exact Nat.succ_le_succ (Nat.le_trans (List.length_filter_le ..) ih)

theorem dedup_nodup_of_len : ∀ {l : List Nat}, (dedup l).length = l.length → l.Nodup := by
  intro l
  induction l with
  | nil => intro _; simp
  | cons k r ih =>
    intro h
    simp only [dedup, List.length_cons, Nat.add_right_cancel_iff] at h
    have h1 := List.length_filter_le (fun j => !Nat.beq j k) (dedup r)
    have h2 := dedup_len (l := r)
    have h3 : (dedup r).length = r.length := by omega
    have h4 : ((dedup r).filter fun j => !Nat.beq j k).length = (dedup r).length := by omega
    refine List.nodup_cons.2 ⟨fun hk => ?_, ih h3⟩
    have := List.length_filter_eq_length_iff.1 h4 k (mem_dedup.2 hk)
    rw [show Nat.beq k k = true from Nat.beq_refl k] at this
    simp at this

theorem loopIn_of {b c : Code} (h : loopsB b = true) (hc : c ∈ loopsOf b) : loopIn (loopId c) b = some c := by
  unfold loopsB at h
  have hn := dedup_nodup_of_len (l := (loopsOf b).map loopId) (by simpa using h)
  unfold loopIn
  generalize loopsOf b = l at *
  clear h
  induction l with
  | nil => simp at hc
  | cons x l ih =>
    simp only [List.map_cons, List.nodup_cons] at hn
    rw [List.find?_cons]
    rcases List.mem_cons.1 hc with rfl | hc
    · rw [show Nat.beq (loopId c) (loopId c) = true from Nat.beq_refl _]
    · have hne : loopId x ≠ loopId c := fun e => hn.1 (e ▸ List.mem_map.2 ⟨c, hc, rfl⟩)
      rw [beq_false hne]
      exact ih hc hn.2

theorem loopsOf_sub : ∀ {b c : Code}, c ∈ loopsOf b → ∀ x ∈ loopsOf c, x ∈ loopsOf b := by
  intro b
  induction b with
  | seq x y ihx ihy =>
    intro c hc z hz
    simp only [loopsOf, List.mem_append] at hc ⊢
    exact hc.imp (fun h => ihx h z hz) (fun h => ihy h z hz)
  | cond o x y ihx ihy =>
    intro c hc z hz
    simp only [loopsOf, List.mem_append] at hc ⊢
    exact hc.imp (fun h => ihx h z hz) (fun h => ihy h z hz)
  | block i x ih => intro c hc z hz; exact ih hc z hz
  | loop x ih =>
    intro c hc z hz
    simp only [loopsOf, List.mem_cons] at hc ⊢
    rcases hc with rfl | hc
    · exact .inr hz
    · exact .inr (ih hc z hz)
  | _ => intro c hc; simp [loopsOf] at hc

theorem codeB_sub {nt : Nat} : ∀ {b c : Code}, codeB nt b = true → c ∈ loopsOf b → codeB nt c = true := by
  intro b
  induction b with
  | seq x y ihx ihy =>
    intro c h hc
    simp only [codeB, Bool.and_eq_true] at h
    simp only [loopsOf, List.mem_append] at hc
    exact hc.elim (ihx h.1) (ihy h.2)
  | cond o x y ihx ihy =>
    intro c h hc
    simp only [codeB, Bool.and_eq_true] at h
    simp only [loopsOf, List.mem_append] at hc
    exact hc.elim (ihx h.1) (ihy h.2)
  | block i x ih => intro c h hc; exact ih h hc
  | loop x ih =>
    intro c h hc
    simp only [loopsOf, List.mem_cons] at hc
    rcases hc with rfl | hc
    · exact h
    · exact ih h hc
  | _ => intro c h hc; simp [loopsOf] at hc

theorem roundK_eq {F : Oracle} {L : Lp} {A : Nat → List Nat × List Nat} {nf : Nat} {fn : Func} {b c : Code} (hb : fn.body = some b) (hc : loopIn (loopId c) b = some c) {st : CSt} : roundK P F L A nf fn (loopId c) st (fun e c => some (e, c)) = roundE P F L A nf c st := by
  unfold roundK roundE
  rw [hb]
  simp only [hc]
  congr 1

/-- One round more. -/
theorem round_ok (hm : P.follows .mixedOrders = true) {fn : Func} (hB : funcB fn = true) {sh : Sh} {hsh : ∀ {α R : Type} (x : α) (K : α → Option R), sh x K = K x} {br : FuncId → Bool} {ar : TypeId → Bool} {l : List Ent} (hl : AllOk P l)
    {nt nf : Nat} {A : Nat → List Nat × List Nat} {id : Nat} {ll : List LEnt} (hll : AllLOk P nt nf A fn ll) {st : CSt} {r : Ex × CSt}
    (h : roundK P (tabO sh hsh br ar l) (tabL ll) A nf fn id st (fun e c => some (e, c)) = some r) : LoopAt P nt nf A fn id st r := by
  intro hnt b c hb hc hid
  subst hid
  unfold funcB at hB
  rw [hb] at hB
  simp only [Bool.and_eq_true] at hB
  rw [roundK_eq hb (loopIn_of hB.1.2 hc)] at h
  have hL : LpOk P nt nf A (loopsOf b) (tabL ll) := tabL_ok hb hnt hll
  exact round_sound hm (tabO_ok hl) hnt (codeB_sub hB.1.1 hc) hc (fun x hx => loopsOf_sub hc x hx) hL h

/-- Rounds, counted. -/
def iter {α β : Type} (step : (α → Option β) → α → Option β) : Nat → α → Option β
  | 0, _ => none
  | n + 1, a => step (iter step n) a

theorem iter_ok {α β : Type} {G : α → β → Prop} {step : (α → Option β) → α → Option β} (hs : ∀ f : α → Option β, (∀ a b, f a = some b → G a b) → ∀ a b, step f a = some b → G a b) :
    ∀ n a b, iter step n a = some b → G a b := by
  intro n
  induction n with
  | zero => intro a b h; simp [iter] at h
  | succ n ih => intro a b h; exact hs _ ih a b h

/-- Two ways out. -/
def two {α β γ : Type} (f : α → γ) (g : β → γ) : α ⊕ β → γ
  | .inl a => f a
  | .inr b => g b

theorem two_bind {α β γ δ : Type} (f : α → Option γ) (g : β → Option γ) (x : α ⊕ β) (K : γ → Option δ) : (two f g x).bind K = two (fun a => (f a).bind K) (fun b => (g b).bind K) x := by cases x <;> rfl
theorem cond_bind' {γ δ : Type} (c : Bool) (x y : Option γ) (K : γ → Option δ) : (bif c then x else y).bind K = bif c then x.bind K else y.bind K := by cases c <;> rfl
theorem none_bind' {γ δ : Type} (K : γ → Option δ) : (none : Option γ).bind K = none := rfl

end
end Go.Ev

namespace Go.Ev
open Go Go.RowKit Go.ChangeShapes Go.WideShapes Go.ChangeAt

/-- A type of plain data, to the bottom. -/
def deepB (P : Program) : Nat → TypeId → Bool
  | 0, _ => false
  | n + 1, t =>
    match P.underlying t with
    | some .bool | some (.int _) | some .string => true
    | some (.slice e) => (elemKinds P e).isSome && deepB P n e
    | some (.struct fs) => fs.toList.all fun f => deepB P n f.type
    | some (.array _ e) => (kindsOf P e).isSome && deepB P n e
    | _ => false

/-- Data in their bounds: S of a text's size, V of a row's length. -/
inductive DWf (P : Program) (S : Nat → Prop) (V : TypeId → Nat → Prop) : CK → DL → Prop
  | int (k : IntKind) (n : Int) (h : (Lit.int k n).wf = true) : DWf P S V (.int k) (.int k n)
  | bool (b : Bool) : DWf P S V .bool (.bool b)
  | str (s : ByteArray) (hm : s.size ≤ maxLen) (h : S s.size) : DWf P S V .str (.str s)
  | lst (e : TypeId) (ks : List CK) (xs : List (List DL)) (hk : elemKinds P e = some ks) (hm : xs.length ≤ maxLen) (hv : xs ≠ [] → V e xs.length) (hl : ∀ x ∈ xs, x.length = ks.length)
      (hx : ∀ (i j : Nat) x k y, xs[i]? = some x → ks[j]? = some k → x[j]? = some y → DWf P S V k y) : DWf P S V (.slice e) (.lst e xs)

section
variable {H : Type} {enc : TypeId × Value → H} {P : Program} {w : World} {base : Nat} {spare : Nat → Bool} {held : Bool} {S : Nat → Prop} {V : TypeId → Nat → Prop}

/-- What is asked of a reading, to the bottom. -/
structure Good (P : Program) (S : Nat → Prop) (V : TypeId → Nat → Prop) (G : TypeId → DataW H → Prop) : Prop where
  str : ∀ t bs, G t (.lit (.string bs)) → S bs.length
  slc : ∀ t e a b, P.underlying t = some (.slice e) → G t (.slice a b) → V e a.length ∧ ∀ d ∈ a, G e d
  stc : ∀ t fs ds, P.underlying t = some (.struct fs) → G t (.agg ds) → ∀ (i : Nat) f d, fs.toList[i]? = some f → ds[i]? = some d → G f.type d
  arr : ∀ t n e ds, P.underlying t = some (.array n e) → G t (.agg ds) → ∀ d ∈ ds, G e d

def ZP (ps : List MemPlace) (a : Addr) : Prop := a.spot = none ∧ MemPlace.cell a.block a.off ∈ ps

def RepAt (P : Program) (w : World) (Z : Addr → Prop) (S : Nat → Prop) (V : TypeId → Nat → Prop) (ks : List CK) (xs : List DL) (cs : List Value) : Prop :=
  xs.length = ks.length ∧ ∀ (j : Nat) k, ks[j]? = some k → ∃ x c, xs[j]? = some x ∧ cs[j]? = some c ∧ DRep P w Z k x c ∧ DWf P S V k x

theorem list_of_forall {α : Type} {Q : Nat → α → Prop} : ∀ (n : Nat), (∀ i, i < n → ∃ x, Q i x) → ∃ l : List α, l.length = n ∧ ∀ i x, l[i]? = some x → Q i x := by
  intro n
  induction n with
  | zero => intro _; exact ⟨[], rfl, fun i x h => by simp at h⟩
  | succ n ih =>
    intro h
    obtain ⟨l, h1, h2⟩ := ih fun i hi => h i (by omega)
    obtain ⟨x, hx⟩ := h n (by omega)
    refine ⟨l ++ [x], by simp [h1], fun i y hy => ?_⟩
    rcases Nat.lt_or_ge i l.length with hi | hi
    · rw [List.getElem?_append_left hi] at hy; exact h2 i y hy
    · rw [List.getElem?_append_right hi] at hy
      cases hd : i - l.length with
      | zero =>
        rw [hd] at hy
        simp only [List.getElem?_cons_zero, Option.some.injEq] at hy
        subst hy
        have : i = n := by omega
        subst this; exact hx
      | succ m => rw [hd] at hy; simp at hy

theorem foldl_none {α β : Type} {f : α → List β → Option (List β)} : ∀ l : List α, l.foldl (fun acc a => acc.bind (f a)) none = none := by
  intro l
  induction l with
  | nil => rfl
  | cons a l ih => exact ih

theorem foldl_mono {α β : Type} {f g : α → List β → Option (List β)} (h : ∀ a x y, f a x = some y → g a x = some y) : ∀ (l : List α) (x : List β) y, l.foldl (fun acc a => acc.bind (f a)) (some x) = some y → l.foldl (fun acc a => acc.bind (g a)) (some x) = some y := by
  intro l
  induction l with
  | nil => intro x y h; exact h
  | cons a l ih =>
    intro x y hy
    rw [List.foldl_cons, Option.bind_some] at hy ⊢
    cases hf : f a x with
    | none => rw [hf, foldl_none] at hy; exact absurd hy (by simp)
    | some z => rw [hf] at hy; rw [h a x z hf]; exact ih z y hy

theorem kindsAt_mono : ∀ {d : Nat} {t : TypeId} {l : List CK}, kindsAt P d t = some l → kindsAt P (d + 1) t = some l := by
  intro d
  induction d with
  | zero => intro t l h; simp [kindsAt] at h
  | succ d ih =>
    intro t l h
    unfold kindsAt at h ⊢
    cases hu : P.underlying t with
    | none => rw [hu] at h; simp at h
    | some u =>
      rw [hu] at h
      cases u with
      | struct fs =>
        simp only at h ⊢
        refine foldl_mono (f := fun (f : Field) l => if f.offset = l.length then (kindsAt P d f.type).map (l ++ ·) else none) (g := fun (f : Field) l => if f.offset = l.length then (kindsAt P (d + 1) f.type).map (l ++ ·) else none) (fun f x y hf => ?_) _ _ _ h
        split at hf
        · rename_i ho
          obtain ⟨k, hk, rfl⟩ := Option.map_eq_some_iff.1 hf
          rw [if_pos ho, ih hk]; rfl
        · exact absurd hf (by simp)
      | array n e =>
        simp only at h ⊢
        obtain ⟨k, hk, rfl⟩ := Option.map_eq_some_iff.1 h
        rw [ih hk]; rfl
      | _ => exact h

theorem kindsAt_le {d d' : Nat} {t : TypeId} {l : List CK} (h : kindsAt P d t = some l) (hd : d ≤ d') : kindsAt P d' t = some l := by
  induction hd with
  | refl => exact h
  | step _ ih => exact kindsAt_mono ih

theorem kindsAt_kinds {d : Nat} {t : TypeId} {l l' : List CK} (h : kindsAt P d t = some l) (hd : d ≤ 12) (h' : kindsOf P t = some l') : l = l' ∧ l.length = P.cellsOf t := by
  have h1 := kindsAt_le h hd
  have h2 := kindsOf_len h'
  unfold kindsOf at h'
  rw [h1] at h'
  split at h'
  · rename_i x hx
    simp only [Option.some.injEq] at hx
    subst hx
    split at h'
    · simp only [Option.some.injEq] at h'; subst h'; exact ⟨rfl, h2⟩
    · exact absurd h' (by simp)
  · exact absurd h' (by simp)

/-- The fields' kinds, one behind the other. -/
theorem struct_kinds {d : Nat} : ∀ (fs : List Field) (x l : List CK), fs.foldl (fun acc f => acc.bind fun l => if f.offset = l.length then (kindsAt P d f.type).map (l ++ ·) else none) (some x) = some l →
    (∃ r, l = x ++ r) ∧ ∀ j k, x.length ≤ j → l[j]? = some k → ∃ (i : Nat) (f : Field) (kf : List CK) (q : Nat), fs[i]? = some f ∧ kindsAt P d f.type = some kf ∧ j = f.offset + q ∧ kf[q]? = some k := by
  intro fs
  induction fs with
  | nil =>
    intro x l h
    simp only [List.foldl_nil, Option.some.injEq] at h
    subst h
    exact ⟨⟨[], by simp⟩, fun j k hj hk => by rw [List.getElem?_eq_none hj] at hk; simp at hk⟩
  | cons f fs ih =>
    intro x l h
    rw [List.foldl_cons, Option.bind_some] at h
    by_cases ho : f.offset = x.length
    · rw [if_pos ho] at h
      cases hk : kindsAt P d f.type with
      | none => rw [hk, Option.map_none, foldl_none] at h; exact absurd h (by simp)
      | some kf =>
        rw [hk, Option.map_some] at h
        obtain ⟨⟨r, hr⟩, h2⟩ := ih _ _ h
        refine ⟨⟨kf ++ r, by rw [hr, List.append_assoc]⟩, fun j k hj hjk => ?_⟩
        rcases Nat.lt_or_ge j (x ++ kf).length with hlt | hge
        · refine ⟨0, f, kf, j - x.length, rfl, hk, by omega, ?_⟩
          rw [hr, List.getElem?_append_left hlt, List.getElem?_append_right hj] at hjk
          exact hjk
        · obtain ⟨i, f', kf', q, h3, h4, h5, h6⟩ := h2 j k hge hjk
          exact ⟨i + 1, f', kf', q, by simpa using h3, h4, h5, h6⟩
    · rw [if_neg ho, foldl_none] at h; exact absurd h (by simp)

theorem flatten_replicate_inv {α : Type} {l : List α} : ∀ {n j : Nat} {k : α}, (List.replicate n l).flatten[j]? = some k → ∃ i q, i < n ∧ j = i * l.length + q ∧ l[q]? = some k := by
  intro n
  induction n with
  | zero => intro j k h; simp at h
  | succ n ih =>
    intro j k h
    rw [List.replicate_succ, List.flatten_cons] at h
    rcases Nat.lt_or_ge j l.length with hj | hj
    · rw [List.getElem?_append_left hj] at h; exact ⟨0, j, by omega, by simp, h⟩
    · rw [List.getElem?_append_right hj] at h
      obtain ⟨i, q, h1, h2, h3⟩ := ih h
      exact ⟨i + 1, q, by omega, by rw [Nat.add_mul]; omega, h3⟩

theorem RepAt.mono {Z Z' : Addr → Prop} (hz : ∀ a, Z a → Z' a) {ks : List CK} {xs : List DL} {cs : List Value} (h : RepAt P w Z S V ks xs cs) : RepAt P w Z' S V ks xs cs :=
  ⟨h.1, fun j k hk => by obtain ⟨x, c, h1, h2, h3, h4⟩ := h.2 j k hk; exact ⟨x, c, h1, h2, h3.mono (fun _ _ => rfl) hz, h4⟩⟩

/-- One by one gives the list. -/
theorem repAt_of {Z : Addr → Prop} {ks : List CK} {cs : List Value} (h : ∀ (j : Nat) k, ks[j]? = some k → ∃ x c, cs[j]? = some c ∧ DRep P w Z k x c ∧ DWf P S V k x) : ∃ xs, RepAt P w Z S V ks xs cs := by
  obtain ⟨xs, h1, h2⟩ := list_of_forall (Q := fun j x => ∀ k, ks[j]? = some k → ∃ c, cs[j]? = some c ∧ DRep P w Z k x c ∧ DWf P S V k x) ks.length fun j hj => by
    obtain ⟨x, c, hc, hd, hw⟩ := h j ks[j] (List.getElem?_eq_getElem hj)
    exact ⟨x, fun k hk => by rw [List.getElem?_eq_getElem hj] at hk; simp only [Option.some.injEq] at hk; subst hk; exact ⟨c, hc, hd, hw⟩⟩
  refine ⟨xs, h1, fun j k hk => ?_⟩
  have hj : j < xs.length := by rw [h1]; exact (List.getElem?_eq_some_iff.1 hk).1
  obtain ⟨c, hc, hd, hw⟩ := h2 j xs[j] (List.getElem?_eq_getElem hj) k hk
  exact ⟨xs[j], c, List.getElem?_eq_getElem hj, hc, hd, hw⟩

theorem zp_sub {p q : List MemPlace} (h : ∀ x ∈ p, x ∈ q) : ∀ a, ZP p a → ZP q a := fun _ ha => ⟨ha.1, h _ ha.2⟩

theorem add_mul_lt {b off i sz j : Nat} : ((⟨b, off, none⟩ : Addr).add (i * sz)).add j = ⟨b, off + (i * sz + j), none⟩ := by
  rw [addr_add, addr_add]
  congr 1; omega

theorem trod_rep {G : TypeId → DataW H → Prop} (hG : Good P S V G) : ∀ (fuel : Nat) {t : TypeId} {cs : List Value} {d : DataW H} {ps : List MemPlace} {n dep : Nat} {ks : List CK}, DataW.trod enc P w base spare held fuel t cs = some (d, ps) → deepB P n t = true → dep ≤ 12 → kindsAt P dep t = some ks → G t d →
    ∃ xs, RepAt P w (ZP ps) S V ks xs cs := by
  intro fuel
  induction fuel with
  | zero => intro t cs d ps n dep ks h; simp [DataW.trod] at h
  | succ fuel ih =>
    intro t cs d ps n dep ks h hdeep hdep hks hg
    cases n with
    | zero => simp [deepB] at hdeep
    | succ n =>
    cases dep with
    | zero => simp [kindsAt] at hks
    | succ dep =>
    have one : ∀ {k : CK} {x : DL} {c : Value}, some [k] = some ks → cs = [c] → DRep P w (ZP ps) k x c → DWf P S V k x → ∃ xs, RepAt P w (ZP ps) S V ks xs cs := by
      intro k x c e1 e2 h1 h2
      simp only [Option.some.injEq] at e1
      subst e1; subst e2
      refine ⟨[x], rfl, fun j k' hk => ?_⟩
      cases j with
      | zero => simp at hk; subst hk; exact ⟨x, c, rfl, rfl, h1, h2⟩
      | succ j => simp at hk
    unfold deepB at hdeep
    unfold kindsAt at hks
    cases hu : P.underlying t with
    | none => rw [hu] at hdeep; simp at hdeep
    | some u =>
      rw [hu] at hdeep hks
      cases u with
      | bool =>
        obtain ⟨b, rfl, hx⟩ := DataW.trod_bool hu h
        exact one hks rfl (.bool b) (.bool b)
      | int k =>
        obtain ⟨m, rfl, hx, hw⟩ := DataW.trod_int hu h
        exact one hks rfl (.int k m) (.int k m hw)
      | string =>
        obtain ⟨s, rfl, hx, hm⟩ := DataW.trod_string hu h
        simp only [Prod.mk.injEq] at hx
        obtain ⟨rfl, rfl⟩ := hx
        exact one hks rfl (.str s) (.str s hm (by have := hG.str _ _ hg; simpa using this))
      | slice e =>
        simp only [Bool.and_eq_true] at hdeep
        obtain ⟨ek, hek⟩ := Option.isSome_iff_exists.1 hdeep.1
        have hel := elemKinds_len hek
        have hkind : kindsAt P 12 e = some ek := by
          have := elemKinds_kinds hek
          unfold kindsOf at this
          split at this
          · rename_i l hl
            split at this
            · simp only [Option.some.injEq] at this; subst this; exact hl
            · exact absurd this (by simp)
          · exact absurd this (by simp)
        rcases DataW.trod_slice hu h with ⟨rfl, hx⟩ | ⟨a, len, cap, elems, rest, m, hm, rfl, hx, hb, hlc, hcm, hlen, hel2, _, _⟩
        · exact one hks rfl (.nil e none 0) (.lst e ek [] hek (by simp) (fun h => absurd rfl h) (fun x hx => by simp at hx) (fun i j x k y hx => by simp at hx))
        · simp only [Prod.mk.injEq] at hx
          obtain ⟨rfl, rfl⟩ := hx
          simp only [Nat.add_right_cancel_iff] at hm
          subst hm
          obtain ⟨hv, hge⟩ := hG.slc _ _ _ _ hu hg
          -- the elements
          have hel3 : ∀ i, i < len → ∃ xs : List DL, xs.length = ek.length ∧ ∀ (j : Nat) k, ek[j]? = some k → ∃ x c, xs[j]? = some x ∧ w.cell? ((a.add (i * P.cellsOf e)).add j) = some c ∧ DRep P w (ZP (MemPlace.row a ((elems.length + rest.length) * P.cellsOf e) ++ (elems ++ rest).flatMap (·.2))) k x c ∧ DWf P S V k x := by
            intro i hi
            have h1 := hel2 i hi
            have hie : i < elems.length := by omega
            rw [List.getElem?_eq_getElem hie] at h1
            obtain ⟨csi, hcs, htr⟩ := Option.bind_eq_some_iff.1 h1
            obtain ⟨_, hcl, hcc⟩ := World.cells?_some hcs
            have hmem : elems[i] ∈ elems := List.getElem_mem hie
            obtain ⟨xs, hr1, hr2⟩ := ih (t := e) (cs := csi) (d := elems[i].1) (ps := elems[i].2) (n := n) (dep := 12) htr hdeep.2 (Nat.le_refl _) hkind (hge _ (List.mem_map.2 ⟨_, hmem, rfl⟩))
            refine ⟨xs, hr1, fun j k hk => ?_⟩
            obtain ⟨x, c, h2, h3, h4, h5⟩ := hr2 j k hk
            have hj : j < P.cellsOf e := by rw [← hel.1]; exact (List.getElem?_eq_some_iff.1 hk).1
            refine ⟨x, c, h2, by rw [hcc j hj, h3], h4.mono (fun _ _ => rfl) (zp_sub fun p hp => ?_), h5⟩
            refine List.mem_append_right _ (List.mem_flatMap.2 ⟨elems[i], List.mem_append_left _ hmem, hp⟩)
          obtain ⟨xss, hxl, hxx⟩ := list_of_forall len hel3
          have hwf : DWf P S V (.slice e) (.lst e xss) := by
            refine .lst e ek xss hek (by omega) (fun _ => ?_) (fun x hx => ?_) fun i j x k y h1 h2 h3 => ?_
            · have : (elems.map (·.1)).length = xss.length := by rw [List.length_map]; omega
              rw [← this]; exact hv
            · obtain ⟨i, hi⟩ := List.getElem?_of_mem hx
              exact (hxx i x hi).1
            · obtain ⟨x', c, h4, _, _, h5⟩ := (hxx i x h1).2 j k h2
              rw [h3] at h4; simp only [Option.some.injEq] at h4; subst h4; exact h5
          rcases Nat.eq_zero_or_pos len with h0 | h0
          · subst h0
            obtain rfl : xss = [] := List.eq_nil_of_length_eq_zero hxl
            exact one hks rfl (.nil e (some a) cap) hwf
          · obtain ⟨b, off, spot⟩ := a
            have hspot : spot = none := by
              obtain ⟨x, c, _, hc, _⟩ := (hxx 0 xss[0] (List.getElem?_eq_getElem (by omega))).2 0 ek[0] (List.getElem?_eq_getElem hel.2.1)
              have := World.cell?_spot hc
              simpa [Addr.add] using this
            subst hspot
            refine one hks rfl (x := .lst e xss) (c := .slice (some ⟨b, off, none⟩) len cap) ?_ hwf
            have hd := DRep.lst (P := P) (w := w) (Z := ZP (MemPlace.row ⟨b, off, none⟩ ((elems.length + rest.length) * P.cellsOf e) ++ (elems ++ rest).flatMap (·.2))) e ek xss b off cap (fun i j => (w.cell? ⟨b, off + (i * ek.length + j), none⟩).getD undef) hek (by omega) (fun i x hi => (hxx i x hi).1) (fun i j hi hj => ?_) (fun i j x k y h1 h2 h3 => ?_)
            · rw [hxl] at hd; exact hd
            · obtain ⟨x, c, _, hc, _⟩ := (hxx i xss[i] (List.getElem?_eq_getElem hi)).2 j ek[j] (List.getElem?_eq_getElem hj)
              rw [add_mul_lt, ← hel.1] at hc
              refine ⟨by rw [hc]; rfl, rfl, ?_⟩
              refine List.mem_append_left _ (MemPlace.mem_row.2 ⟨i * ek.length + j, ?_, rfl⟩)
              have := idx_lt (i := i) (j := j) (n := len) (sz := ek.length) (by omega) hj
              have h2 : len * ek.length ≤ (elems.length + rest.length) * P.cellsOf e := by rw [hel.1]; exact Nat.mul_le_mul_right _ (by omega)
              omega
            · obtain ⟨x', c, h4, hc, h5, _⟩ := (hxx i x h1).2 j k h2
              rw [h3] at h4; simp only [Option.some.injEq] at h4; subst h4
              rw [add_mul_lt, ← hel.1] at hc
              rw [hc]; exact h5
      | struct fs =>
        obtain ⟨xs, m, hm, hx, hcl, hxl, hxs⟩ := DataW.trod_struct hu h
        simp only [Prod.mk.injEq] at hx
        obtain ⟨rfl, rfl⟩ := hx
        simp only [Nat.add_right_cancel_iff] at hm
        subst hm
        obtain ⟨_, hf⟩ := struct_kinds fs.toList [] ks hks
        refine repAt_of fun j k hk => ?_
        obtain ⟨i, f, kf, q, h1, h2, rfl, h4⟩ := hf j k (Nat.zero_le _) hk
        have h1' : fs[i]? = some f := by rw [← Array.getElem?_toList]; exact h1
        have hi : i < xs.length := by rw [hxl]; exact (Array.getElem?_eq_some_iff.1 h1').1
        have htr := hxs i f h1'
        rw [List.getElem?_eq_getElem hi] at htr
        have hmem : xs[i] ∈ xs := List.getElem_mem hi
        have hfd : deepB P n f.type = true := List.all_eq_true.1 hdeep f (List.mem_of_getElem? h1)
        obtain ⟨ys, _, hr2⟩ := ih htr hfd (by omega) h2 (hG.stc _ _ _ hu hg i f xs[i].1 h1 (by rw [List.getElem?_map, List.getElem?_eq_getElem hi]; rfl))
        obtain ⟨x, c, _, h6, h7, h8⟩ := hr2 q k h4
        obtain ⟨h9, _⟩ := drop_take_get h6
        exact ⟨x, c, h9, h7.mono (fun _ _ => rfl) (zp_sub fun p hp => List.mem_flatMap.2 ⟨xs[i], hmem, hp⟩), h8⟩
      | array cnt e =>
        simp only [Bool.and_eq_true] at hdeep
        obtain ⟨ek, hek⟩ := Option.isSome_iff_exists.1 hdeep.1
        obtain ⟨l, hl, rfl⟩ := Option.map_eq_some_iff.1 hks
        have hll := (kindsAt_kinds hl (by omega) hek).2
        obtain ⟨xs, m, hm, hx, hcl, hxl, hxs⟩ := DataW.trod_array hu h
        simp only [Prod.mk.injEq] at hx
        obtain ⟨rfl, rfl⟩ := hx
        simp only [Nat.add_right_cancel_iff] at hm
        subst hm
        refine repAt_of fun j k hk => ?_
        obtain ⟨i, q, h1, rfl, h4⟩ := flatten_replicate_inv hk
        have hi : i < xs.length := by omega
        have htr := hxs i h1
        rw [List.getElem?_eq_getElem hi] at htr
        have hmem : xs[i] ∈ xs := List.getElem_mem hi
        obtain ⟨ys, _, hr2⟩ := ih htr hdeep.2 (by omega) hl (hG.arr _ _ _ _ hu hg _ (List.mem_map.2 ⟨_, hmem, rfl⟩))
        obtain ⟨x, c, _, h6, h7, h8⟩ := hr2 q k h4
        obtain ⟨h9, _⟩ := drop_take_get h6
        exact ⟨x, c, by rw [hll]; exact h9, h7.mono (fun _ _ => rfl) (zp_sub fun p hp => List.mem_flatMap.2 ⟨xs[i], hmem, hp⟩), h8⟩
      | _ => simp at hdeep


/-- An argument out of its data. -/
def argC (P : Program) (t : TypeId) (xs : List DL) : SV :=
  bif isAggT P t then .agg (xs.map .d) else match xs with | [x] => .one (.d x) | _ => .one .un

/-- Arguments as data: kinds and bounds are met. -/
def ArgOk (P : Program) (S : Nat → Prop) (V : TypeId → Nat → Prop) (t : TypeId) (xs : List DL) : Prop :=
  ∃ ks, kindsOf P t = some ks ∧ xs.length = ks.length ∧ ∀ (j : Nat) k x, ks[j]? = some k → xs[j]? = some x → DWf P S V k x

def argCs (P : Program) : List TypeId → List (List DL) → List SV
  | t :: ts, xs :: r => argC P t xs :: argCs P ts r
  | _, _ => []

theorem kindsOf_at {t : TypeId} {ks : List CK} (h : kindsOf P t = some ks) : kindsAt P 12 t = some ks := by
  unfold kindsOf at h
  split at h
  · rename_i l hl
    split at h
    · simp only [Option.some.injEq] at h; subst h; exact hl
    · exact absurd h (by simp)
  · exact absurd h (by simp)

theorem arg_rep {G : TypeId → DataW H → Prop} (hG : Good P S V G) {t : TypeId} {v : Value} {d : DataW H} {ps : List MemPlace} {b0 : Nat} {n : Nat} (h : DataW.Trod enc P w base spare held t v d ps) (hval : Value.okWide P w .any b0 t v) (hd : deepB P n t = true) {ks : List CK} (hk : kindsOf P t = some ks) (hg : G t d) {bl : Bl} {m : Nat → Obj} :
    ∃ xs, ArgOk P S V t xs ∧ SVRep P w (ZP ps) bl m (argC P t xs) v := by
  obtain ⟨fuel, hf⟩ := h
  obtain ⟨xs, h1, h2⟩ := trod_rep hG fuel hf hd (Nat.le_refl _) (kindsOf_at hk) hg
  refine ⟨xs, ⟨ks, hk, h1, fun j k x hj hx => ?_⟩, ?_⟩
  · obtain ⟨x', _, h3, _, _, h4⟩ := h2 j k hj
    rw [hx] at h3; simp only [Option.some.injEq] at h3; subst h3; exact h4
  · have hlen := kindsOf_len hk
    have agg : ∀ {cs : Array Value}, v = .agg cs → cs.size = P.cellsOf t → isAggT P t = true → SVRep P w (ZP ps) bl m (argC P t xs) v := by
      intro cs hv hs ha
      subst hv
      unfold argC
      rw [ha]
      refine ⟨cs.toList, by simp, All2.of_get (by simp [h1, hlen, hs]) fun i a b ha' hb => ?_⟩
      rw [List.getElem?_map] at ha'
      obtain ⟨x, hx, rfl⟩ := Option.map_eq_some_iff.1 ha'
      have hi : i < ks.length := by rw [← h1]; exact (List.getElem?_eq_some_iff.1 hx).1
      obtain ⟨x', c, h3, h4, h5, _⟩ := h2 i ks[i] (List.getElem?_eq_getElem hi)
      rw [hx] at h3; simp only [Option.some.injEq] at h3; subst h3
      have : (Value.agg cs).cells.toList[i]? = some b := by simpa [Value.cells] using hb
      rw [this] at h4; simp only [Option.some.injEq] at h4; subst h4
      exact ⟨_, h5⟩
    have one : ∀ {k : CK}, ks = [k] → Value.isCell v = true → isAggT P t = false → SVRep P w (ZP ps) bl m (argC P t xs) v := by
      intro k e hv ha
      subst e
      obtain ⟨x, c, h3, h4, h5, _⟩ := h2 0 k rfl
      rw [isCell_cells hv] at h4
      simp at h4
      subst h4
      unfold argC
      rw [ha]
      match xs, h1, h3 with
      | [y], _, h3 => simp at h3; subst h3; exact ⟨_, h5⟩
    have hka := kindsOf_at hk
    unfold kindsAt at hka
    cases n with
    | zero => simp [deepB] at hd
    | succ n =>
    unfold deepB at hd
    cases hu : P.underlying t with
    | none => rw [hu] at hd; simp at hd
    | some u =>
      rw [hu] at hd hka
      cases u with
      | bool => obtain ⟨b, rfl⟩ := okWide_bool hu hval; simp only [Option.some.injEq] at hka; exact one hka.symm rfl (by simp [isAggT, hu])
      | int k => obtain ⟨b, rfl⟩ := okWide_int hu hval; simp only [Option.some.injEq] at hka; exact one hka.symm rfl (by simp [isAggT, hu])
      | string => obtain ⟨b, rfl⟩ := okWide_string hu hval; simp only [Option.some.injEq] at hka; exact one hka.symm rfl (by simp [isAggT, hu])
      | slice e => obtain ⟨a, l, c, rfl⟩ := okWide_slice hu hval; simp only [Option.some.injEq] at hka; exact one hka.symm rfl (by simp [isAggT, hu])
      | struct fs =>
        have hv := hval
        simp only [Value.okWide, hu] at hv
        obtain ⟨cs, h1, h2, _⟩ := hv
        exact agg h1 h2 (by simp [isAggT, hu])
      | array c e =>
        have hv := hval
        simp only [Value.okWide, hu] at hv
        obtain ⟨cs, h1, h2, _⟩ := hv
        exact agg h1 h2 (by simp [isAggT, hu])
      | _ => simp at hd

theorem argC_keys {t : TypeId} {xs : List DL} : ∀ k ∈ keysSV (argC P t xs), False := by
  intro k hk
  cases ha : isAggT P t with
  | true =>
    have e : argC P t xs = .agg (xs.map .d) := by unfold argC; rw [ha]; rfl
    rw [e] at hk
    simp only [keysSV, SV.leaves, List.mem_flatMap, List.mem_map] at hk
    obtain ⟨x, ⟨y, _, rfl⟩, hk⟩ := hk
    simp [allKeysL] at hk
  | false =>
    unfold argC at hk
    rw [ha] at hk
    simp only [cond_false] at hk
    match xs, hk with
    | [], hk => simp [keysSV, SV.leaves, allKeysL] at hk
    | [x], hk => simp [keysSV, SV.leaves, allKeysL] at hk
    | a :: b :: r, hk => simp [keysSV, SV.leaves, allKeysL] at hk

theorem SVRep.zm {Z Z' : Addr → Prop} (hz : ∀ a, Z a → Z' a) {bl : Bl} {m : Nat → Obj} {x : SV} {v : Value} (h : SVRep P w Z bl m x v) : SVRep P w Z' bl m x v := h.zmono hz

theorem args_read {G : TypeId → DataW H → Prop} (hG : Good P S V G) {n : Nat} {b0 : Nat} {bl : Bl} {m : Nat → Obj} : ∀ {ts : List TypeId} {vs : List Value} {ds : List (DataW H)} {ps : List MemPlace}, DataW.TrodAll enc P w base spare held ts vs ds ps →
    (∀ (j : Nat) t v, ts[j]? = some t → vs[j]? = some v → Value.okWide P w .any b0 t v) → (∀ t ∈ ts, deepB P n t = true ∧ (kindsOf P t).isSome = true) → (∀ (j : Nat) t d, ts[j]? = some t → ds[j]? = some d → G t d) →
    ∃ xss, All2 (ArgOk P S V) ts xss ∧ All2 (SVRep P w (ZP ps) bl m) (argCs P ts xss) vs ∧ ∀ v ∈ argCs P ts xss, ∀ k ∈ keysSV v, False := by
  intro ts
  induction ts with
  | nil =>
    intro vs ds ps h _ _ _
    obtain ⟨rfl, rfl, rfl⟩ := trodAll_nil h
    exact ⟨[], .nil, .nil, fun v hv => by simp [argCs] at hv⟩
  | cons t ts ih =>
    intro vs ds ps h hval hd hg
    obtain ⟨v, vs', d, ds', p, q, rfl, rfl, rfl, h0, hr⟩ := trodAll_cons h
    obtain ⟨xss, h1, h2, h3⟩ := ih hr (fun j t v h h' => hval (j + 1) t v (by simpa using h) (by simpa using h')) (fun t ht => hd t (List.mem_cons_of_mem _ ht)) (fun j t d h h' => hg (j + 1) t d (by simpa using h) (by simpa using h'))
    obtain ⟨ks, hk⟩ := Option.isSome_iff_exists.1 (hd t (List.mem_cons_self ..)).2
    obtain ⟨xs, h4, h5⟩ := arg_rep hG h0 (hval 0 t v rfl rfl) (hd t (List.mem_cons_self ..)).1 hk (hg 0 t d rfl rfl) (bl := bl) (m := m)
    refine ⟨xs :: xss, .cons h4 h1, .cons (h5.zm (zp_sub fun x hx => List.mem_append_left _ hx)) ?_, fun v hv k hk => ?_⟩
    · have mono : ∀ {l : List SV} {u : List Value}, All2 (SVRep P w (ZP q) bl m) l u → All2 (SVRep P w (ZP (p ++ q)) bl m) l u := fun h => h.mono fun _ _ h => h.zm (zp_sub fun x hx => List.mem_append_right _ hx)
      exact mono h2
    · rcases List.mem_cons.1 hv with rfl | hv
      · exact argC_keys k hk
      · exact h3 v hv k hk

theorem trodAll_len : ∀ {ts : List TypeId} {vs : List Value} {ds : List (DataW H)} {ps : List MemPlace}, DataW.TrodAll enc P w base spare held ts vs ds ps → ds.length = ts.length := by
  intro ts
  induction ts with
  | nil => intro vs ds ps h; obtain ⟨_, rfl, _⟩ := trodAll_nil h; rfl
  | cons t ts ih =>
    intro vs ds ps h
    obtain ⟨v, vs', d, ds', p, q, rfl, rfl, rfl, h0, hr⟩ := trodAll_cons h
    simp [ih hr]

theorem trodAll_below (hl : laidOutB P = true) {W W' : World} (hb : Below W.heap.size W W') : ∀ {ts : List TypeId} {vs : List Value} {ds : List (DataW H)} {ps : List MemPlace}, DataW.TrodAll enc P W 0 (fun _ => true) true ts vs ds ps →
    (∀ t ∈ ts, P.readableRec t = true ∧ t < P.types.size) → (∀ x ∈ ps, x.block < W.heap.size) → DataW.TrodAll enc P W' 0 (fun b => decide (b < W.heap.size)) true ts vs ds ps := by
  intro ts
  induction ts with
  | nil =>
    intro vs ds ps h _ _
    obtain ⟨rfl, rfl, rfl⟩ := trodAll_nil h
    exact trodAll_mk0
  | cons t ts ih =>
    intro vs ds ps h ht hlt
    obtain ⟨v, vs', d, ds', p, q, rfl, rfl, rfl, h0, hr⟩ := trodAll_cons h
    exact ⟨p, q, Below.trod hl (ht t (List.mem_cons_self ..)).1 (ht t (List.mem_cons_self ..)).2 h0 hb (fun x hx => hlt x (List.mem_append_left _ hx)), ih hr (fun t h => ht t (List.mem_cons_of_mem _ h)) (fun x hx => hlt x (List.mem_append_right _ hx)), rfl⟩

/-- What is asked of a law's parameters. -/
def paramsB (P : Program) (fn : Func) : Bool := fn.params.toList.all fun t => P.readableRec t && decide (t < P.types.size) && deepB P 20 t && (kindsOf P t).isSome

/-- With variables laid: Zg tells their cells. -/
theorem law_contract_g (hl : laidOutB P = true) {fn : Func} {g : FuncId} {spec : ChangeSpec} (hvars : spec.vars = []) {tb : TypeId} (hrt : fn.resultTypes = #[tb]) (htb : P.underlying tb = some .bool) (hps : paramsB P fn = true)
    (hspec : ∀ ds : List (DataW H), ds.length = fn.params.toList.length → spec.fn H (ds ++ []) = { results := [.lit (.bool true)], args := ds })
    {G : TypeId → DataW H → Prop} (hG : Good P S V G) (hcall : ∀ xss, All2 (ArgOk P S V) fn.params.toList xss → CallOk P g (argCs P fn.params.toList xss, []) ([.one (.d (.bool true))], []))
    {W : World} {Zg : Addr → Prop} (hgl : GlobOk P W Zg) (hzg : ∀ a, Zg a → a.block < W.heap.size ∧ a.spot = none) {b0 : Nat} {args : Array Value} {ds gs : List (DataW H)} {before : List MemPlace} (hval : ∀ (j : Nat) t v, fn.params[j]? = some t → args[j]? = some v → Value.okWide P W .any b0 t v)
    (hW : DataW.Whole enc P fn.params.toList spec.vars false W args.toList ds gs before) (hg : ∀ (j : Nat) t d, fn.params.toList[j]? = some t → ds[j]? = some d → G t d) :
    Calls P g args W fun e W' => ∃ v, e = .returned v ∧ spec.post enc P fn false true false false W args v W' := by
  have hW' := hW
  obtain ⟨p, q, hA, hV, rfl, _, _⟩ := hW
  rw [hvars] at hV
  obtain ⟨rfl, rfl⟩ := trodVars_none hV
  have hlt : ∀ x ∈ p, x.block < W.heap.size := fun x hx => by simpa using hW'.lt x (by simpa using hx)
  simp only [paramsB, List.all_eq_true, Bool.and_eq_true, decide_eq_true_eq] at hps
  obtain ⟨xss, h1, h2, h3⟩ := args_read hG (n := 20) (bl := fun _ => none) (m := objM []) hA (fun j t v ht hv => hval j t v (by rw [← Array.getElem?_toList]; exact ht) (by rw [← Array.getElem?_toList]; exact hv)) (fun t ht => ⟨(hps t ht).1.2, (hps t ht).2⟩) hg
  have hc := hcall xss h1
  have hmem : MemInv P W (fun a => ZP p a ∨ Zg a) (fun _ => none) (objM []) := by
    refine ⟨fun k => ?_, fun k k' b o o' ha => by simp [objM, alive] at ha, fun k b o ha => by simp [objM, alive] at ha, fun a ha => ha.elim (fun ha => ⟨hlt _ ha.2, ha.1⟩) (hzg a), fun k b o ha => by simp [objM, alive] at ha⟩
    simp only [objM, List.getD_nil]
    trivial
  have hkn : Known (· < ([] : List Obj).length) (objM []) := ⟨fun k h => by simp [objM, alive] at h, fun k c h => by simp [objM, objKeys] at h⟩
  have h2' : All2 (SVRep P W (fun a => ZP p a ∨ Zg a) (fun _ => none) (objM [])) (argCs P fn.params.toList xss) args.toList := by
    generalize argCs P fn.params.toList xss = l at h2
    generalize args.toList = l' at h2
    clear h3 hc
    induction h2 with
    | nil => exact .nil
    | cons a _ ih => exact .cons (a.zmono fun _ h => .inl h) ih
  have hrun := hc.run W (fun a => ZP p a ∨ Zg a) (fun _ => none) args.toList (hgl.mono (fun _ _ => rfl) fun _ h => .inr h) hmem hkn (fun v hv k hk => (h3 v hv k hk).elim) h2'
  simp only [Array.toArray_toList] at hrun
  refine hrun.mono fun e W' hr => ?_
  obtain ⟨rs, Z', bl', he, T, hrs, _, _⟩ := hr
  have hb : Below W.heap.size W W' := ⟨T.os, T.tape, T.output, T.size, fun i hi => T.old i hi fun k o ha => by simp [objM, alive] at ha⟩
  cases hrs with
  | cons hr hn =>
    cases hn
    have := LRep.bool (bl := bl') (m := objM []) hr
    subst this
    subst he
    refine ⟨_, rfl, ds, [], p ++ [], [], p, [], hW', ?_, ?_, ?_, hb.frame _, fun h => by cases h⟩
    · rw [hspec ds (trodAll_len hA), hrt]
      exact trodAll_mk1 (shut_bool htb true)
    · rw [hspec ds (trodAll_len hA)]
      exact trodAll_below hl hb hA (fun t ht => ⟨(hps t ht).1.1.1, (hps t ht).1.1.2⟩) hlt
    · rw [hspec ds (trodAll_len hA), hvars]
      rfl


theorem law_contract (hl : laidOutB P = true) {fn : Func} {g : FuncId} {spec : ChangeSpec} (hvars : spec.vars = []) {tb : TypeId} (hrt : fn.resultTypes = #[tb]) (htb : P.underlying tb = some .bool) (hps : paramsB P fn = true)
    (hspec : ∀ ds : List (DataW H), ds.length = fn.params.toList.length → spec.fn H (ds ++ []) = { results := [.lit (.bool true)], args := ds })
    {G : TypeId → DataW H → Prop} (hG : Good P S V G) (hcall : ∀ xss, All2 (ArgOk P S V) fn.params.toList xss → CallOk P g (argCs P fn.params.toList xss, []) ([.one (.d (.bool true))], []))
    {W : World} {b0 : Nat} {args : Array Value} {ds gs : List (DataW H)} {before : List MemPlace} (hval : ∀ (j : Nat) t v, fn.params[j]? = some t → args[j]? = some v → Value.okWide P W .any b0 t v)
    (hW : DataW.Whole enc P fn.params.toList spec.vars false W args.toList ds gs before) (hg : ∀ (j : Nat) t d, fn.params.toList[j]? = some t → ds[j]? = some d → G t d) (hng : noGlob P = true := by kernel_rfl) :
    Calls P g args W fun e W' => ∃ v, e = .returned v ∧ spec.post enc P fn false true false false W args v W' :=
  law_contract_g hl hvars hrt htb hps hspec hG hcall (glob_none hng W fun _ => False) (fun _ h => h.elim) hval hW hg

/-- No bounds. -/
theorem good_any : Good P (fun _ => True) (fun _ _ => True) (fun _ (_ : DataW H) => True) :=
  ⟨fun _ _ _ => trivial, fun _ _ _ _ _ _ => ⟨trivial, fun _ _ => trivial⟩, fun _ _ _ _ _ _ _ _ _ _ => trivial, fun _ _ _ _ _ _ _ _ => trivial⟩

theorem mem_weightsAll {e : TypeId} : ∀ {l : List (DataW H)} {d : DataW H} {x : Nat}, d ∈ l → x ∈ DataW.weights P e d → x ∈ DataW.weightsAll P e l := by
  intro l
  induction l with
  | nil => intro d x h; simp at h
  | cons a l ih =>
    intro d x h hx
    unfold DataW.weightsAll
    rcases List.mem_cons.1 h with rfl | h
    · exact List.mem_append_left _ hx
    · exact List.mem_append_right _ (ih h hx)

theorem mem_weightsEach : ∀ {ts : List TypeId} {l : List (DataW H)} {i : Nat} {t : TypeId} {d : DataW H} {x : Nat}, ts[i]? = some t → l[i]? = some d → x ∈ DataW.weights P t d → x ∈ DataW.weightsEach P ts l := by
  intro ts
  induction ts with
  | nil => intro l i t d x h; simp at h
  | cons a ts ih =>
    intro l i t d x h h' hx
    cases l with
    | nil => simp at h'
    | cons b l =>
      unfold DataW.weightsEach
      cases i with
      | zero => simp at h h'; subst h; subst h'; exact List.mem_append_left _ hx
      | succ i => simp at h h'; exact List.mem_append_right _ (ih h h' hx)

/-- The form's own reach. -/
theorem good_reach : Good P (fun n => n ≤ reachBytes) (fun e n => n * P.bytesOf e ≤ reachBytes) (fun t (d : DataW H) => ∀ x ∈ DataW.weights P t d, x ≤ reachBytes) := by
  refine ⟨fun t bs h => h _ (by simp [DataW.weights]), fun t e a b hu h => ⟨?_, fun d hd x hx => h x ?_⟩, fun t fs ds hu h i f d hf hd x hx => h x ?_, fun t n e ds hu h d hd x hx => h x ?_⟩
  · have h1 := h ((a.length + b.length) * P.bytesOf e) (by simp [DataW.weights, hu])
    exact Nat.le_trans (Nat.mul_le_mul_right _ (by omega)) h1
  · simp only [DataW.weights, hu, List.mem_cons, List.mem_append]
    exact .inr (.inl (mem_weightsAll hd hx))
  · simp only [DataW.weights, hu]
    exact mem_weightsEach (i := i) (by rw [List.getElem?_map, hf]; rfl) hd hx
  · simp only [DataW.weights, hu]
    exact mem_weightsAll hd hx

theorem reach_args {ts us : List TypeId} {ds gs : List (DataW H)} (h : (DataW.weightsEach P (ts ++ us) (ds ++ gs)).all (· ≤ reachBytes) = true) (hl : ds.length = ts.length) (j : Nat) (t : TypeId) (d : DataW H) (ht : ts[j]? = some t) (hd : ds[j]? = some d) : ∀ x ∈ DataW.weights P t d, x ≤ reachBytes := by
  intro x hx
  have := List.all_eq_true.1 h x (mem_weightsEach (i := j) (t := t) (d := d) (by rw [List.getElem?_append_left (List.getElem?_eq_some_iff.1 ht).1]; exact ht) (by rw [List.getElem?_append_left (List.getElem?_eq_some_iff.1 hd).1]; exact hd) hx)
  simpa using this

end
end Go.Ev

namespace Go.Ev
open Go Go.RowKit

section
variable {α β : Type}

/-- A function that is told where a condition holds. -/
noncomputable def prt (pre : α → Prop) (f : α → β) (a : α) : Option β := by
  classical exact if pre a then some (f a) else none

theorem prt_eq {pre : α → Prop} {f : α → β} {a : α} (h : pre a) : prt pre f a = some (f a) := by
  unfold prt; rw [if_pos h]

theorem prt_inv {pre : α → Prop} {f : α → β} {a : α} {b : β} (h : prt pre f a = some b) : pre a ∧ f a = b := by
  unfold prt at h
  by_cases hp : pre a
  · rw [if_pos hp] at h; exact ⟨hp, Option.some.inj h⟩
  · rw [if_neg hp] at h; exact absurd h (by simp)

def tot (f : α → β) (a : α) : Option β := some (f a)

theorem of_prt {G : α → β → Prop} {F : α → Option β} (hF : ∀ a b, F a = some b → G a b) {pre : α → Prop} {f : α → β} (h : ∀ a, pre a → F a = some (f a)) : ∀ a b, prt pre f a = some b → G a b := by
  intro a b hb
  obtain ⟨hp, rfl⟩ := prt_inv hb
  exact hF a _ (h a hp)

theorem of_tot {G : α → β → Prop} {F : α → Option β} (hF : ∀ a b, F a = some b → G a b) {f : α → β} (h : ∀ a, F a = some (f a)) : ∀ a b, tot f a = some b → G a b := by
  intro a b hb
  unfold tot at hb
  exact hF a b (by rw [h a]; exact hb)

theorem iter_fix {step : (α → Option β) → α → Option β} {pre : α → Prop} {f : α → β} (μ : α → Nat) (h : ∀ F a, pre a → (∀ a', pre a' → μ a' < μ a → F a' = some (f a')) → step F a = some (f a)) : ∀ n a, pre a → μ a < n → iter step n a = some (f a) := by
  intro n
  induction n with
  | zero => intro a _ h; omega
  | succ n ih => intro a ha hn; exact h _ a ha fun a' ha' hl => ih a' ha' (by omega)

/-- A loop's answer: by rounds. -/
theorem of_iterL {G : Nat → α → β → Prop} {step : (α → Option β) → α → Option β} (hs : ∀ F : α → Option β, (∀ nt a b, F a = some b → G nt a b) → ∀ nt a b, step F a = some b → G nt a b) {pre : α → Prop} {f : α → β} (μ : α → Nat)
    (h : ∀ F a, pre a → (∀ a', pre a' → μ a' < μ a → F a' = some (f a')) → step F a = some (f a)) : ∀ nt a b, prt pre f a = some b → G nt a b := by
  have key : ∀ n nt a b, iter step n a = some b → G nt a b := by
    intro n
    induction n with
    | zero => intro nt a b h; simp [iter] at h
    | succ n ih => intro nt a b h; exact hs _ ih nt a b h
  intro nt a b hb
  obtain ⟨hp, rfl⟩ := prt_inv hb
  exact key (μ a + 1) nt a _ (iter_fix μ h _ a hp (Nat.lt_succ_self _))

/-- A function that calls itself. -/
theorem of_iterF {G : α → β → Prop} {step : (α → Option β) → α → Option β} (hs : ∀ F : α → Option β, (∀ a b, F a = some b → G a b) → ∀ a b, step F a = some b → G a b) {pre : α → Prop} {f : α → β} (μ : α → Nat)
    (h : ∀ F a, pre a → (∀ a', pre a' → μ a' < μ a → F a' = some (f a')) → step F a = some (f a)) : ∀ a b, prt pre f a = some b → G a b := by
  intro a b hb
  obtain ⟨hp, rfl⟩ := prt_inv hb
  exact iter_ok hs (μ a + 1) a _ (iter_fix μ h _ a hp (Nat.lt_succ_self _))

end

/-! ### Opening arguments -/

section
variable {P : Program} {S : Nat → Prop} {V : TypeId → Nat → Prop}

theorem DWf.int_inv {k : IntKind} {x : DL} (h : DWf P S V (.int k) x) : ∃ n, x = .int k n ∧ k.min ≤ n ∧ n ≤ k.max := by
  cases h with
  | int k n h => simp only [Lit.wf, Bool.and_eq_true, decide_eq_true_eq] at h; exact ⟨n, rfl, h⟩

theorem DWf.bool_inv {x : DL} (h : DWf P S V .bool x) : ∃ b, x = .bool b := by
  cases h with | bool b => exact ⟨b, rfl⟩

theorem DWf.str_inv {x : DL} (h : DWf P S V .str x) : ∃ s, x = .str s ∧ s.size ≤ maxLen ∧ S s.size := by
  cases h with | str s hm h => exact ⟨s, rfl, hm, h⟩

/-- Rows within their bounds. -/
def RWf (P : Program) (S : Nat → Prop) (V : TypeId → Nat → Prop) (ks : List CK) (xs : List (List DL)) : Prop :=
  ∀ x ∈ xs, x.length = ks.length ∧ ∀ (j : Nat) k y, ks[j]? = some k → x[j]? = some y → DWf P S V k y

theorem DWf.lst_inv {e : TypeId} {x : DL} (h : DWf P S V (.slice e) x) {ks : List CK} (hk : elemKinds P e = some ks) : ∃ xs, x = .lst e xs ∧ xs.length ≤ maxLen ∧ (xs ≠ [] → V e xs.length) ∧ RWf P S V ks xs := by
  cases h with
  | lst e ks' xs hk' hm hv hl hx =>
    rw [hk] at hk'
    simp only [Option.some.injEq] at hk'
    subst hk'
    refine ⟨xs, rfl, hm, hv, fun x hx' => ⟨hl x hx', fun j k y h1 h2 => ?_⟩⟩
    obtain ⟨i, hi⟩ := List.getElem?_of_mem hx'
    exact hx i j x k y hi h1 h2

/-- An argument's leaves, one by one. -/
theorem ArgOk.leaves {t : TypeId} {xs : List DL} (h : ArgOk P S V t xs) {ks : List CK} (hk : kindsOf P t = some ks) : All2 (DWf P S V) ks xs := by
  obtain ⟨ks', hk', h1, h2⟩ := h
  rw [hk] at hk'
  simp only [Option.some.injEq] at hk'
  subst hk'
  exact All2.of_get h1.symm fun i k x hi hx => h2 i k x hi hx

theorem All2.cons_inv {α β : Type} {R : α → β → Prop} {a : α} {l : List α} {r : List β} (h : All2 R (a :: l) r) : ∃ b r', r = b :: r' ∧ R a b ∧ All2 R l r' := by
  cases h with | cons h t => exact ⟨_, _, rfl, h, t⟩

theorem All2.nil_inv {α β : Type} {R : α → β → Prop} {r : List β} (h : All2 R [] r) : r = [] := by
  cases h; rfl

end

/-! ### Numbers, rows -/

theorem wrap_i64 {n : Int} (h1 : -9223372036854775808 ≤ n) (h2 : n ≤ 9223372036854775807) : IntKind.i64.wrap n = n := by
  simp [IntKind.wrap, IntKind.bits, IntKind.signed]; omega

theorem cond_dec {α : Type} (p : Prop) [Decidable p] (x y : α) : (bif decide p then x else y) = if p then x else y := by
  by_cases h : p <;> simp [h]

end Go.Ev

namespace Go.Ev
open Go Go.RowKit

/-- All memory that stood when the call began. -/
def Zall (w : World) (a : Addr) : Prop := a.spot = none ∧ a.block < w.heap.size

theorem glob_arr {H : Type} {enc : TypeId × Value → H} {P : Program} {w : World} {base : Nat} {spare : Nat → Bool} {held : Bool} {name : String} {g : Nat} {t e : TypeId} {n : Nat} {k : IntKind} {vs : List Int} {cs : Array Value} {fuel : Nat} {p : List MemPlace}
    (hg : P.globalNamed name = some g) (hv : w.var? P name = some cs) (hu : P.underlying t = some (.array n e)) (he : P.underlying e = some (.int k)) (hek : elemKinds P e = some [.int k]) (hce : P.cellsOf e = 1)
    (hd : DataW.trod enc P w base spare held fuel t cs.toList = some (.agg (vs.map fun v => .lit (.int k v)), p)) :
    DRep P w (Zall w) (.slice e) (.lst e (vs.map fun v => [.int k v])) (.slice (some ⟨g, 0, none⟩) (vs.map fun v => [DL.int k v]).length (vs.map fun v => [DL.int k v]).length) := by
  obtain ⟨xs, m, rfl, hx, hlen, hn, hel⟩ := DataW.trod_array hu hd
  simp only [Prod.mk.injEq, DataW.agg.injEq] at hx
  have hvl : vs.length = n := by rw [← hn, ← List.length_map (as := xs) (f := (·.1)), ← hx.1, List.length_map]
  have key : ∀ i, (h : i < vs.length) → cs[i]? = some (.int k vs[i]) := by
    intro i h
    have h1 := hel i (by omega)
    rw [hce, Nat.mul_one, List.getElem?_eq_getElem (show i < xs.length by omega)] at h1
    obtain ⟨v, e1, e2, _⟩ := DataW.trod_int he h1
    have h2 : (cs.toList.drop i).take 1 = [.int k v] := e1
    have h3 : cs.toList[i]? = some (.int k v) := by
      have := congrArg (fun l : List Value => l[0]?) h2
      simpa [List.getElem?_take, List.getElem?_drop] using this
    have h4 : (vs.map fun v => (DataW.lit (.int k v) : DataW H))[i]? = (xs.map (·.1))[i]? := by rw [hx.1]
    rw [List.getElem?_map, List.getElem?_map, List.getElem?_eq_getElem h, List.getElem?_eq_getElem (show i < xs.length by omega), e2] at h4
    simp only [Option.map_some, Option.some.injEq, DataW.lit.injEq, Lit.int.injEq, true_and] at h4
    rw [← Array.getElem?_toList, h3, h4]
  have hcell : ∀ i, (h : i < vs.length) → w.cell? ⟨g, i, none⟩ = some (.int k vs[i]) := fun i h => by
    rw [World.var?_cell hg hv i]; exact key i h
  refine DRep.lst e [.int k] _ g 0 _ (fun i _ => .int k (vs.getD i 0)) hek (Nat.le_refl _) (fun i x hx => ?_) (fun i j hi hj => ?_) (fun i j x kk y h1 h2 h3 => ?_)
  · rw [List.getElem?_map] at hx
    obtain ⟨v, _, rfl⟩ := Option.map_eq_some_iff.1 hx
    rfl
  · rw [List.length_map] at hi
    have hj0 : j = 0 := by simpa using hj
    subst hj0
    have hc := hcell i hi
    have he' : vs.getD i 0 = vs[i] := by rw [List.getD_eq_getElem?_getD, List.getElem?_eq_getElem hi]; rfl
    refine ⟨?_, rfl, ?_⟩
    · simp only [List.length_cons, List.length_nil, Nat.zero_add, Nat.mul_one, Nat.add_zero, he']
      exact hc
    · have : g < w.heap.size := by
        unfold World.cell? at hc
        cases hh : w.heap[g]? with
        | none => simp [hh] at hc
        | some o => exact (Array.getElem?_eq_some_iff.1 hh).1
      exact this
  · have hj0 : j = 0 := by
      have := (List.getElem?_eq_some_iff.1 h2).1
      simpa using this
    subst hj0
    rw [List.getElem?_map] at h1
    obtain ⟨v, hv', rfl⟩ := Option.map_eq_some_iff.1 h1
    simp only [List.getElem?_cons_zero, Option.some.injEq] at h2 h3
    subst h2; subst h3
    have : vs.getD i 0 = v := by rw [List.getD_eq_getElem?_getD, hv']; rfl
    rw [this]
    exact .int k v

end Go.Ev
