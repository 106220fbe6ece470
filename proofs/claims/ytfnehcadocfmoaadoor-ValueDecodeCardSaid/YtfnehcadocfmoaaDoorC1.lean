/- What the laid variables give: the seat's frame of a tied card. -/
import Derived.Test.YtfnehcadocfmoaaDoorE3
import Derived.Test.YtfnehcadocfmoaaDoorRows
import Derived.SizedLaws
import Derived.ChangeVars
import Derived.JoinedOf
import Derived.LaidLaws
import Derived.LaidHandle
import Derived.LaidMore
import Derived.MakeChecks
import Derived.Stop.Joined
set_option linter.unusedVariables false
set_option linter.unusedSimpArgs false

namespace Go.Proofs.YtfnehcadocfmoaaDoor
open Go Go.Ev

theorem own : ownKnob Tryd.prog.godebug = none := by kernel_rfl
theorem laidOut : laidOutB Tryd.prog = true := by kernel_rfl
abbrev SS : Nat → Prop := fun n => n ≤ reachBytes
abbrev VV : TypeId → Nat → Prop := fun e n => n * Tryd.prog.bytesOf e ≤ reachBytes
def vs3 : List Int := [0, 1, 28, 2, 29, 14, 24, 3, 30, 22, 20, 15, 25, 17, 4, 8, 31, 27, 13, 23, 21, 19, 16, 7, 26, 12, 18, 6, 11, 5, 10, 9]
def vs4 : List Int := [0, 1, 56, 2, 57, 49, 28, 3, 61, 58, 42, 50, 38, 29, 17, 4, 62, 47, 59, 36, 45, 43, 51, 22, 53, 39, 33, 30, 24, 18, 12, 5, 63, 55, 48, 27, 60, 41, 37, 16, 46, 35, 44, 21, 52, 32, 23, 11, 54, 26, 40, 15, 34, 20, 31, 10, 25, 14, 19, 9, 13, 8, 7, 6]
def vs0 : List Int := [1, 10, 100, 1000, 10000, 100000, 1000000, 10000000, 100000000, 1000000000, 10000000000, 100000000000, 1000000000000, 10000000000000, 100000000000000, 1000000000000000, 10000000000000000, 100000000000000000, 1000000000000000000, 10000000000000000000]
abbrev laid3 : List (String × DataW Unit) := [("math/bits.deBruijn32tab", Rows.laid_math_bits_deBruijn32tab), ("math/bits.deBruijn64tab", Rows.laid_math_bits_deBruijn64tab), ("internal/strconv.uint64pow10", Rows.laid_internal_strconv_uint64pow10)]
theorem door_met (os : Os) (args : Array Value) : laidMetH Tryd.prog laid3 ((World.doorLaid Tryd.prog 400 os).forCall (fun _ _ => 0) ⟨#[], args, []⟩).memory :=
  laidMetH_of_parts3 (fuel := 8) (laidMet_of_run' 8 (by kernel_rfl) (by kernel_rfl)) (by kernel_rfl) (by kernel_rfl)
theorem tab0 : globTab Tryd.prog 0 = .rpt 64 (vs0.map fun v => [DL.int .u64 v]) 0 0 := by kernel_rfl
theorem tab1 : globTab Tryd.prog 1 = .un := by kernel_rfl
theorem tab2 : globTab Tryd.prog 2 = .un := by kernel_rfl
theorem tab3 : globTab Tryd.prog 3 = .rpt 5 (vs3.map fun v => [DL.int .u8 v]) 0 0 := by kernel_rfl
theorem tab4 : globTab Tryd.prog 4 = .rpt 5 (vs4.map fun v => [DL.int .u8 v]) 0 0 := by kernel_rfl
theorem glob_of {W : World} (h : laidMetH Tryd.prog laid3 W) : GlobOk Tryd.prog W (Zall W) := by
  rw [MakeChecks.laidMetH_plain _ _ _ (by kernel_rfl)] at h
  obtain ⟨ps, ⟨g3, t3, cs3, f3, p3, q3, hg3, ht3, hv3, hd3, ⟨g4, t4, cs4, f4, p4, q4, hg4, ht4, hv4, hd4, ⟨g0, t0, cs0, f0, p0, q0, hg0, ht0, hv0, hd0, _, _⟩, _⟩, _⟩, _, _⟩ := h
  obtain rfl := Option.some.inj ((show Tryd.prog.globalNamed "math/bits.deBruijn32tab" = some 3 by kernel_rfl).symm.trans hg3)
  obtain rfl := Option.some.inj ((show Tryd.prog.globalNamed "math/bits.deBruijn64tab" = some 4 by kernel_rfl).symm.trans hg4)
  obtain rfl := Option.some.inj ((show Tryd.prog.globalNamed "internal/strconv.uint64pow10" = some 0 by kernel_rfl).symm.trans hg0)
  obtain rfl := Option.some.inj ((show (Tryd.prog.globals[3]?).map (·.type) = some 110 by kernel_rfl).symm.trans ht3)
  obtain rfl := Option.some.inj ((show (Tryd.prog.globals[4]?).map (·.type) = some 111 by kernel_rfl).symm.trans ht4)
  obtain rfl := Option.some.inj ((show (Tryd.prog.globals[0]?).map (·.type) = some 95 by kernel_rfl).symm.trans ht0)
  have a3 := glob_arr (vs := vs3) hg3 hv3 (show Tryd.prog.underlying 110 = some (.array 32 5) by kernel_rfl) (show Tryd.prog.underlying 5 = some (.int .u8) by kernel_rfl) (by kernel_rfl) (by kernel_rfl) hd3
  have a4 := glob_arr (vs := vs4) hg4 hv4 (show Tryd.prog.underlying 111 = some (.array 64 5) by kernel_rfl) (show Tryd.prog.underlying 5 = some (.int .u8) by kernel_rfl) (by kernel_rfl) (by kernel_rfl) hd4
  have a0 := glob_arr (vs := vs0) hg0 hv0 (show Tryd.prog.underlying 95 = some (.array 20 64) by kernel_rfl) (show Tryd.prog.underlying 64 = some (.int .u64) by kernel_rfl) (by kernel_rfl) (by kernel_rfl) hd0
  intro g e xs hg
  have hlt : g < 5 := by
    have := globTab_lt hg
    rwa [show Tryd.prog.globals.size = 5 by kernel_rfl] at this
  obtain rfl | rfl | rfl | rfl | rfl : g = 0 ∨ g = 1 ∨ g = 2 ∨ g = 3 ∨ g = 4 := by omega
  · rw [tab0] at hg; simp only [SL.rpt.injEq] at hg; obtain ⟨rfl, rfl, _, _⟩ := hg; exact ⟨by decide, _, a0⟩
  · rw [tab1] at hg; exact absurd hg (by simp)
  · rw [tab2] at hg; exact absurd hg (by simp)
  · rw [tab3] at hg; simp only [SL.rpt.injEq] at hg; obtain ⟨rfl, rfl, _, _⟩ := hg; exact ⟨by decide, _, a3⟩
  · rw [tab4] at hg; simp only [SL.rpt.injEq] at hg; obtain ⟨rfl, rfl, _, _⟩ := hg; exact ⟨by decide, _, a4⟩

end Go.Proofs.YtfnehcadocfmoaaDoor
