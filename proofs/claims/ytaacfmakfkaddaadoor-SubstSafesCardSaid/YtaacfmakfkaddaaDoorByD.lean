/- The table that the program lays: what a row's premise on it gives. -/
import Derived.Test.YtaacfmakfkaddaaDoorAxU
import Derived.Test.YtaacfmakfkaddaaDoorByU
import Derived.Test.YtaacfmakfkaddaaDoorRows
import Derived.Test.YtaacfmakfkaddaaDoorTie
import Derived.ProofKit
import Derived.LaidMore
import Derived.OpenShut
import Derived.Stop.Joined
set_option linter.unusedVariables false
set_option linter.unusedSimpArgs false
namespace Go.Proofs.YtaacfmakfkaddaaDoor.Ax
open Go Go.Proofs Go.ChangeShapes Go.WideShapes Go.ChangeAt Go.RowKit

/-- What is laid. -/
def laidTab : List (String × DataW Unit) := [("math/bits.deBruijn64tab", Rows.laid_math_bits_deBruijn64tab)]
theorem gTab : Tryd.prog.globalNamed "math/bits.deBruijn64tab" = some 0 := by kernel_rfl
theorem tTab : (Tryd.prog.globals[0]?).map (·.type) = some 133 := by kernel_rfl
theorem doorMet (os : Os) (args : Array Value) : laidMetH Tryd.prog laidTab ((World.doorLaid Tryd.prog 400 os).forCall (fun _ _ => 0) ⟨#[], args, []⟩).memory :=
  laidMetH_of_parts3 (fuel := 8) (laidMet_of_run' 8 (by kernel_rfl) (by kernel_rfl)) (by kernel_rfl) (by kernel_rfl)
theorem tabData : (Rows.laid_math_bits_deBruijn64tab : DataW Unit) = .agg ((gtab 0).map fun n => .lit (.int .u8 n)) := rfl
theorem ofLaid {W : World} (h : laidMetH Tryd.prog laidTab W) : ∀ b o v, tbl b o = some v → W.cell? ⟨b, o, none⟩ = some v := by
  rw [MakeChecks.laidMetH_plain _ _ _ (by kernel_rfl)] at h
  obtain ⟨ps, ⟨g0, t0, cs0, f0, p0, q0, hg0, ht0, hv0, hd0, _, _⟩, _, _⟩ := h
  obtain rfl := Option.some.inj (gTab.symm.trans hg0)
  obtain rfl := Option.some.inj (tTab.symm.trans ht0)
  obtain ⟨xs, m1, rfl, hx1, hlen, hn3, hel⟩ := DataW.trod_array Tryd.underlying133 hd0
  have c1 : Tryd.prog.cellsOf 5 = 1 := by kernel_rfl
  rw [tabData] at hx1
  simp only [Prod.mk.injEq, DataW.agg.injEq] at hx1
  intro b o v hv
  unfold tbl at hv
  obtain ⟨n, hn, rfl⟩ := Option.map_eq_some_iff.1 hv
  by_cases hb : b = 0
  · subst hb
    have ho : o < 64 := (List.getElem?_eq_some_iff.1 hn).1
    have hx : (xs.map (·.1))[o]? = some (.lit (.int .u8 n)) := by rw [← hx1.1, List.getElem?_map, hn]; rfl
    rw [List.getElem?_map] at hx
    obtain ⟨y, hy, hy2⟩ := Option.map_eq_some_iff.1 hx
    have h0 := hel o ho
    rw [hy, c1, Nat.mul_one] at h0
    obtain ⟨k, e1, e2, _⟩ := DataW.trod_int Tryd.underlying5 h0
    rw [e2] at hy2
    obtain rfl : k = n := by simpa using hy2
    rw [World.var?_cell hg0 hv0 o]
    have h1 : (cs0.toList.drop o)[0]? = some (.int .u8 k) := by
      have : ((cs0.toList.drop o).take 1)[0]? = some (.int .u8 k) := by rw [e1]; rfl
      rwa [List.getElem?_take_of_lt (by omega)] at this
    rw [List.getElem?_drop] at h1
    simpa using h1
  · unfold gtab at hn
    simp [hb] at hn
end Go.Proofs.YtaacfmakfkaddaaDoor.Ax
