/- The table lies in block 0: read off the row's condition; the door's own heap meets it. -/
import Derived.Test.YtofflnklbdhaiaaDoorRows
import Derived.Test.YtofflnklbdhaiaaDoorTz
import Derived.ProofKit
import Derived.LaidMore
import Derived.OpenShut
import Derived.MakeChecks
namespace Go.Proofs.YtofflnklbdhaiaaDoor.Ta
open Go.RowKit Go.Proofs.YtofflnklbdhaiaaDoor.Tz
abbrev laidL : List (String × DataW Unit) := [("math/bits.deBruijn64tab", Rows.laid_math_bits_deBruijn64tab)]
theorem gTab : Tryd.prog.globalNamed "math/bits.deBruijn64tab" = some 0 := by kernel_rfl
theorem tTab : (Tryd.prog.globals[0]?).map (·.type) = some 67 := by kernel_rfl
theorem door_met (os : Os) (args : Array Value) : laidMetH Tryd.prog laidL ((World.doorLaid Tryd.prog 400 os).forCall (fun _ _ => 0) ⟨#[], args, []⟩).memory :=
  laidMetH_of_parts3 (fuel := 8) (laidMet_of_run' 8 (by kernel_rfl) (by kernel_rfl)) (by kernel_rfl) (by kernel_rfl)
theorem data_eq {H : Type} : (Rows.laid_math_bits_deBruijn64tab : DataW H) = .agg (Lib.deBruijn64tab.map fun x : Nat => .lit (.int .u8 (x : Int))) := rfl
theorem tab_of_laid {W : World} (h : laidMetH Tryd.prog laidL W) : Tab W := by
  rw [MakeChecks.laidMetH_plain _ _ _ (by kernel_rfl)] at h
  obtain ⟨ps, ⟨g0, t0, cs0, f0, p0, q0, hg0, ht0, hv0, hd0, _, _⟩, _, _⟩ := h
  obtain rfl := Option.some.inj (gTab.symm.trans hg0)
  obtain rfl := Option.some.inj (tTab.symm.trans ht0)
  obtain ⟨xs, m1, rfl, hx1, hlen, hn3, hel⟩ := DataW.trod_array Tryd.underlying67 hd0
  have cU : Tryd.prog.cellsOf 5 = 1 := by kernel_rfl
  rw [cU] at hel
  simp only [Prod.mk.injEq] at hx1
  have hx2 : xs.map (·.1) = Lib.deBruijn64tab.map fun x : Nat => DataW.lit (.int .u8 (x : Int)) := by
    have h1 := hx1.1
    rw [data_eq] at h1
    injection h1 with h1
    exact h1.symm
  have key : ∀ j, j < Lib.deBruijn64tab.length → W.cell? ⟨0, j, none⟩ = some (.int .u8 (Lib.deBruijn64tab.getD j 0)) := by
    intro j hj
    have hj64 : j < 64 := hj
    have h1 := hel j hj64
    have hjx : j < xs.length := by omega
    rw [List.getElem?_eq_getElem hjx] at h1
    obtain ⟨k, e1, e2, _⟩ := DataW.trod_int Tryd.underlying5 h1
    have h3 : (xs.map (·.1))[j]? = some (DataW.lit (.int .u8 k)) := by
      rw [List.getElem?_map, List.getElem?_eq_getElem hjx, e2]
      rfl
    rw [hx2, List.getElem?_map, List.getElem?_eq_getElem hj] at h3
    simp at h3
    have h4 := World.var?_cell hg0 hv0 j
    rw [h4, List.getD_eq_getElem?_getD, List.getElem?_eq_getElem hj, Option.getD_some, h3]
    rw [Nat.mul_one] at e1
    have h5 := congrArg (fun l => l[0]?) e1
    simp only [List.getElem?_take, List.getElem?_drop] at h5
    simpa using h5
  refine ⟨?_, key⟩
  have h0 := key 0 (by decide)
  rcases Nat.lt_or_ge 0 W.heap.size with h | h
  · exact h
  · rw [World.cell?] at h0
    rw [Array.getElem?_eq_none h] at h0
    cases h0
end Go.Proofs.YtofflnklbdhaiaaDoor.Ta
