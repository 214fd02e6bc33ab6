/- The row of the law PairTimes, over our walk; written by our program row.py. -/
import Derived.Test.YthnnejflgbminabRows
import Derived.Test.YthnnejflgbminabKPairTimes
import Derived.Test.YthnnejflgbminabLf
import Derived.WalkKit
import Derived.ProofKit
import Derived.OpenShut
import Derived.ShutString
import Derived.ChangeOld
import Derived.Below
import Derived.SizedLaws
namespace Go.Proofs.Ythnnejflgbminab.pairTimes
open Go.ChangeShapes Go.WideShapes Go.ChangeAt Go.RowKit
open Go.ChangeMaps (open_string shut_string)
set_option linter.unusedVariables false
theorem own : ownKnob Try.prog.godebug = none := by kernel_rfl
theorem laidOut : laidOutB Try.prog = true := by kernel_rfl
set_option maxRecDepth 100000 in
theorem lifted (os : Os) (started : os.Started) (H : Type) (enc : TypeId × Value → H) :
    ReturnsInHanded {} Try.checked os 3 .any (Rows.pairTimesSpec.pre6 enc Try.prog Try.f3 Rows.pairTimesRow.domain false) (Rows.pairTimesSpec.post enc Try.prog Try.f3 false true false false) := by
  refine returnsInHanded_of_change_sized (C := Try.checked) own started (by kernel_rfl) Try.func3
    (ChangeSpec.witness6 (enc := enc) (C := Try.checked) false ⟨#[], #[.agg #[.int .i64 0, .int .i64 0, .int .i64 0, .int .i64 0]], []⟩ 8 (by kernel_rfl) (by kernel_rfl) (by kernel_rfl) (by kernel_rfl)) ?_
  intro W base args ds gs before hval0 hW hcnd hsz0 _
  have hsz : (DataW.weightsEach Try.prog (Try.f3.params.toList ++ Rows.pairTimesSpec.plain.varTypes Try.prog) (ds ++ gs)).all (· ≤ reachBytes) = true := hsz0
  have hval : ∀ (j : Nat) t v, Try.f3.params[j]? = some t → args[j]? = some v → Value.okWide Try.prog W .any base t v := hval0
  have hW' := hW
  obtain ⟨p, q, hA0, hV, rfl, hfz, hnd⟩ := hW
  have hA : DataW.TrodAll enc Try.prog W 0 (fun _ => true) true Try.f3.params.toList args.toList ds p := hA0
  rw [Try.params3] at hA hval hsz
  obtain ⟨v0, vs0, d0, ds0, p0, q0, hargs, rfl, rfl, h0, r0⟩ := trodAll_cons hA
  obtain ⟨rfl, rfl, rfl⟩ := trodAll_nil r0
  obtain rfl : args = #[v0] := by cases args; simp_all
  obtain ⟨rfl, rfl⟩ := trodVars_none hV
  have k0 := h0
  have lt0 : ∀ x ∈ p0, x.block < W.heap.size := by obtain ⟨m, hm⟩ := k0; exact DataW.trod_lt m _ _ _ hm
  obtain ⟨g0, e0, L0⟩ := Lf.open_struct (ks := [.i .i64, .i .i64, .i .i64, .i .i64]) Try.underlying23 6 (by kernel_rfl) (hval 0 23 v0 rfl rfl) h0
  obtain ⟨u0_0, g0_0, q0_0, ⟨a0_0, x0_0, w0_0⟩, L0_0⟩ := L0.cons
  obtain ⟨u0_1, g0_1, q0_1, ⟨a0_1, x0_1, w0_1⟩, L0_1⟩ := L0_0.cons
  obtain ⟨u0_2, g0_2, q0_2, ⟨a0_2, x0_2, w0_2⟩, L0_2⟩ := L0_1.cons
  obtain ⟨u0_3, g0_3, q0_3, ⟨a0_3, x0_3, w0_3⟩, L0_3⟩ := L0_2.cons
  have n0 := L0_3.nil
  obtain rfl : v0 = .agg #[.int .i64 a0_0, .int .i64 a0_1, .int .i64 a0_2, .int .i64 a0_3] := by rw [e0, q0_0, x0_0, q0_1, x0_1, q0_2, x0_2, q0_3, x0_3, n0]
  clear hA0 hval0 hsz0 hsz
  refine (PairTimesW.walk a0_0 a0_1 a0_2 a0_3 W w0_0 w0_1 w0_2 w0_3).mono fun e W' ⟨he, bel⟩ => ?_
  subst he
  exact ⟨_, rfl, _, _, _, [], _, [], hW', trodAll_mk1 (shut_bool Try.underlying4 _), (trodAll_cons_mk (Below.trod laidOut (by kernel_rfl) (of_decide_eq_true (by kernel_rfl)) k0 bel lt0) trodAll_mk0), rfl, bel.frame _, fun h => by cases h⟩
theorem over : Rows.pairTimesRow.holds Try.pinned (OpenSpec.ofChange Rows.pairTimesSpec) :=
  OpenClaim.holds_of_wide 3 Try.f3 rfl rfl rfl rfl rfl rfl rfl ⟨rfl, rfl, rfl, rfl, rfl⟩ rfl rfl rfl rfl rfl (by kernel_rfl) Try.func3 (by kernel_rfl)
    (of_decide_eq_true (by kernel_rfl)) (by unfold Func.isWrapper; first | (rw [if_pos (by decide +kernel)]; kernel_rfl) | (rw [if_neg (by decide +kernel)]; exact ⟨rfl, rfl⟩))
    (fun os started H enc _ => lifted os started H enc)
theorem proved : Rows.PairTimesSaid := over
end Go.Proofs.Ythnnejflgbminab.pairTimes
namespace Go.Proofs.Ythnnejflgbminab
/-- The row, under a short name, for the claim. -/
theorem pairTimes_holds : Rows.PairTimesSaid := pairTimes.proved
#print axioms pairTimes_holds
end Go.Proofs.Ythnnejflgbminab
