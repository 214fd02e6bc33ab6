/- The row of the law FrameWrites, over our walk; written by our program row.py. -/
import Derived.Test.YtjkngcpmcmffmaaRows
import Derived.Test.YtjkngcpmcmffmaaKFrameWrites
import Derived.Test.YtjkngcpmcmffmaaLf
import Derived.WalkKit
import Derived.ProofKit
import Derived.OpenShut
import Derived.ShutString
import Derived.ChangeOld
import Derived.Below
import Derived.SizedLaws
namespace Go.Proofs.Ytjkngcpmcmffmaa.frameWrites
open Go.ChangeShapes Go.WideShapes Go.ChangeAt Go.RowKit
open Go.ChangeMaps (open_string shut_string)
set_option linter.unusedVariables false
theorem own : ownKnob Try.prog.godebug = none := by kernel_rfl
theorem laidOut : laidOutB Try.prog = true := by kernel_rfl
set_option maxRecDepth 100000 in
theorem lifted (os : Os) (started : os.Started) (H : Type) (enc : TypeId × Value → H) :
    ReturnsInHanded {} Try.checked os 8 .any (Rows.frameWritesSpec.pre6 enc Try.prog Try.f8 Rows.frameWritesRow.domain false) (Rows.frameWritesSpec.post enc Try.prog Try.f8 false true false false) := by
  refine returnsInHanded_of_change_sized (C := Try.checked) own started (by kernel_rfl) Try.func8
    (ChangeSpec.witness6 (enc := enc) (C := Try.checked) false ⟨#[], #[.agg #[.int .i64 0, .int .i64 0, .int .i64 0, .int .i64 0, .int .u16 0, .int .u16 0, .int .i64 0, .int .i64 0, .int .i64 0, .int .i64 0, .int .i64 0, .int .i64 0, .int .i64 0, .int .i64 0]], []⟩ 8 (by kernel_rfl) (by kernel_rfl) (by kernel_rfl) (by kernel_rfl)) ?_
  intro W base args ds gs before hval0 hW hcnd hsz0 _
  have hsz : (DataW.weightsEach Try.prog (Try.f8.params.toList ++ Rows.frameWritesSpec.plain.varTypes Try.prog) (ds ++ gs)).all (· ≤ reachBytes) = true := hsz0
  have hval : ∀ (j : Nat) t v, Try.f8.params[j]? = some t → args[j]? = some v → Value.okWide Try.prog W .any base t v := hval0
  have hW' := hW
  obtain ⟨p, q, hA0, hV, rfl, hfz, hnd⟩ := hW
  have hA : DataW.TrodAll enc Try.prog W 0 (fun _ => true) true Try.f8.params.toList args.toList ds p := hA0
  rw [Try.params8] at hA hval hsz
  obtain ⟨v0, vs0, d0, ds0, p0, q0, hargs, rfl, rfl, h0, r0⟩ := trodAll_cons hA
  obtain ⟨rfl, rfl, rfl⟩ := trodAll_nil r0
  obtain rfl : args = #[v0] := by cases args; simp_all
  obtain ⟨rfl, rfl⟩ := trodVars_none hV
  have k0 := h0
  have lt0 : ∀ x ∈ p0, x.block < W.heap.size := by obtain ⟨m, hm⟩ := k0; exact DataW.trod_lt m _ _ _ hm
  obtain ⟨g0, e0, L0⟩ := Lf.open_struct (ks := [.i .i64, .i .i64, .i .i64, .i .i64, .i .u16, .i .u16, .i .i64, .i .i64, .i .i64, .i .i64, .i .i64, .i .i64, .i .i64, .i .i64]) Try.underlying31 6 (by kernel_rfl) (hval 0 31 v0 rfl rfl) h0
  obtain ⟨u0_0, g0_0, q0_0, ⟨a0_0, x0_0, w0_0⟩, L0_0⟩ := L0.cons
  obtain ⟨u0_1, g0_1, q0_1, ⟨a0_1, x0_1, w0_1⟩, L0_1⟩ := L0_0.cons
  obtain ⟨u0_2, g0_2, q0_2, ⟨a0_2, x0_2, w0_2⟩, L0_2⟩ := L0_1.cons
  obtain ⟨u0_3, g0_3, q0_3, ⟨a0_3, x0_3, w0_3⟩, L0_3⟩ := L0_2.cons
  obtain ⟨u0_4, g0_4, q0_4, ⟨a0_4, x0_4, w0_4⟩, L0_4⟩ := L0_3.cons
  obtain ⟨u0_5, g0_5, q0_5, ⟨a0_5, x0_5, w0_5⟩, L0_5⟩ := L0_4.cons
  obtain ⟨u0_6, g0_6, q0_6, ⟨a0_6, x0_6, w0_6⟩, L0_6⟩ := L0_5.cons
  obtain ⟨u0_7, g0_7, q0_7, ⟨a0_7, x0_7, w0_7⟩, L0_7⟩ := L0_6.cons
  obtain ⟨u0_8, g0_8, q0_8, ⟨a0_8, x0_8, w0_8⟩, L0_8⟩ := L0_7.cons
  obtain ⟨u0_9, g0_9, q0_9, ⟨a0_9, x0_9, w0_9⟩, L0_9⟩ := L0_8.cons
  obtain ⟨u0_10, g0_10, q0_10, ⟨a0_10, x0_10, w0_10⟩, L0_10⟩ := L0_9.cons
  obtain ⟨u0_11, g0_11, q0_11, ⟨a0_11, x0_11, w0_11⟩, L0_11⟩ := L0_10.cons
  obtain ⟨u0_12, g0_12, q0_12, ⟨a0_12, x0_12, w0_12⟩, L0_12⟩ := L0_11.cons
  obtain ⟨u0_13, g0_13, q0_13, ⟨a0_13, x0_13, w0_13⟩, L0_13⟩ := L0_12.cons
  have n0 := L0_13.nil
  obtain rfl : v0 = .agg #[.int .i64 a0_0, .int .i64 a0_1, .int .i64 a0_2, .int .i64 a0_3, .int .u16 a0_4, .int .u16 a0_5, .int .i64 a0_6, .int .i64 a0_7, .int .i64 a0_8, .int .i64 a0_9, .int .i64 a0_10, .int .i64 a0_11, .int .i64 a0_12, .int .i64 a0_13] := by rw [e0, q0_0, x0_0, q0_1, x0_1, q0_2, x0_2, q0_3, x0_3, q0_4, x0_4, q0_5, x0_5, q0_6, x0_6, q0_7, x0_7, q0_8, x0_8, q0_9, x0_9, q0_10, x0_10, q0_11, x0_11, q0_12, x0_12, q0_13, x0_13, n0]
  clear hA0 hval0 hsz0 hsz
  refine (FrameWritesW.walk a0_0 a0_1 a0_2 a0_3 a0_4 a0_5 a0_6 a0_7 a0_8 a0_9 a0_10 a0_11 a0_12 a0_13 W w0_0 w0_1 w0_2 w0_3 w0_4 w0_5 w0_6 w0_7 w0_8 w0_9 w0_10 w0_11 w0_12 w0_13).mono fun e W' ⟨he, bel⟩ => ?_
  subst he
  exact ⟨_, rfl, _, _, _, [], _, [], hW', trodAll_mk1 (shut_bool Try.underlying4 _), (trodAll_cons_mk (Below.trod laidOut (by kernel_rfl) (of_decide_eq_true (by kernel_rfl)) k0 bel lt0) trodAll_mk0), rfl, bel.frame _, fun h => by cases h⟩
theorem over : Rows.frameWritesRow.holds Try.pinned (OpenSpec.ofChange Rows.frameWritesSpec) :=
  OpenClaim.holds_of_wide 8 Try.f8 rfl rfl rfl rfl rfl rfl rfl ⟨rfl, rfl, rfl, rfl, rfl⟩ rfl rfl rfl rfl rfl (by kernel_rfl) Try.func8 (by kernel_rfl)
    (of_decide_eq_true (by kernel_rfl)) (by unfold Func.isWrapper; first | (rw [if_pos (by decide +kernel)]; kernel_rfl) | (rw [if_neg (by decide +kernel)]; exact ⟨rfl, rfl⟩))
    (fun os started H enc _ => lifted os started H enc)
theorem proved : Rows.FrameWritesSaid := over
end Go.Proofs.Ytjkngcpmcmffmaa.frameWrites
namespace Go.Proofs.Ytjkngcpmcmffmaa
/-- The row, under a short name, for the claim. -/
theorem frameWrites_holds : Rows.FrameWritesSaid := frameWrites.proved
#print axioms frameWrites_holds
end Go.Proofs.Ytjkngcpmcmffmaa
