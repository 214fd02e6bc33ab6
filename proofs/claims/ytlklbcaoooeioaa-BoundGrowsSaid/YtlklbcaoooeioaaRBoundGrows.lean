/- The row of the law BoundGrows, over our walk; written by our program row.py. -/
import Derived.Test.YtlklbcaoooeioaaRows
import Derived.Test.YtlklbcaoooeioaaKBoundGrows
import Derived.Test.YtlklbcaoooeioaaLf
import Derived.WalkKit
import Derived.ProofKit
import Derived.OpenShut
import Derived.ShutString
import Derived.ChangeOld
import Derived.Below
import Derived.SizedLaws
namespace Go.Proofs.Ytlklbcaoooeioaa.boundGrows
open Go.ChangeShapes Go.WideShapes Go.ChangeAt Go.RowKit
open Go.ChangeMaps (open_string shut_string)
set_option linter.unusedVariables false
theorem own : ownKnob Try.prog.godebug = none := by kernel_rfl
theorem laidOut : laidOutB Try.prog = true := by kernel_rfl
set_option maxRecDepth 100000 in
theorem lifted (os : Os) (started : os.Started) (H : Type) (enc : TypeId × Value → H) :
    ReturnsInHanded {} Try.checked os 8 .any (Rows.boundGrowsSpec.pre6 enc Try.prog Try.f8 Rows.boundGrowsRow.domain false) (Rows.boundGrowsSpec.post enc Try.prog Try.f8 false true false false) := by
  refine returnsInHanded_of_change_sized (C := Try.checked) own started (by kernel_rfl) Try.func8
    (ChangeSpec.witness6 (enc := enc) (C := Try.checked) false ⟨#[], #[.agg #[.int .i64 0, .int .i64 0, .int .i64 0, .int .i64 0], .agg #[.int .i64 0, .int .i64 0, .int .i64 0, .int .i64 0], .int .i64 0, .agg #[.int .i64 0, .int .i64 0, .int .i64 0, .int .i64 0, .int .i64 0], .agg #[.int .i64 0, .int .i64 0, .int .i64 0, .int .i64 0, .int .i64 0], .int .i64 0], []⟩ 8 (by kernel_rfl) (by kernel_rfl) (by kernel_rfl) (by kernel_rfl)) ?_
  intro W base args ds gs before hval0 hW hcnd hsz0 _
  have hsz : (DataW.weightsEach Try.prog (Try.f8.params.toList ++ Rows.boundGrowsSpec.plain.varTypes Try.prog) (ds ++ gs)).all (· ≤ reachBytes) = true := hsz0
  have hval : ∀ (j : Nat) t v, Try.f8.params[j]? = some t → args[j]? = some v → Value.okWide Try.prog W .any base t v := hval0
  have hW' := hW
  obtain ⟨p, q, hA0, hV, rfl, hfz, hnd⟩ := hW
  have hA : DataW.TrodAll enc Try.prog W 0 (fun _ => true) true Try.f8.params.toList args.toList ds p := hA0
  rw [Try.params8] at hA hval hsz
  obtain ⟨v0, vs0, d0, ds0, p0, q0, hargs, rfl, rfl, h0, r0⟩ := trodAll_cons hA
  obtain ⟨v1, vs1, d1, ds1, p1, q1, rfl, rfl, rfl, h1, r1⟩ := trodAll_cons r0
  obtain ⟨v2, vs2, d2, ds2, p2, q2, rfl, rfl, rfl, h2, r2⟩ := trodAll_cons r1
  obtain ⟨v3, vs3, d3, ds3, p3, q3, rfl, rfl, rfl, h3, r3⟩ := trodAll_cons r2
  obtain ⟨v4, vs4, d4, ds4, p4, q4, rfl, rfl, rfl, h4, r4⟩ := trodAll_cons r3
  obtain ⟨v5, vs5, d5, ds5, p5, q5, rfl, rfl, rfl, h5, r5⟩ := trodAll_cons r4
  obtain ⟨rfl, rfl, rfl⟩ := trodAll_nil r5
  obtain rfl : args = #[v0, v1, v2, v3, v4, v5] := by cases args; simp_all
  obtain ⟨rfl, rfl⟩ := trodVars_none hV
  have k0 := h0
  have lt0 : ∀ x ∈ p0, x.block < W.heap.size := by obtain ⟨m, hm⟩ := k0; exact DataW.trod_lt m _ _ _ hm
  obtain ⟨g0, e0, L0⟩ := Lf.open_struct (ks := [.i .i64, .i .i64, .i .i64, .i .i64]) Try.underlying23 6 (by kernel_rfl) (hval 0 23 v0 rfl rfl) h0
  obtain ⟨u0_0, g0_0, q0_0, ⟨a0_0, x0_0, w0_0⟩, L0_0⟩ := L0.cons
  obtain ⟨u0_1, g0_1, q0_1, ⟨a0_1, x0_1, w0_1⟩, L0_1⟩ := L0_0.cons
  obtain ⟨u0_2, g0_2, q0_2, ⟨a0_2, x0_2, w0_2⟩, L0_2⟩ := L0_1.cons
  obtain ⟨u0_3, g0_3, q0_3, ⟨a0_3, x0_3, w0_3⟩, L0_3⟩ := L0_2.cons
  have n0 := L0_3.nil
  obtain rfl : v0 = .agg #[.int .i64 a0_0, .int .i64 a0_1, .int .i64 a0_2, .int .i64 a0_3] := by rw [e0, q0_0, x0_0, q0_1, x0_1, q0_2, x0_2, q0_3, x0_3, n0]
  have k1 := h1
  have lt1 : ∀ x ∈ p1, x.block < W.heap.size := by obtain ⟨m, hm⟩ := k1; exact DataW.trod_lt m _ _ _ hm
  obtain ⟨g1, e1, L1⟩ := Lf.open_struct (ks := [.i .i64, .i .i64, .i .i64, .i .i64]) Try.underlying23 6 (by kernel_rfl) (hval 1 23 v1 rfl rfl) h1
  obtain ⟨u1_0, g1_0, q1_0, ⟨a1_0, x1_0, w1_0⟩, L1_0⟩ := L1.cons
  obtain ⟨u1_1, g1_1, q1_1, ⟨a1_1, x1_1, w1_1⟩, L1_1⟩ := L1_0.cons
  obtain ⟨u1_2, g1_2, q1_2, ⟨a1_2, x1_2, w1_2⟩, L1_2⟩ := L1_1.cons
  obtain ⟨u1_3, g1_3, q1_3, ⟨a1_3, x1_3, w1_3⟩, L1_3⟩ := L1_2.cons
  have n1 := L1_3.nil
  obtain rfl : v1 = .agg #[.int .i64 a1_0, .int .i64 a1_1, .int .i64 a1_2, .int .i64 a1_3] := by rw [e1, q1_0, x1_0, q1_1, x1_1, q1_2, x1_2, q1_3, x1_3, n1]
  have k2 := h2
  have lt2 : ∀ x ∈ p2, x.block < W.heap.size := by obtain ⟨m, hm⟩ := k2; exact DataW.trod_lt m _ _ _ hm
  obtain ⟨a2, rfl, _, _, w2⟩ := open_int Try.underlying3 (hval 2 3 v2 rfl rfl) h2
  have k3 := h3
  have lt3 : ∀ x ∈ p3, x.block < W.heap.size := by obtain ⟨m, hm⟩ := k3; exact DataW.trod_lt m _ _ _ hm
  obtain ⟨g3, e3, L3⟩ := Lf.open_struct (ks := [.i .i64, .i .i64, .i .i64, .i .i64, .i .i64]) Try.underlying42 6 (by kernel_rfl) (hval 3 42 v3 rfl rfl) h3
  obtain ⟨u3_0, g3_0, q3_0, ⟨a3_0, x3_0, w3_0⟩, L3_0⟩ := L3.cons
  obtain ⟨u3_1, g3_1, q3_1, ⟨a3_1, x3_1, w3_1⟩, L3_1⟩ := L3_0.cons
  obtain ⟨u3_2, g3_2, q3_2, ⟨a3_2, x3_2, w3_2⟩, L3_2⟩ := L3_1.cons
  obtain ⟨u3_3, g3_3, q3_3, ⟨a3_3, x3_3, w3_3⟩, L3_3⟩ := L3_2.cons
  obtain ⟨u3_4, g3_4, q3_4, ⟨a3_4, x3_4, w3_4⟩, L3_4⟩ := L3_3.cons
  have n3 := L3_4.nil
  obtain rfl : v3 = .agg #[.int .i64 a3_0, .int .i64 a3_1, .int .i64 a3_2, .int .i64 a3_3, .int .i64 a3_4] := by rw [e3, q3_0, x3_0, q3_1, x3_1, q3_2, x3_2, q3_3, x3_3, q3_4, x3_4, n3]
  have k4 := h4
  have lt4 : ∀ x ∈ p4, x.block < W.heap.size := by obtain ⟨m, hm⟩ := k4; exact DataW.trod_lt m _ _ _ hm
  obtain ⟨g4, e4, L4⟩ := Lf.open_struct (ks := [.i .i64, .i .i64, .i .i64, .i .i64, .i .i64]) Try.underlying42 6 (by kernel_rfl) (hval 4 42 v4 rfl rfl) h4
  obtain ⟨u4_0, g4_0, q4_0, ⟨a4_0, x4_0, w4_0⟩, L4_0⟩ := L4.cons
  obtain ⟨u4_1, g4_1, q4_1, ⟨a4_1, x4_1, w4_1⟩, L4_1⟩ := L4_0.cons
  obtain ⟨u4_2, g4_2, q4_2, ⟨a4_2, x4_2, w4_2⟩, L4_2⟩ := L4_1.cons
  obtain ⟨u4_3, g4_3, q4_3, ⟨a4_3, x4_3, w4_3⟩, L4_3⟩ := L4_2.cons
  obtain ⟨u4_4, g4_4, q4_4, ⟨a4_4, x4_4, w4_4⟩, L4_4⟩ := L4_3.cons
  have n4 := L4_4.nil
  obtain rfl : v4 = .agg #[.int .i64 a4_0, .int .i64 a4_1, .int .i64 a4_2, .int .i64 a4_3, .int .i64 a4_4] := by rw [e4, q4_0, x4_0, q4_1, x4_1, q4_2, x4_2, q4_3, x4_3, q4_4, x4_4, n4]
  have k5 := h5
  have lt5 : ∀ x ∈ p5, x.block < W.heap.size := by obtain ⟨m, hm⟩ := k5; exact DataW.trod_lt m _ _ _ hm
  obtain ⟨a5, rfl, _, _, w5⟩ := open_int Try.underlying3 (hval 5 3 v5 rfl rfl) h5
  clear hA0 hval0 hsz0 hsz
  refine (BoundGrowsW.walk a0_0 a0_1 a0_2 a0_3 a1_0 a1_1 a1_2 a1_3 a2 a3_0 a3_1 a3_2 a3_3 a3_4 a4_0 a4_1 a4_2 a4_3 a4_4 a5 W w0_0 w0_1 w0_2 w0_3 w1_0 w1_1 w1_2 w1_3 w2 w3_0 w3_1 w3_2 w3_3 w3_4 w4_0 w4_1 w4_2 w4_3 w4_4 w5).mono fun e W' ⟨he, bel⟩ => ?_
  subst he
  exact ⟨_, rfl, _, _, _, [], _, [], hW', trodAll_mk1 (shut_bool Try.underlying4 _), (trodAll_cons_mk (Below.trod laidOut (by kernel_rfl) (of_decide_eq_true (by kernel_rfl)) k0 bel lt0) (trodAll_cons_mk (Below.trod laidOut (by kernel_rfl) (of_decide_eq_true (by kernel_rfl)) k1 bel lt1) (trodAll_cons_mk (Below.trod laidOut (by kernel_rfl) (of_decide_eq_true (by kernel_rfl)) k2 bel lt2) (trodAll_cons_mk (Below.trod laidOut (by kernel_rfl) (of_decide_eq_true (by kernel_rfl)) k3 bel lt3) (trodAll_cons_mk (Below.trod laidOut (by kernel_rfl) (of_decide_eq_true (by kernel_rfl)) k4 bel lt4) (trodAll_cons_mk (Below.trod laidOut (by kernel_rfl) (of_decide_eq_true (by kernel_rfl)) k5 bel lt5) trodAll_mk0)))))), rfl, bel.frame _, fun h => by cases h⟩
theorem over : Rows.boundGrowsRow.holds Try.pinned (OpenSpec.ofChange Rows.boundGrowsSpec) :=
  OpenClaim.holds_of_wide 8 Try.f8 rfl rfl rfl rfl rfl rfl rfl ⟨rfl, rfl, rfl, rfl, rfl⟩ rfl rfl rfl rfl rfl (by kernel_rfl) Try.func8 (by kernel_rfl)
    (of_decide_eq_true (by kernel_rfl)) (by unfold Func.isWrapper; first | (rw [if_pos (by decide +kernel)]; kernel_rfl) | (rw [if_neg (by decide +kernel)]; exact ⟨rfl, rfl⟩))
    (fun os started H enc _ => lifted os started H enc)
theorem proved : Rows.BoundGrowsSaid := over
end Go.Proofs.Ytlklbcaoooeioaa.boundGrows
namespace Go.Proofs.Ytlklbcaoooeioaa
/-- The row, under a short name, for the claim. -/
theorem boundGrows_holds : Rows.BoundGrowsSaid := boundGrows.proved
#print axioms boundGrows_holds
end Go.Proofs.Ytlklbcaoooeioaa
