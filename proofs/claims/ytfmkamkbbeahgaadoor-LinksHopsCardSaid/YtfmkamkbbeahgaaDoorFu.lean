/- make([]T, n) of whole numbers, inside a fence. -/
import Derived.OwnWalkIn
import Derived.OwnWalk
import Derived.Test.YtfmkamkbbeahgaaDoorKp
namespace Go.Proofs.YtfmkamkbbeahgaaDoor.Fu
open Go.RowKit Go.Proofs.YtfmkamkbbeahgaaDoor.Bk Go.Proofs.YtfmkamkbbeahgaaDoor.Ow Go.Proofs.YtfmkamkbbeahgaaDoor.Kp
theorem wpi_full {F : Fence} {fn : Nat} {P : Program} {ops : Array Oper} {rest : List Oper} {o : Oper} {a : Act} {Q : Exit → Act → World → Prop} (k : IntKind) (e : TypeId) (w : World) (hgd : o.guard = none) (t : TypeId) (x y : Operand) (ho : o.op = .makeSlice t x y)
    (ht : P.underlying t = some (.slice e)) (hinfo : (P.info? e).map (fun i => (i.zero, i.size, i.bytes)) = some (some (.int k 0), 1, 8))
    (kl kc : IntKind) (n : Nat) (hx : a.eval x = .int kl n) (hy : a.eval y = .int kc n) (hn : n ≤ 1000)
    (h : ∀ w', Blk w' w.heap.size e ((List.replicate n (Value.int k 0)).toArray) → w.grownBy w' none → wpListIn F fn P ops Q rest (a.put o.dst (.slice (some ⟨w.heap.size, 0, none⟩) n n)) w') : wpListIn F fn P ops Q (o :: rest) a w := by
  obtain ⟨i0, hi, hzz⟩ := Option.map_eq_some_iff.1 hinfo
  simp only [Prod.mk.injEq] at hzz
  obtain ⟨hz0, hz1, hz2⟩ := hzz
  refine wpListIn_plain hgd fun K hK' => ?_
  obtain ⟨w', hrun, r1, r2⟩ := run_make_full (P := P) w w.heap.size t e i0 (.int k 0) 1 ht hi hz0 hz1 kl kc n (by rw [hz2]; omega) (by unfold maxLen; omega) (Nat.le_refl _)
  have hb := (blk_of_row r1).1
  have hm : (madeCells (Value.int k 0).cells (n * 1)).toList = List.replicate n (Value.int k 0) := by
    simp only [madeCells, Value.cells, List.size_toArray, List.length_singleton]
    rw [List.eq_replicate_iff]
    refine ⟨by simp, fun b hb => ?_⟩
    simp [Nat.mod_one] at hb
    exact hb.2.symm
  rw [hm] at hb
  unfold Oper.wpIn
  refine ⟨?_, ?_⟩
  · simp [Oper.about, ho]
  · rw [Oper.semAt_plain F _ _ (by rw [ho]; intro c hc'; cases hc')]
    simp [execOp, ho, hx, hy, hrun, Result.andThen]
    exact hK' _ _ (h w' hb r2)
end Go.Proofs.YtfmkamkbbeahgaaDoor.Fu
