/- A function leaves with any number of marks among its deferred calls (a range over a function within a plain loop). -/
import Derived.RangeFuncLeaves
import Derived.RangeFuncBox
import Derived.Test.YtofflnklbdhaiaaDoorKp
namespace Go.Proofs.YtofflnklbdhaiaaDoor.Mk
open Go.RowKit Go.Proofs.YtofflnklbdhaiaaDoor.Bk Go.Proofs.YtofflnklbdhaiaaDoor.Kp
abbrev mark (D : Nat) : Deferred := { target := .collected D, args := #[] }
theorem leaves_marks {P : Program} {F : Fence} {n : Nat} {fn : Func} {tmps : Array Value} {R : Ending → World → Prop} (v : Value) : ∀ (Ds : List Nat) (W : World), Ds.Nodup → (∀ D ∈ Ds, W.heap[D]? = some (.deferred (some []))) →
    (∀ W', Kp (fun k => k ∈ Ds) W W' → (results fn tmps).run P W' = .ok v W' ∧ R (.returned v) W') → LeavesInM F n P fn tmps R (Ds.map mark) .returning W
  | [], W, _, _, h => ⟨v, h W (Kp.refl _ _)⟩
  | D :: Ds, W, hn, hd, h => by
    obtain ⟨hD, hn⟩ := List.nodup_cons.1 hn
    have h0 := hd D List.mem_cons_self
    refine ⟨by simp, .inl ⟨D, W.putObj D (.deferred none), rfl, run_takeDeferred h0, leaves_marks v Ds _ hn (fun E hE => ?_) (fun W' hk => h W' (Kp.trans ((Kp.refl (fun k => k ∈ D :: Ds) W).grown (grownBy_putObj' W D (.deferred none)) (fun q e => by cases e; exact .inl List.mem_cons_self)) (hk.mono (fun k _ hk => List.mem_cons_of_mem _ hk))))⟩⟩
    have hne : E ≠ D := fun e => hD (by rw [← e]; exact hE)
    first
      | exact (World.putObj_heap_other hne).trans (hd E (List.mem_cons_of_mem _ hE))
      | exact (World.putObj_heap_other hne.symm).trans (hd E (List.mem_cons_of_mem _ hE))
end Go.Proofs.YtofflnklbdhaiaaDoor.Mk
