/- Blocks behind stores and allocs, found by steps backward. -/
import Derived.Test.YtmheabnpkbhadaaKp
namespace Go.Proofs.Ytmheabnpkbhadaa.Ck
open Go.RowKit Go.Proofs.Ytmheabnpkbhadaa.Bk Go.Proofs.Ytmheabnpkbhadaa.Rw Go.Proofs.Ytmheabnpkbhadaa.Ow Go.Proofs.Ytmheabnpkbhadaa.Kp
section
variable {S : Nat → Prop} {w w1 : World} {g B : Nat} {t : TypeId} {cs cs' : Array Value}
theorem set_at {i : Nat} {u : Value} (h : Blk w g t cs) (hc : cs' = cs.setIfInBounds i u) : Blk (w.setCell ⟨g, i, none⟩ u) g t cs' := hc ▸ h.set_ i u
theorem set_far {b i : Nat} {u : Value} (hb : ¬ g = b) (h : Blk w g t cs) : Blk (w.setCell ⟨b, i, none⟩ u) g t cs := h.far (p := ⟨b, i, none⟩) hb u
theorem new_at {n : Nat} (hn : n = w.heap.size) : Blk (w.alloc (.cells cs t)) n t cs := hn ▸ Blk.new w t cs
theorem size_set (p : Addr) (u : Value) : (w.setCell p u).heap.size = w.heap.size := by simp [World.setCell]
theorem size_drew : w.drew.heap.size = w.heap.size := rfl
theorem kp_set {b i : Nat} {u : Value} (hb : S b ∨ w.heap.size ≤ b) (h : Kp S w w1) : Kp S w (w1.setCell ⟨b, i, none⟩ u) := h.set_ ⟨b, i, none⟩ hb u
theorem below_set {b i : Nat} {u : Value} (hb : B ≤ b) (h : Below B w w1) : Below B w (w1.setCell ⟨b, i, none⟩ u) := h.setCell (p := ⟨b, i, none⟩) hb u
theorem below_drew {B : Nat} {w w1 : World} (h : Below B w w1) : Below B w w1.drew := ⟨h.os, h.tape, h.output, h.size, h.block⟩
theorem below_at {o : Obj} (hB : B ≤ w1.heap.size) (h : Below B w w1) : Below B w (w1.alloc o) := h.alloc hB o
end
end Go.Proofs.Ytmheabnpkbhadaa.Ck
