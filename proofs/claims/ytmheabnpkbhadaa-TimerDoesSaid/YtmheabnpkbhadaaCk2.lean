/- A store into a block, its cells as a list. -/
import Derived.Test.YtmheabnpkbhadaaCk
namespace Go.Proofs.Ytmheabnpkbhadaa.Ck2
open Go.RowKit Go.Proofs.Ytmheabnpkbhadaa.Bk
theorem set_at2 {w : World} {g i : Nat} {t : TypeId} {u : Value} {l l' : List Value} (h : Blk w g t l.toArray) (hc : l' = l.set i u) : Blk (w.setCell ⟨g, i, none⟩ u) g t l'.toArray := by
  rw [hc, ← List.setIfInBounds_toArray]
  exact h.set_ i u
end Go.Proofs.Ytmheabnpkbhadaa.Ck2
