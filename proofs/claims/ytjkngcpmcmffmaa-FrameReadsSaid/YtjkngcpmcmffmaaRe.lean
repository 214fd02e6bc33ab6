/- Equal frames, equal texts; what a frame's numbers make. -/
import Derived.Test.YtjkngcpmcmffmaaRd
import Derived.Test.YtjkngcpmcmffmaaIn
import Derived.Test.YtjkngcpmcmffmaaStr
import Derived.Test.YtjkngcpmcmffmaaSq2
namespace Go.Proofs.Ytjkngcpmcmffmaa.Re
open Go.RowKit Go.Proofs.Ytjkngcpmcmffmaa.Bk Go.Proofs.Ytjkngcpmcmffmaa.Rw Go.Proofs.Ytjkngcpmcmffmaa.Ow Go.Proofs.Ytjkngcpmcmffmaa.Kp Go.Proofs.Ytjkngcpmcmffmaa.Sq Go.Proofs.Ytjkngcpmcmffmaa.Octet Go.Proofs.Ytjkngcpmcmffmaa.Fr Go.Proofs.Ytjkngcpmcmffmaa.Pn Go.Proofs.Ytjkngcpmcmffmaa.Crc Go.Proofs.Ytjkngcpmcmffmaa.Cr Go.Proofs.Ytjkngcpmcmffmaa.Gn Go.Proofs.Ytjkngcpmcmffmaa.Kd Go.Proofs.Ytjkngcpmcmffmaa.Dc Go.Proofs.Ytjkngcpmcmffmaa.De Go.Proofs.Ytjkngcpmcmffmaa.Pl Go.Proofs.Ytjkngcpmcmffmaa.Al Go.Proofs.Ytjkngcpmcmffmaa.Rd Go.Proofs.Ytjkngcpmcmffmaa.Str
theorem pln_back {k : Nat} (hk : 1 ≤ k ∧ k ≤ 6) {ns : List Int} (h : ns.length = (spec k).length) : (pln k ns).kind = k ∧ nums (pln k ns) k = ns := by
  rcases (by omega : k = 1 ∨ k = 2 ∨ k = 3 ∨ k = 4 ∨ k = 5 ∨ k = 6) with rfl | rfl | rfl | rfl | rfl | rfl
  · obtain ⟨a0, a1, a2, a3, a4, a5, rfl⟩ := cut_1 h
    exact ⟨rfl, rfl⟩
  · obtain ⟨a0, a1, rfl⟩ := cut_2 h
    exact ⟨rfl, rfl⟩
  · obtain ⟨a0, rfl⟩ := cut_3 h
    exact ⟨rfl, rfl⟩
  · obtain ⟨a0, a1, a2, rfl⟩ := cut_4 h
    exact ⟨rfl, rfl⟩
  · obtain ⟨a0, a1, a2, a3, a4, a5, a6, a7, rfl⟩ := cut_5 h
    exact ⟨rfl, rfl⟩
  · obtain ⟨a0, a1, a2, a3, a4, a5, rfl⟩ := cut_6 h
    exact ⟨rfl, rfl⟩
theorem str_eq {l m : List Int} (hl : Bytes l) (hm : Bytes m) : ((str l).toList == (str m).toList) = decide (l = m) := by
  by_cases h : l = m
  · subst h; simp
  · rw [decide_eq_false h, beq_eq_false_iff_ne]
    intro h2
    rw [ByteArray.toList_eq, ByteArray.toList_eq] at h2
    have h3 : (str l).data = (str m).data := Array.toList_inj.1 h2
    exact h (str_inj hl hm (congrArg ByteArray.mk h3))
theorem guard31 (op : BinOp) (p q : Pl) (x y : Operand) (w : World) : (eqGuard op 31 x y p.v q.v).run Try.prog w = .ok () w := run_eqGuard_agg _ op 31 x y p.cs q.cs (by kernel_rfl)
theorem str_at {w : World} {A : Option Addr} {l : List Int} (h : Ri .u8 w A l) (c m : Nat) (hm : l.length = m) : (convert 22 9 (.slice A m c)).run Try.prog w = .ok (.string (str l)) w := by
  subst hm
  exact str_ok w 22 9 5 Try.underlying22 Try.underlying5 Try.underlying9 A l c h
end Go.Proofs.Ytjkngcpmcmffmaa.Re
