/- The walks of octet's writer, as far as_ the checks ahead of each law need them; and these checks. -/
import Derived.Test.YtjkngcpmcmffmaaOc
import Derived.Deep.LoopGhost
import Derived.Test.YtjkngcpmcmffmaaStr
import Derived.Deep.RegionLaw
import Derived.Deep.AppendLies
namespace Go.Proofs.Ytjkngcpmcmffmaa.Pn
open Go.RowKit Go.Proofs.Ytjkngcpmcmffmaa.Bk Go.Proofs.Ytjkngcpmcmffmaa.Rw Go.Proofs.Ytjkngcpmcmffmaa.Ow Go.Proofs.Ytjkngcpmcmffmaa.Kp Go.Proofs.Ytjkngcpmcmffmaa.Octet Go.Proofs.Ytjkngcpmcmffmaa.Str

/-- A writer at block p, with these bytes. -/
def Pen (w : World) (base p : Nat) (v : Value) (l : List Int) : Prop := Blk w p 85 #[v] ∧ Oi .u8 5 w base v l ∧ base ≤ p ∧ (∀ q, v.ownBlock = some q → q ≠ p)

theorem Pen.alloc {w : World} {base p : Nat} {v : Value} {l : List Int} (h : Pen w base p v l) (o : Obj) : Pen (w.alloc o) base p v l := ⟨h.1.alloc _, h.2.1.alloc _, h.2.2⟩
theorem grown_pen {w w2 : World} {base p : Nat} {v v2 : Value} {l l2 : List Int} (ho : Oi .u8 5 w2 base v2 l2) (hg : w.grownBy w2 v.ownBlock) (hv : v2.ownBlock = v.ownBlock ∨ v2.ownBlock = some w.heap.size) (h : Pen w base p v l) :
    ∃ A c, v2 = .slice A l2.length c ∧ w2.cell? ⟨p, 0, none⟩ = some v ∧ w2.frozen? ⟨p, 0, none⟩ = false ∧ Hid (Pen (w2.setCell ⟨p, 0, none⟩ v2) base p v2 l2) ∧ Hid (∀ w0, Below base w0 w → base ≤ w.heap.size → Below base w0 (w2.setCell ⟨p, 0, none⟩ v2)) := by
  have hq : ∀ q, v2.ownBlock = some q → q ≠ p := fun q hq => by
    rcases hv with e | e
    · exact h.2.2.2 q (e.symm.trans hq)
    · rw [e] at hq
      injection hq with hq
      have := h.1.lt
      omega
  have hb : Blk w2 p 85 #[v] := Blk.grown h.1 hg (fun e => h.2.2.2 _ e.symm rfl)
  have hown := h.2.1.owner
  obtain ⟨A, c, he, _, _⟩ := ho.ri
  refine ⟨A, c, he, hb.cell 0, hb.frozen 0, Lib.hid ⟨hb.set_ 0 v2, oi_kp ho ((Kp.refl (· = p) w2).set_ ⟨p, 0, none⟩ (.inl rfl) v2) hq, h.2.2.1, hq⟩, Lib.hid fun w0 h0 hs => ?_⟩
  exact (h0.grown hg hs (fun q hq => (hown q hq).1)).setCell (p := ⟨p, 0, none⟩) h.2.2.1 _
theorem below_drew_ {B : Nat} {w w1 : World} (h : Below B w w1) : Below B w w1.drew := ⟨h.os, h.tape, h.output, h.size, h.block⟩
theorem bytes_ok (w : World) (base p : Nat) (v : Value) (l : List Int) (h : Pen w base p v l) (hl : l.length ≤ 200000) :
    Calls Try.prog 31 #[.pointer (some ⟨p, 0, none⟩)] w fun e w' => ∃ v, e = .returned v ∧ Oi .u8 5 w' w.heap.size v l ∧ Below w.heap.size w w' := by
  have c0 : w.cell? ⟨p, 0, none⟩ = some v := h.1.cell 0
  obtain ⟨A, c, rfl, hc, hr⟩ := h.2.1.ri
  have HR := Lib.hid hr
  clear h hr
  go_enter Try.func31, Try.ntmps31
  go_wp2_with (at_builtin; refine wp_append .u8 5 _ w.heap.size (.int .u8 0) 1 rfl _ _ 22 rfl Try.underlying22 (by kernel_rfl) rfl (.slice none 0 0) [] _ _ l _ rfl rfl rfl (Oi.nil _ _ _ _) HR.out ?_ ?_ ?_ ?_)
  · unfold maxLen; simp; omega
  · simp; omega
  · exact Nat.le_refl _
  intro v2 w2 ho hg _
  have HW2 := Lib.hid ((Below.refl w.heap.size w).grown hg (Nat.le_refl _) (fun k hk => by cases hk))
  have HO := Lib.hid ho
  clear ho hg
  go_wp2
  go_ret
  exact ⟨v2, rfl, HO.out, HW2.out⟩


/-- Blocks of other kinds are as they were. -/
def Far (w w' : World) : Prop := ∀ (g t : Nat) (C : Array Value), t ≠ 85 → t ≠ 5 → Blk w g t C → Blk w' g t C
theorem pen_far {w w2 : World} {base p : Nat} {v : Value} {l : List Int} (h : Pen w base p v l) (hg : w.grownBy w2 v.ownBlock) (u : Value) : Far w (w2.setCell ⟨p, 0, none⟩ u) := fun g t C h1 h2 hb => by
  have hp : g ≠ p := Blk.ne_ hb h.1 h1
  refine Blk.far (hb.grown hg (fun e => ?_)) (p := ⟨p, 0, none⟩) hp u
  rcases h.2.1.2 with ⟨rfl, _⟩ | ⟨q, c, cur, rfl, _, hq, _⟩
  · cases e
  · injection e with e
    exact Blk.ne_ hb (show Blk w q 5 cur from hq) h2 e
/-- A number's bytes, the highest first. -/
def be : Nat → Int → List Int
  | 0, _ => []
  | k + 1, n => n / 256 ^ k % 256 :: be k n
theorem be_length : ∀ (k : Nat) (n : Int), (be k n).length = k
  | 0, _ => rfl
  | k + 1, n => by rw [be, List.length_cons, be_length k n]
set_option maxHeartbeats 2000000 in
theorem num_ok (w : World) (base p k : Nat) (n : Int) (v : Value) (l : List Int) (h : Pen w base p v l) (hb : base ≤ w.heap.size) (hk : k ≤ 8) (_hn : 0 ≤ n ∧ n < 18446744073709551616) (hl : l.length ≤ 1000) :
    Calls Try.prog 28 #[.pointer (some ⟨p, 0, none⟩), .int .i64 k, .int .u64 n] w fun e w' => ∃ v, e = .returned (.pointer (some ⟨p, 0, none⟩)) ∧ Pen w' base p v (l ++ be k n) ∧ Below base w w' ∧ Far w w' := by
  have H := Lib.hid h
  clear h
  have m1 : max (k : Int) 0 = k := by omega
  have m2 : min (k : Int) 8 = k := by omega
  go_enter Try.func28, Try.ntmps28
  go_wp2
  go_loopw [7] (fun i wr => ∃ (m : Nat) (hd : List Int) (v : Value), Aside (m ≤ k ∧ i = .int .i64 ((m : Int) - 1) ∧ hd ++ be m n = be k n ∧ Pen wr base p v (l ++ hd) ∧ Below base w wr ∧ Far w wr)) (fun i _ => ((intOf i) + 1).toNat)
  case atStart => exact ⟨k, [], v, Nat.le_refl _, rfl, rfl, by rw [List.append_nil]; exact H.out, Below.refl _ _, fun _ _ _ _ _ h => h⟩
  case round =>
    obtain ⟨m, hd, v, hX⟩ := hrel
    obtain ⟨hmk, rfl, hbe, hp, hbl, hfar⟩ := hX.out
    have HFAR := Lib.hid hfar
    clear hX H hfar
    have HP := Lib.hid hp
    have HB := Lib.hid hbl
    have HE := Lib.hid hbe
    have c0 : wr.cell? ⟨p, 0, none⟩ = some v := hp.1.cell 0
    have f0 := hp.1.frozen 0
    have ca : ∀ o, (wr.alloc o).cell? ⟨p, 0, none⟩ = some v := fun o => (HP.out.1.alloc o).cell 0
    clear hp hbl hbe
    cases m with
    | zero =>
      go_wp2
      go_ret
      refine ⟨v, rfl, ?_, HB.out, HFAR.out⟩
      have h1 := HE.out
      rw [be, List.append_nil] at h1
      rw [← h1]
      exact HP.out
    | succ m =>
      have q8 : IntKind.i64.wrap (8 * (m : Int)) = 8 * (m : Int) := by rw [IntKind.wrap_i64]; omega
      have q9 : (0 : Int) ≤ 8 * (m : Int) := by omega
      have q10 : ¬ (8 * (m : Int) < 0) := by omega
      have hlh : (l ++ hd).length ≤ 1008 := by
        have h1 := congrArg List.length HE.out
        rw [List.length_append, be_length, be_length] at h1
        rw [List.length_append]
        omega
      have hlen3 : ∀ y : Int, (l ++ hd ++ [y]).length = l.length + (hd.length + 1) := fun y => by simp only [List.length_append, List.length_singleton]; omega
      have hval : IntKind.u8.wrap (n / 2 ^ (8 * (m : Int)).toNat) = n / 256 ^ m % 256 := by
        rw [show (8 * (m : Int)).toNat = 8 * m by omega, Int.pow_mul, show ((2 : Int) ^ 8) = 256 by decide]
        simp [IntKind.wrap, IntKind.bits, IntKind.signed]
      have HBE := Lib.hid (show be (m + 1) n = n / 256 ^ m % 256 :: be m n from rfl)
      generalize n / 256 ^ m % 256 = y at hval HBE
      go_wp2
      go_region_law (refine step_append .u8 5 _ base (.int .u8 0) 1 rfl _ _ 22 rfl Try.underlying22 (by kernel_rfl) rfl v (l ++ hd) _ _ [y] _ rfl rfl rfl (HP.out.2.1.alloc _) (Ri.lit .u8 5 _ [y] (by simp [maxLen]) _ rfl) (by unfold maxLen; simp only [List.length_singleton]; omega) (by simp only [List.length_singleton]; omega) (by have := HB.out.size; simp; omega) ?_; intro v2 w2 ho hg hv; obtain ⟨A2, c2, rfl, c02, f2, HP2, HK2⟩ := grown_pen ho hg hv (by exact HP.out.alloc _); have HF2 := Lib.hid (fun u => pen_far (by exact HP.out.alloc _) hg u); clear ho hg hv; rw [hlen3] at HP2 HK2)
      all_goals
        go_wp2
        go_roundw
        case rel =>
          refine ⟨m, hd ++ [y], .slice A2 (l.length + (hd.length + 1)) c2, (show Aside _ from ⟨by omega, rfl, ?_, ?_, HK2.out _ (below_drew_ (HB.out.alloc (Nat.le_trans hb HB.out.size) _)) (by have := HB.out.size; simp; omega), fun g t C h1 h2 hb => HF2.out _ g t C h1 h2 ((HFAR.out g t C h1 h2 hb).alloc _)⟩)⟩
          · rw [List.append_assoc, List.singleton_append, ← HBE.out]; exact HE.out
          · rw [← List.append_assoc]; exact HP2.out
        case measure => simp [intOf]
end Go.Proofs.Ytjkngcpmcmffmaa.Pn
