/- both: the links and the reference's, of one list. -/
import Derived.Test.YtofflnklbdhaiaaDoorNx
import Derived.Test.YtofflnklbdhaiaaDoorSc
import Derived.Test.YtofflnklbdhaiaaDoorRm
import Derived.Test.YtofflnklbdhaiaaDoorLf
namespace Go.Proofs.YtofflnklbdhaiaaDoor.Bo
open Go.RowKit Go.Proofs.YtofflnklbdhaiaaDoor.Bk Go.Proofs.YtofflnklbdhaiaaDoor.Kp Go.Proofs.YtofflnklbdhaiaaDoor.Lk Go.Proofs.YtofflnklbdhaiaaDoor.Sc Go.Proofs.YtofflnklbdhaiaaDoor.Rm
theorem elemp {w : World} {A : Option Addr} {len : Nat} {vs : List (List Value)} (h : Lf.RowsAt w [.i .i64, .i .i64] A len vs) {k : Nat} (hk : k < len) :
    ∃ (ad : Addr) (x0 : Int) (x1 : Int), A = some ad ∧ vs[k]? = some [.int .i64 x0, .int .i64 x1] ∧ w.cell? (ad.add (k * 2)) = some (.int .i64 x0) ∧ w.cell? ⟨(ad.add (k * 2)).block, (ad.add (k * 2)).off + 1, none⟩ = some (.int .i64 x1) := by
  obtain ⟨ad, c, rfl, hv, hL, hc0, hcj⟩ := h.elem hk
  obtain ⟨u0, g0, q0, ⟨x0, e0, f0⟩, L0⟩ := hL.cons
  obtain ⟨u1, g1, q1, ⟨x1, e1, f1⟩, L1⟩ := L0.cons
  have n_ := L1.nil
  have hcc : c = [.int .i64 x0, .int .i64 x1] := by rw [q0, e0, q1, e1, n_]
  rw [hcc] at hv hc0 hcj
  exact ⟨ad, x0, x1, rfl, hv, hc0 _ rfl, hcj 0 _ rfl⟩
/-- A pair's row. -/
def cmp (a : List Nat) : List Value → List Nat
  | [.int _ i, .int _ k] => Sc.step a i k true
  | _ => a
def runp (a : List Nat) (z : List (List Value)) : List Nat := z.foldl cmp a
theorem runp_snoc {a : List Nat} {z : List (List Value)} {k : Nat} {v : List Value} (h : z[k]? = some v) : runp a (z.take (k + 1)) = cmp (runp a (z.take k)) v := by
  unfold runp
  rw [List.take_add_one, h, List.foldl_append]
  rfl
theorem cmp_length (a : List Nat) (v : List Value) : (cmp a v).length = a.length := by
  unfold cmp
  split
  · exact step_length _ _ _ _
  · rfl
theorem runp_length (z : List (List Value)) : ∀ (a : List Nat), (runp a z).length = a.length := by
  induction z with
  | nil => exact fun _ => rfl
  | cons v z ih => exact fun a => (ih (cmp a v)).trans (cmp_length a v)
theorem sy_cmp {a : List Nat} (h : Sy a) (hl : a.length ≤ 64) (v : List Value) : Sy (cmp a v) := by
  unfold cmp
  split
  · exact h.step hl _ _ _
  · exact h
theorem sy_runp : ∀ (z : List (List Value)) {a : List Nat}, Sy a → a.length ≤ 64 → Sy (runp a z)
  | [], _, h, _ => h
  | v :: z, a, h, hl => sy_runp z (a := cmp a v) (sy_cmp h hl v) (by rw [cmp_length]; exact hl)
theorem re_below {w w' : World} {m : Nat} {a : List Nat} {B : Nat} (h : Re w m a) (hb : Below B w w') (hm : m < B) : Re w' m a := let ⟨cs, h1, h2, h3⟩ := h; ⟨cs, h1.below hb hm, h2, h3⟩
set_option maxRecDepth 100000 in
set_option maxHeartbeats 4000000 in
theorem both_ok (n : Nat) (a1 : Option Addr) (len1 cap1 : Nat) (z1 : List (List Value)) (W : World) (h1 : 1 ≤ n) (h2 : n ≤ 64) (hz1 : Lf.RowsAt W [.i .i64, .i .i64] a1 len1 z1) (m1 : len1 ≤ 1000) :
    Calls Tryd.prog 7 #[.int .i64 n, .slice a1 len1 cap1] W fun e w' => (∃ p g m, e = .returned (.tuple #[.pointer (some ⟨p, 0, none⟩), .pointer (some ⟨m, 0, none⟩)]) ∧ Ln w' p g (runp (List.replicate n 0) z1) ∧ Re w' m (runp (List.replicate n 0) z1) ∧ W.heap.size ≤ p ∧ W.heap.size ≤ g ∧ W.heap.size ≤ m) ∧ Below W.heap.size W w' := by
  have hz := zZ
  have hs := Z_size
  obtain ⟨Z0, hZ⟩ : ∃ Z0, Z = Z0 := ⟨_, rfl⟩
  rw [hZ] at hz hs
  have hn : (Z0 = #[]) = False := by
    rw [eq_iff_iff]
    constructor
    · intro h
      rw [h] at hs
      simp at hs
    · exact False.elim
  have HZ := Lib.hid hZ
  have HW := Lib.hid hz1
  clear hZ hz1
  have CN := Lib.hid (new_ok n W h1 h2)
  go_enter Tryd.func7, Tryd.ntmps7
  go_wp2_with (go_at_call 13; (with_reducible refine Calls.mono CN.out ?_); rintro e w1 ⟨p, g, rfl, hL, hp, hg, hb⟩)
  have HB1 := Lib.hid hb
  have HL1 := Lib.hid hL
  clear hb hL CN
  have hpg := HL1.out.lt
  have hRe := Lib.hid (Re.new n w1)
  rw [HZ.out] at hRe
  have HB4 := Lib.hid (HB1.out.alloc HB1.out.size (.cells (Z0.setIfInBounds 0 (.int .i64 n)) 41))
  have HL4 := Lib.hid (HL1.out.below ((Below.refl _ _).alloc (Nat.le_refl _) (.cells (Z0.setIfInBounds 0 (.int .i64 n)) 41)))
  have hsz := HB1.out.size
  clear HB1 HL1 hz hs hn HZ
  generalize w1.alloc (.cells (Z0.setIfInBounds 0 (.int .i64 n)) 41) = w4 at *
  generalize w1.heap.size = m at *
  go_loopw [21] (fun i wr => ∃ k : Nat, k ≤ len1 ∧ i = .int .i64 k ∧ Ln wr p g (runp (List.replicate n 0) (z1.take k)) ∧ Re wr m (runp (List.replicate n 0) (z1.take k)) ∧ Below W.heap.size W wr) (fun i _ => len1 - (intOf i).toNat)
  case atStart => exact ⟨0, Nat.zero_le _, rfl, HL4.out, hRe.out, HB4.out⟩
  case round =>
    obtain ⟨k, hk, rfl, hL, hR, hB⟩ := hrel
    have hsy : Sy (runp (List.replicate n 0) (z1.take k)) := sy_runp _ (Sy.none n) (by simp; omega)
    have hal : (runp (List.replicate n 0) (z1.take k)).length = n := by rw [runp_length, List.length_replicate]
    by_cases hlt : k < len1
    · have n1 : (k : Int) < (len1 : Int) := by omega
      obtain ⟨ad, x0, x1, rfl, hv, t0, t1⟩ := elemp (HW.out.below hB) hlt
      have HRS := Lib.hid (runp_snoc (a := List.replicate n 0) hv)
      generalize runp (List.replicate n 0) (z1.take k) = a at hL hR hsy hal HRS
      have HRS2 := Lib.hid (show runp (List.replicate n 0) (z1.take (k + 1)) = Sc.step a x0 x1 true from HRS.out)
      have hcb := Blk.new wr 49 #[.int .i64 x0, .int .i64 x1]
      have hLa : Ln (wr.alloc (.cells #[.int .i64 x0, .int .i64 x1] 49)) p g a := hL.below ((Below.refl _ wr).alloc (Nat.le_refl _) _)
      have hRa : Re (wr.alloc (.cells #[.int .i64 x0, .int .i64 x1] 49)) m a := Cs.alloc hR _
      have HBa := Lib.hid (hB.alloc hB.size (.cells #[.int .i64 x0, .int .i64 x1] 49))
      have hms := Cs.lt hR
      have CS := Lib.hid (show Calls Tryd.prog 14 #[.pointer (some ⟨p, 0, none⟩), .int .i64 x0, .int .i64 x1, .bool true] (wr.alloc (.cells #[.int .i64 x0, .int .i64 x1] 49)) fun e w' => ∃ r, e = .returned (.int .i64 r) ∧ Ln w' p g (Sc.step a x0 x1 true) ∧ Kp (fun b => b = g) (wr.alloc (.cells #[.int .i64 x0, .int .i64 x1] 49)) w' from (set_any p g a x0 x1 true _ hLa).mono fun e w' h => ⟨_, h⟩)
      have CR := Lib.hid (fun w' (hk : Kp (fun b => b = g) (wr.alloc (.cells #[.int .i64 x0, .int .i64 x1] 49)) w') => show Calls Tryd.prog 15 #[.pointer (some ⟨m, 0, none⟩), .int .i64 x0, .int .i64 x1, .bool true] w' fun e w'' => ∃ r, e = .returned (.int .i64 r) ∧ Re w'' m (Sc.step a x0 x1 true) ∧ Kp (fun b => b = m) w' w'' from (rset_ok m a hsy.small (by omega) x0 x1 true w' (Cs.kp hRa hk (by omega))).mono fun e w'' h => ⟨_, h⟩)
      have HCB := Lib.hid hcb
      have s0 := hcb.cell 0
      have s1 := hcb.cell 1
      have hlt2 : wr.heap.size < (wr.alloc (.cells #[.int .i64 x0, .int .i64 x1] 49)).heap.size := by simp
      clear hL hR hB hv HRS hLa hRa hcb
      go_wp2_with (first
        | (go_at_call 14; (with_reducible refine Calls.mono CS.out ?_); rintro e w5 ⟨r5, rfl, hL5, hk5⟩; have hc5 := blk_kp HCB.out hk5 (by omega); have HB5 := Lib.hid (below_kp HBa.out HBa.out.size hk5 (fun b hb => by omega)); have HCR := Lib.hid (CR.out w5 hk5); have HL5 := Lib.hid hL5; have r0 := hc5.cell 0; have r1 := hc5.cell 1; clear hL5 hk5 hc5 CR CS HBa HCB s0 s1)
        | (go_at_call 15; (with_reducible refine Calls.mono HCR.out ?_); rintro e w6 ⟨r6, rfl, hR6, hk6⟩))
      have HB6 := Lib.hid (below_kp HB5.out HB5.out.size hk6 (fun b hb => by omega))
      have HL6 := Lib.hid (HL5.out.kp hk6 (by omega) (by omega))
      have HR6 := Lib.hid hR6
      clear hR6 hk6 HCR HB5 HL5 r0 r1
      go_roundw
      case rel => exact ⟨k + 1, by omega, by go_num, by rw [HRS2.out]; exact HL6.out, by rw [HRS2.out]; exact HR6.out, HB6.out⟩
      case measure => simp [intOf]; omega
    · have hke : k = len1 := by omega
      subst hke
      rw [List.take_of_length_le (Nat.le_of_eq HW.out.1)] at hL hR
      have HL5 := Lib.hid hL
      have HR5 := Lib.hid hR
      have HB5 := Lib.hid hB
      clear hL hR hB hsy hal HL4 hRe HB4
      go_wp2
      go_ret2
      exact ⟨⟨p, g, m, rfl, HL5.out, HR5.out, by omega, by omega, by omega⟩, HB5.out⟩
end Go.Proofs.YtofflnklbdhaiaaDoor.Bo
