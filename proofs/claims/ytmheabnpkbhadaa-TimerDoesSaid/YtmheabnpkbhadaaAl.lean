/- Calls onto a row of our own; alive. -/
import Derived.Test.YtmheabnpkbhadaaDu
namespace Go.Proofs.Ytmheabnpkbhadaa.Al
open Go.RowKit Go.Proofs.Ytmheabnpkbhadaa.Bk Go.Proofs.Ytmheabnpkbhadaa.Kp Go.Proofs.Ytmheabnpkbhadaa.Rw Go.Proofs.Ytmheabnpkbhadaa.Ow Go.Proofs.Ytmheabnpkbhadaa.Tp Go.Proofs.Ytmheabnpkbhadaa.Tl Go.Proofs.Ytmheabnpkbhadaa.Tq Go.Proofs.Ytmheabnpkbhadaa.Is Go.Proofs.Ytmheabnpkbhadaa.Se Go.Proofs.Ytmheabnpkbhadaa.Du
theorem below_k {B : Nat} {S : Nat → Prop} {w0 w w' : World} (hB : Below B w0 w) (hb : B ≤ w.heap.size) (hk : Kp S w w') (hS : ∀ k, S k → B ≤ k) : Below B w0 w' := below_kp hB hb hk hS
theorem set_new (w0 : World) (r q : Nat) (l : List One) (t what : Int) (w : World) (hB : Below w0.heap.size w0 w) (hr : w0.heap.size ≤ r) (hq : w0.heap.size ≤ q) (hR : RB w r q l) (hO : Ok l) :
    Calls Try.prog 8 #[.pointer (some ⟨r, 0, none⟩), .int .i64 t, .int .i64 what] w fun e w' => e = .returned (.int .i64 (code l what)) ∧ (∃ q', RB w' r q' (put l t what) ∧ w0.heap.size ≤ q') ∧ Below w0.heap.size w0 w' := by
  refine (set_ok r q l t what w hR hO).mono fun e w' ⟨h1, ⟨q', h2, h3⟩, h4⟩ => ⟨h1, ⟨q', h2, ?_⟩, below_k hB hB.size h4 (fun k hk => by rcases hk with rfl | rfl <;> assumption)⟩
  have := hB.size
  rcases h3 with rfl | h3 <;> omega
theorem due_new (w0 : World) (r q : Nat) (l : List One) (now : Int) (w : World) (hB : Below w0.heap.size w0 w) (hr : w0.heap.size ≤ r) (hR : RB w r q l) (hO : Ok l) :
    Calls Try.prog 9 #[.pointer (some ⟨r, 0, none⟩), .int .i64 now] w fun e w' => (∃ v, e = .returned v ∧ Oi .i64 3 w' w.heap.size v (dues l now)) ∧ RB w' r q (left l now) ∧ Below w0.heap.size w0 w' :=
  (due_ok r q l now w hR hO.len).mono fun e w' ⟨h1, h2, h3⟩ => ⟨h1, h2, below_k hB hB.size h3 (fun k hk => by subst hk; exact hr)⟩
set_option maxHeartbeats 2000000 in
theorem alive_ok (w : World) : Calls Try.prog 7 #[] w fun e w' => e = .returned (.bool true) ∧ Below w.heap.size w w' := by
  have O1 := Lib.hid (show Ok [(7, 1)] from ok_put ok_nil 7 1)
  have O2 := Lib.hid (show Ok [(3, 2), (7, 1)] from ok_put O1.out 3 2)
  have O3 := Lib.hid (show Ok [(3, 2), (7, 1), (7, 3)] from ok_put O2.out 7 3)
  have O4 := Lib.hid (show Ok [(3, 2), (7, 3), (9, 1)] from ok_put O3.out 9 1)
  have HR0 := Lib.hid (RB.new w)
  have HB0 := Lib.hid ((Below.refl w.heap.size w).alloc (Nat.le_refl _) (.cells #[.slice none 0 0] 26))
  go_enter Try.func7, Try.ntmps7
  go_wp2_with (first
    | (go_at_call 8
       (with_reducible refine Calls.mono (set_new w w.heap.size _ _ 7 1 _ HB0.out (Nat.le_refl _) (Nat.le_refl _) HR0.out ok_nil) ?_)
       rintro e w1 ⟨rfl, ⟨q1, hR, hq⟩, hB⟩
       rw [show put [] 7 1 = [(7, 1)] by decide] at hR
       have HR1 := Lib.hid hR
       have HQ1 := Lib.hid hq
       have HB1 := Lib.hid hB
       clear hR hq hB HR0 HB0)
    | (go_at_call 8
       (with_reducible refine Calls.mono (set_new w w.heap.size _ _ 3 2 _ HB1.out (Nat.le_refl _) HQ1.out HR1.out O1.out) ?_)
       rintro e w2 ⟨rfl, ⟨q2, hR, hq⟩, hB⟩
       rw [show put [(7, 1)] 3 2 = [(3, 2), (7, 1)] by decide] at hR
       have HR2 := Lib.hid hR
       have HQ2 := Lib.hid hq
       have HB2 := Lib.hid hB
       clear hR hq hB HR1 HB1)
    | (go_at_call 8
       (with_reducible refine Calls.mono (set_new w w.heap.size _ _ 7 3 _ HB2.out (Nat.le_refl _) HQ2.out HR2.out O2.out) ?_)
       rintro e w3 ⟨rfl, ⟨q3, hR, hq⟩, hB⟩
       rw [show put [(3, 2), (7, 1)] 7 3 = [(3, 2), (7, 1), (7, 3)] by decide] at hR
       have HR3 := Lib.hid hR
       have HQ3 := Lib.hid hq
       have HB3 := Lib.hid hB
       clear hR hq hB HR2 HB2)
    | (go_at_call 8
       (with_reducible refine Calls.mono (set_new w w.heap.size _ _ 9 1 _ HB3.out (Nat.le_refl _) HQ3.out HR3.out O3.out) ?_)
       rintro e w4 ⟨rfl, ⟨q4, hR, hq⟩, hB⟩
       rw [show put [(3, 2), (7, 1), (7, 3)] 9 1 = [(3, 2), (7, 3), (9, 1)] by decide] at hR
       rw [show code [(3, 2), (7, 1), (7, 3)] 1 = 0 by decide]
       have HR4 := Lib.hid hR
       have HQ4 := Lib.hid hq
       have HB4 := Lib.hid hB
       clear hR hq hB HR3 HB3)
    | (go_at_call 9
       (with_reducible refine Calls.mono (due_new w w.heap.size _ _ 8 _ HB4.out (Nat.le_refl _) HR4.out O4.out) ?_)
       rintro e w5 ⟨⟨v, rfl, hv⟩, hR, hB⟩
       rw [show dues [(3, 2), (7, 3), (9, 1)] 8 = [2, 3] by decide] at hv
       rw [show left [(3, 2), (7, 3), (9, 1)] 8 = [(9, 1)] by decide] at hR
       obtain ⟨g, c, rfl, _, _, _, _, hc, _⟩ := (hv.form).resolve_left (fun h => by cases h.2)
       have e0 : w5.cell? ⟨g, 0, none⟩ = some (.int .i64 2) := hc 0 2 rfl
       have e1 : w5.cell? ⟨g, 1, none⟩ = some (.int .i64 3) := hc 1 3 rfl
       have HR5 := Lib.hid hR
       have HB5 := Lib.hid hB
       clear hR hB hc hv HR4 HB4)
    | (go_at_call 10
       (with_reducible refine Calls.mono (len_ok _ _ _ _ HR5.out) ?_)
       rintro e w6 ⟨rfl, rfl⟩))
  go_ret
  exact ⟨rfl, HB5.out⟩
end Go.Proofs.Ytmheabnpkbhadaa.Al
