/- The walk of Parse, over whatever text. -/
import Derived.Test.YtobhjkephinhiacParse
namespace Go.Proofs.Ytobhjkephinhiac.Civil
open Go.RowKit Go.Proofs.Ytobhjkephinhiac.Bk Go.Proofs.Ytobhjkephinhiac.Rw Go.Proofs.Ytobhjkephinhiac.Ow Go.Proofs.Ytobhjkephinhiac.Kp Go.Proofs.Ytobhjkephinhiac.Str

def atp (p : Nat) : Int := if p ≤ 4 then 0 else if p ≤ 7 then 1 else 2
def cntp (p : Nat) : Int := if p ≤ 4 then p else if p ≤ 7 then p - 5 else p - 8
def zero3 : Array Value := #[.int .i64 0, .int .i64 0, .int .i64 0]

theorem n0_next {s : ByteArray} {p : Nat} {x : Int} (hp : p < 4) (h : (bl s)[p]? = some x) : n0 s (p + 1) = 10 * n0 s p + (x - 48) := by
  unfold n0
  rw [show min (p + 1) 4 = p + 1 by omega, show min p 4 = p by omega, take_next h]
theorem n1_next {s : ByteArray} {p : Nat} {x : Int} (h5 : 5 ≤ p) (hp : p < 7) (h : (bl s)[p]? = some x) : n1 s (p + 1) = 10 * n1 s p + (x - 48) := by
  unfold n1
  rw [show min (p + 1 - 5) 2 = (p - 5) + 1 by omega, show min (p - 5) 2 = p - 5 by omega, take_next (x := x)]
  rw [List.getElem?_drop, show 5 + (p - 5) = p by omega, h]
theorem n2_next {s : ByteArray} {p : Nat} {x : Int} (h5 : 8 ≤ p) (hp : p < 10) (h : (bl s)[p]? = some x) : n2 s (p + 1) = 10 * n2 s p + (x - 48) := by
  unfold n2
  rw [show min (p + 1 - 8) 2 = (p - 8) + 1 by omega, show min (p - 8) 2 = p - 8 by omega, take_next (x := x)]
  rw [List.getElem?_drop, show 8 + (p - 8) = p by omega, h]
theorem zstore {w : World} {b : Nat} (h : Blk w b 24 zero3) : Blk (((w.setCell ⟨b, 0, none⟩ (.int .i64 0)).setCell ⟨b, 1, none⟩ (.int .i64 0)).setCell ⟨b, 2, none⟩ (.int .i64 0)) b 24 zero3 := ((h.set_ 0 (.int .i64 0)).set_ 1 (.int .i64 0)).set_ 2 (.int .i64 0)
theorem zbelow {w w1 : World} {b : Nat} (h : Below b w w1) : Below b w (((w1.setCell ⟨b, 0, none⟩ (.int .i64 0)).setCell ⟨b, 1, none⟩ (.int .i64 0)).setCell ⟨b, 2, none⟩ (.int .i64 0)) :=
  ((h.setCell (p := ⟨b, 0, none⟩) (Nat.le_refl _) _).setCell (p := ⟨b, 1, none⟩) (Nat.le_refl _) _).setCell (p := ⟨b, 2, none⟩) (Nat.le_refl _) _
/-- What doesn't fit at place p. -/
theorem bad {s : ByteArray} {p c k : Nat} (hp : p < 10) (hc : (c < 128 ∧ k = 1 ∧ (bl s)[p]? = some (c : Int)) ∨ (128 ≤ c ∧ ∃ x, (bl s)[p]? = some x ∧ 128 ≤ x)) (h : (p = 4 ∨ p = 7 → (c : Int) ≠ 45) ∧ (p ≠ 4 ∧ p ≠ 7 → ¬ (48 ≤ (c : Int) ∧ (c : Int) ≤ 57))) : ¬ pk s := fun hpk => by
  have hf := hpk.2.1 p hp
  rcases hc with ⟨h1, h2, h3⟩ | ⟨h1, x, h3, h4⟩
  · by_cases hj : p = 4 ∨ p = 7
    · have h5 := hf.1 hj
      rw [h3] at h5
      injection h5 with h5
      exact h.1 hj h5
    · obtain ⟨x, h5, h6⟩ := hf.2 (by omega)
      rw [h3] at h5
      injection h5 with h5
      subst h5
      exact h.2 (by omega) h6
  · by_cases hj : p = 4 ∨ p = 7
    · have h5 := hf.1 hj
      rw [h3] at h5
      injection h5 with h5
      omega
    · obtain ⟨y, h5, h6⟩ := hf.2 (by omega)
      rw [h3] at h5
      injection h5 with h5
      subst h5
      have := h6.2
      omega

theorem ret9 (Q : Ending → World → Prop) (a : Act) (W : World) (b : Nat) (x y z : Int) (ok : Bool) (h2 : a.tmps.getD 2 undef = .pointer (some ⟨b, 0, none⟩)) (h3 : a.tmps.getD 3 undef = .bool ok) (hd : a.defers = [])
    (hb : Blk W b 24 #[.int .i64 x, .int .i64 y, .int .i64 z]) (hq : Q (.returned (.tuple #[date x y z, .bool ok])) W) : bodyPost Try.prog Try.f9 Q .ret a W := by
  have q0 : W.cell? ⟨b, 0, none⟩ = some (.int .i64 x) := hb.cell 0
  have q1 : W.cell? ⟨b, 1, none⟩ = some (.int .i64 y) := hb.cell 1
  have q2 : W.cell? ⟨b, 2, none⟩ = some (.int .i64 z) := hb.cell 2
  obtain ⟨tmps, defers⟩ := a
  simp only at h2 h3 hd
  subst hd
  rw [Array.getD_eq_getD_getElem?] at h2 h3
  refine bodyPost_ret (v := .tuple #[date x y z, .bool ok]) ?_ rfl hq
  simp [results, Try.results9, go_sem, h2, h3, q0, q1, q2, date]

set_option maxHeartbeats 4000000 in
theorem parse_ok (s : ByteArray) (w : World) :
    Calls Try.prog 9 #[.string s] w fun e w' => ((pk s ∧ e = .returned (.tuple #[date (n0 s 10) (n1 s 10) (n2 s 10), .bool true])) ∨ (¬ pk s ∧ e = .returned (.tuple #[date 0 0 0, .bool false]))) ∧ Below w.heap.size w w' := by
  go_enter Try.func9, Try.ntmps9
  go_wp2
  obtain ⟨w1, hw1, hi1, hn1, hz1, hb1⟩ : ∃ w1, ((w.alloc (.cells #[.int .i64 0, .int .i64 0, .int .i64 0] 24)).alloc (.cells #[.int .i64 0, .int .i64 0, .int .i64 0] 43)).iter s 0 = w1 ∧ w1.heap[w.heap.size + 1 + 1]? = some (.stringIter s 0) ∧ Blk w1 (w.heap.size + 1) 43 zero3 ∧ Blk w1 w.heap.size 24 zero3 ∧ Below w.heap.size w w1 := by
    refine ⟨_, rfl, ?_, ?_, ?_, ?_⟩
    · have := World.iter_heap ((w.alloc (.cells #[.int .i64 0, .int .i64 0, .int .i64 0] 24)).alloc (.cells #[.int .i64 0, .int .i64 0, .int .i64 0] 43)) s 0
      simpa using this
    · have h := Blk.new (w.alloc (.cells #[.int .i64 0, .int .i64 0, .int .i64 0] 24)) 43 zero3
      have h2 := h.alloc (.stringIter s 0)
      simp only [World.size_alloc] at h2
      exact h2
    · exact ((Blk.new w 24 zero3).alloc _).alloc _
    · exact (((Below.refl _ w).alloc (Nat.le_refl _) _).alloc (by simp) _).alloc (by simp; omega) _
  rw [hw1]
  have HI := Lib.hid hi1
  have HN := Lib.hid hn1
  have HZ := Lib.hid hz1
  have HB := Lib.hid hb1
  clear hw1 hi1 hn1 hz1 hb1
  generalize hb0 : w.heap.size = b0 at HI HN HZ HB ⊢
  have HB0 := Lib.hid hb0
  clear hb0
  go_loopw [5, 6] (fun a c wr => ∃ p : Nat, p ≤ 10 ∧ a = .int .i64 (atp p) ∧ c = .int .i64 (cntp p) ∧ fits s p ∧ wr.heap[b0 + 1 + 1]? = some (.stringIter s p) ∧ Blk wr (b0 + 1) 43 #[.int .i64 (n0 s p), .int .i64 (n1 s p), .int .i64 (n2 s p)] ∧ Blk wr b0 24 zero3 ∧ Below b0 w wr) (fun a c _ => (40 - (11 * intOf a + intOf c)).toNat)
  case atStart => exact ⟨0, by omega, rfl, rfl, fun j hj => by omega, HI.out, HN.out, HZ.out, HB.out⟩
  case round =>
    clear HI HN HZ HB
    obtain ⟨p, hp, rfl, rfl, hf, hi, hn, hz, hb⟩ := hrel
    by_cases hlt : p < s.size
    · obtain ⟨c, k, hdec, hc31, hc⟩ := dec_spec s p hlt
      obtain ⟨w2, hnext, hi2, hkp⟩ : ∃ w2, (∀ ty, (Instr.next (.pointer (some ⟨b0 + 1 + 1, 0, none⟩)) true ty).run Try.prog wr = .ok (.tuple #[.bool true, .int .i64 p, .int .i32 c]) w2) ∧ w2.heap[b0 + 1 + 1]? = some (.stringIter s (p + k)) ∧ Kp (· = b0 + 1 + 1) wr w2 := by
        refine ⟨_, fun ty => ?_, setO_self wr _ (.stringIter s (p + k)) ?_, setO_kp _ _ _⟩
        · have := next_some (P := Try.prog) wr (b0 + 1 + 1) s p ty hi hlt
          rw [hdec] at this
          exact this
        · exact (Array.getElem?_eq_some_iff.1 hi).1
      have hn2 := blk_kp hn hkp (by omega)
      have hz2 := blk_kp hz hkp (by omega)
      have hb2 : Below b0 w w2 := below_kp hb (by have := hb.size; have := HB0.out; omega) hkp (fun q hq => by subst hq; omega)
      have hv0 := n0_bd hf
      have hv1 := n1_bd hf
      have hv2 := n2_bd hf
      have HI2 := Lib.hid hi2
      have HN2 := Lib.hid hn2
      have HZ2 := Lib.hid hz2
      have HB2 := Lib.hid hb2
      have HF := Lib.hid hf
      have c0 : w2.cell? ⟨b0 + 1, 0, none⟩ = some (.int .i64 (n0 s p)) := hn2.cell 0
      have c1 : w2.cell? ⟨b0 + 1, 1, none⟩ = some (.int .i64 (n1 s p)) := hn2.cell 1
      have c2 : w2.cell? ⟨b0 + 1, 2, none⟩ = some (.int .i64 (n2 s p)) := hn2.cell 2
      have f0 := hn2.frozen 0
      have f1 := hn2.frozen 1
      have f2 := hn2.frozen 2
      have r0 : w2.cell? ⟨b0, 0, none⟩ = some (.int .i64 0) := hz2.cell 0
      have r1 : w2.cell? ⟨b0, 1, none⟩ = some (.int .i64 0) := hz2.cell 1
      have r2 : w2.cell? ⟨b0, 2, none⟩ = some (.int .i64 0) := hz2.cell 2
      have g0 := hz2.frozen 0
      have g1 := hz2.frozen 1
      have g2 := hz2.frozen 2
      have HC := Lib.hid hc
      have HLT := Lib.hid hlt
      clear hi2 hn2 hz2 hb2 hf hi hn hz hb hkp hdec hc hlt
      rcases (by omega : p = 0 ∨ p = 1 ∨ p = 2 ∨ p = 3 ∨ p = 4 ∨ p = 5 ∨ p = 6 ∨ p = 7 ∨ p = 8 ∨ p = 9 ∨ p = 10) with rfl | rfl | rfl | rfl | rfl | rfl | rfl | rfl | rfl | rfl | rfl
      · rw [show atp 0 = 0 from rfl, show cntp 0 = 0 from rfl]
        by_cases hd : 48 ≤ (c : Int) ∧ (c : Int) ≤ 57
        · have hc0 := HC.out
          obtain ⟨hk, hx⟩ : k = 1 ∧ (bl s)[0]? = some (c : Int) := by
            rcases hc0 with ⟨_, h2, h3⟩ | ⟨h1, _⟩
            · exact ⟨h2, h3⟩
            · omega
          have HX := Lib.hid hx
          have hnx := n0_next (p := 0) (by omega) HX.out
          have HNX := Lib.hid hnx
          obtain ⟨hd0, hd1⟩ := hd
          subst hk
          clear hx hc0 hnx
          go_wp2
          go_roundw
          case rel =>
            refine ⟨1, by omega, rfl, rfl, fits_digit HF.out (by omega) HX.out ⟨hd0, hd1⟩, (Below.heap_setCell _ _ _ _ (by simp)).trans HI2.out, ?_, HZ2.out.far (by simp) _, HB2.out.setCell (p := ⟨b0 + 1, 0, none⟩) (by simp) _⟩
            have h := HN2.out.set_ 0 (.int .i64 (10 * n0 s 0 + ((c : Int) - 48)))
            rw [← HNX.out] at h ⊢
            exact h
          case measure => simp [intOf]
        · go_wp2
          all_goals
            exact ret9 _ _ _ b0 0 0 0 false rfl rfl rfl (zstore HZ2.out) ⟨.inr ⟨bad (p := 0) (by omega) HC.out ⟨fun h => by omega, fun _ => hd⟩, rfl⟩, by rw [HB0.out]; exact zbelow HB2.out⟩
      · rw [show atp 1 = 0 from rfl, show cntp 1 = 1 from rfl]
        by_cases hd : 48 ≤ (c : Int) ∧ (c : Int) ≤ 57
        · have hc0 := HC.out
          obtain ⟨hk, hx⟩ : k = 1 ∧ (bl s)[1]? = some (c : Int) := by
            rcases hc0 with ⟨_, h2, h3⟩ | ⟨h1, _⟩
            · exact ⟨h2, h3⟩
            · omega
          have HX := Lib.hid hx
          have hnx := n0_next (p := 1) (by omega) HX.out
          have HNX := Lib.hid hnx
          obtain ⟨hd0, hd1⟩ := hd
          subst hk
          clear hx hc0 hnx
          go_wp2
          go_roundw
          case rel =>
            refine ⟨2, by omega, rfl, rfl, fits_digit HF.out (by omega) HX.out ⟨hd0, hd1⟩, (Below.heap_setCell _ _ _ _ (by simp)).trans HI2.out, ?_, HZ2.out.far (by simp) _, HB2.out.setCell (p := ⟨b0 + 1, 0, none⟩) (by simp) _⟩
            have h := HN2.out.set_ 0 (.int .i64 (10 * n0 s 1 + ((c : Int) - 48)))
            rw [← HNX.out] at h ⊢
            exact h
          case measure => simp [intOf]
        · go_wp2
          all_goals
            exact ret9 _ _ _ b0 0 0 0 false rfl rfl rfl (zstore HZ2.out) ⟨.inr ⟨bad (p := 1) (by omega) HC.out ⟨fun h => by omega, fun _ => hd⟩, rfl⟩, by rw [HB0.out]; exact zbelow HB2.out⟩
      · rw [show atp 2 = 0 from rfl, show cntp 2 = 2 from rfl]
        by_cases hd : 48 ≤ (c : Int) ∧ (c : Int) ≤ 57
        · have hc0 := HC.out
          obtain ⟨hk, hx⟩ : k = 1 ∧ (bl s)[2]? = some (c : Int) := by
            rcases hc0 with ⟨_, h2, h3⟩ | ⟨h1, _⟩
            · exact ⟨h2, h3⟩
            · omega
          have HX := Lib.hid hx
          have hnx := n0_next (p := 2) (by omega) HX.out
          have HNX := Lib.hid hnx
          obtain ⟨hd0, hd1⟩ := hd
          subst hk
          clear hx hc0 hnx
          go_wp2
          go_roundw
          case rel =>
            refine ⟨3, by omega, rfl, rfl, fits_digit HF.out (by omega) HX.out ⟨hd0, hd1⟩, (Below.heap_setCell _ _ _ _ (by simp)).trans HI2.out, ?_, HZ2.out.far (by simp) _, HB2.out.setCell (p := ⟨b0 + 1, 0, none⟩) (by simp) _⟩
            have h := HN2.out.set_ 0 (.int .i64 (10 * n0 s 2 + ((c : Int) - 48)))
            rw [← HNX.out] at h ⊢
            exact h
          case measure => simp [intOf]
        · go_wp2
          all_goals
            exact ret9 _ _ _ b0 0 0 0 false rfl rfl rfl (zstore HZ2.out) ⟨.inr ⟨bad (p := 2) (by omega) HC.out ⟨fun h => by omega, fun _ => hd⟩, rfl⟩, by rw [HB0.out]; exact zbelow HB2.out⟩
      · rw [show atp 3 = 0 from rfl, show cntp 3 = 3 from rfl]
        by_cases hd : 48 ≤ (c : Int) ∧ (c : Int) ≤ 57
        · have hc0 := HC.out
          obtain ⟨hk, hx⟩ : k = 1 ∧ (bl s)[3]? = some (c : Int) := by
            rcases hc0 with ⟨_, h2, h3⟩ | ⟨h1, _⟩
            · exact ⟨h2, h3⟩
            · omega
          have HX := Lib.hid hx
          have hnx := n0_next (p := 3) (by omega) HX.out
          have HNX := Lib.hid hnx
          obtain ⟨hd0, hd1⟩ := hd
          subst hk
          clear hx hc0 hnx
          go_wp2
          go_roundw
          case rel =>
            refine ⟨4, by omega, rfl, rfl, fits_digit HF.out (by omega) HX.out ⟨hd0, hd1⟩, (Below.heap_setCell _ _ _ _ (by simp)).trans HI2.out, ?_, HZ2.out.far (by simp) _, HB2.out.setCell (p := ⟨b0 + 1, 0, none⟩) (by simp) _⟩
            have h := HN2.out.set_ 0 (.int .i64 (10 * n0 s 3 + ((c : Int) - 48)))
            rw [← HNX.out] at h ⊢
            exact h
          case measure => simp [intOf]
        · go_wp2
          all_goals
            exact ret9 _ _ _ b0 0 0 0 false rfl rfl rfl (zstore HZ2.out) ⟨.inr ⟨bad (p := 3) (by omega) HC.out ⟨fun h => by omega, fun _ => hd⟩, rfl⟩, by rw [HB0.out]; exact zbelow HB2.out⟩
      · rw [show atp 4 = 0 from rfl, show cntp 4 = 4 from rfl]
        by_cases hd : (c : Int) = 45
        · have hc0 := HC.out
          obtain ⟨hk, hx⟩ : k = 1 ∧ (bl s)[4]? = some 45 := by
            rcases hc0 with ⟨_, h2, h3⟩ | ⟨h1, _⟩
            · rw [hd] at h3
              exact ⟨h2, h3⟩
            · omega
          have HX := Lib.hid hx
          subst hk
          rw [hd] at hnext
          clear hx hc0
          go_wp2
          go_roundw
          case rel => exact ⟨5, by omega, rfl, rfl, fits_dash HF.out (by omega) HX.out, HI2.out, HN2.out, HZ2.out, HB2.out⟩
          case measure => simp [intOf]
        · have hd2 : ((c : Int) == 45) = false := by simp; omega
          go_wp2
          all_goals
            exact ret9 _ _ _ b0 0 0 0 false rfl rfl rfl (zstore HZ2.out) ⟨.inr ⟨bad (p := 4) (by omega) HC.out ⟨fun _ => hd, fun h => by omega⟩, rfl⟩, by rw [HB0.out]; exact zbelow HB2.out⟩
      · rw [show atp 5 = 1 from rfl, show cntp 5 = 0 from rfl]
        by_cases hd : 48 ≤ (c : Int) ∧ (c : Int) ≤ 57
        · have hc0 := HC.out
          obtain ⟨hk, hx⟩ : k = 1 ∧ (bl s)[5]? = some (c : Int) := by
            rcases hc0 with ⟨_, h2, h3⟩ | ⟨h1, _⟩
            · exact ⟨h2, h3⟩
            · omega
          have HX := Lib.hid hx
          have hnx := n1_next (p := 5) (by omega) (by omega) HX.out
          have HNX := Lib.hid hnx
          obtain ⟨hd0, hd1⟩ := hd
          subst hk
          clear hx hc0 hnx
          go_wp2
          go_roundw
          case rel =>
            refine ⟨6, by omega, rfl, rfl, fits_digit HF.out (by omega) HX.out ⟨hd0, hd1⟩, (Below.heap_setCell _ _ _ _ (by simp)).trans HI2.out, ?_, HZ2.out.far (by simp) _, HB2.out.setCell (p := ⟨b0 + 1, 1, none⟩) (by simp) _⟩
            have h := HN2.out.set_ 1 (.int .i64 (10 * n1 s 5 + ((c : Int) - 48)))
            rw [← HNX.out] at h ⊢
            exact h
          case measure => simp [intOf]
        · go_wp2
          all_goals
            exact ret9 _ _ _ b0 0 0 0 false rfl rfl rfl (zstore HZ2.out) ⟨.inr ⟨bad (p := 5) (by omega) HC.out ⟨fun h => by omega, fun _ => hd⟩, rfl⟩, by rw [HB0.out]; exact zbelow HB2.out⟩
      · rw [show atp 6 = 1 from rfl, show cntp 6 = 1 from rfl]
        by_cases hd : 48 ≤ (c : Int) ∧ (c : Int) ≤ 57
        · have hc0 := HC.out
          obtain ⟨hk, hx⟩ : k = 1 ∧ (bl s)[6]? = some (c : Int) := by
            rcases hc0 with ⟨_, h2, h3⟩ | ⟨h1, _⟩
            · exact ⟨h2, h3⟩
            · omega
          have HX := Lib.hid hx
          have hnx := n1_next (p := 6) (by omega) (by omega) HX.out
          have HNX := Lib.hid hnx
          obtain ⟨hd0, hd1⟩ := hd
          subst hk
          clear hx hc0 hnx
          go_wp2
          go_roundw
          case rel =>
            refine ⟨7, by omega, rfl, rfl, fits_digit HF.out (by omega) HX.out ⟨hd0, hd1⟩, (Below.heap_setCell _ _ _ _ (by simp)).trans HI2.out, ?_, HZ2.out.far (by simp) _, HB2.out.setCell (p := ⟨b0 + 1, 1, none⟩) (by simp) _⟩
            have h := HN2.out.set_ 1 (.int .i64 (10 * n1 s 6 + ((c : Int) - 48)))
            rw [← HNX.out] at h ⊢
            exact h
          case measure => simp [intOf]
        · go_wp2
          all_goals
            exact ret9 _ _ _ b0 0 0 0 false rfl rfl rfl (zstore HZ2.out) ⟨.inr ⟨bad (p := 6) (by omega) HC.out ⟨fun h => by omega, fun _ => hd⟩, rfl⟩, by rw [HB0.out]; exact zbelow HB2.out⟩
      · rw [show atp 7 = 1 from rfl, show cntp 7 = 2 from rfl]
        by_cases hd : (c : Int) = 45
        · have hc0 := HC.out
          obtain ⟨hk, hx⟩ : k = 1 ∧ (bl s)[7]? = some 45 := by
            rcases hc0 with ⟨_, h2, h3⟩ | ⟨h1, _⟩
            · rw [hd] at h3
              exact ⟨h2, h3⟩
            · omega
          have HX := Lib.hid hx
          subst hk
          rw [hd] at hnext
          clear hx hc0
          go_wp2
          go_roundw
          case rel => exact ⟨8, by omega, rfl, rfl, fits_dash HF.out (by omega) HX.out, HI2.out, HN2.out, HZ2.out, HB2.out⟩
          case measure => simp [intOf]
        · have hd2 : ((c : Int) == 45) = false := by simp; omega
          go_wp2
          all_goals
            exact ret9 _ _ _ b0 0 0 0 false rfl rfl rfl (zstore HZ2.out) ⟨.inr ⟨bad (p := 7) (by omega) HC.out ⟨fun _ => hd, fun h => by omega⟩, rfl⟩, by rw [HB0.out]; exact zbelow HB2.out⟩
      · rw [show atp 8 = 2 from rfl, show cntp 8 = 0 from rfl]
        by_cases hd : 48 ≤ (c : Int) ∧ (c : Int) ≤ 57
        · have hc0 := HC.out
          obtain ⟨hk, hx⟩ : k = 1 ∧ (bl s)[8]? = some (c : Int) := by
            rcases hc0 with ⟨_, h2, h3⟩ | ⟨h1, _⟩
            · exact ⟨h2, h3⟩
            · omega
          have HX := Lib.hid hx
          have hnx := n2_next (p := 8) (by omega) (by omega) HX.out
          have HNX := Lib.hid hnx
          obtain ⟨hd0, hd1⟩ := hd
          subst hk
          clear hx hc0 hnx
          go_wp2
          go_roundw
          case rel =>
            refine ⟨9, by omega, rfl, rfl, fits_digit HF.out (by omega) HX.out ⟨hd0, hd1⟩, (Below.heap_setCell _ _ _ _ (by simp)).trans HI2.out, ?_, HZ2.out.far (by simp) _, HB2.out.setCell (p := ⟨b0 + 1, 2, none⟩) (by simp) _⟩
            have h := HN2.out.set_ 2 (.int .i64 (10 * n2 s 8 + ((c : Int) - 48)))
            rw [← HNX.out] at h ⊢
            exact h
          case measure => simp [intOf]
        · go_wp2
          all_goals
            exact ret9 _ _ _ b0 0 0 0 false rfl rfl rfl (zstore HZ2.out) ⟨.inr ⟨bad (p := 8) (by omega) HC.out ⟨fun h => by omega, fun _ => hd⟩, rfl⟩, by rw [HB0.out]; exact zbelow HB2.out⟩
      · rw [show atp 9 = 2 from rfl, show cntp 9 = 1 from rfl]
        by_cases hd : 48 ≤ (c : Int) ∧ (c : Int) ≤ 57
        · have hc0 := HC.out
          obtain ⟨hk, hx⟩ : k = 1 ∧ (bl s)[9]? = some (c : Int) := by
            rcases hc0 with ⟨_, h2, h3⟩ | ⟨h1, _⟩
            · exact ⟨h2, h3⟩
            · omega
          have HX := Lib.hid hx
          have hnx := n2_next (p := 9) (by omega) (by omega) HX.out
          have HNX := Lib.hid hnx
          obtain ⟨hd0, hd1⟩ := hd
          subst hk
          clear hx hc0 hnx
          go_wp2
          go_roundw
          case rel =>
            refine ⟨10, by omega, rfl, rfl, fits_digit HF.out (by omega) HX.out ⟨hd0, hd1⟩, (Below.heap_setCell _ _ _ _ (by simp)).trans HI2.out, ?_, HZ2.out.far (by simp) _, HB2.out.setCell (p := ⟨b0 + 1, 2, none⟩) (by simp) _⟩
            have h := HN2.out.set_ 2 (.int .i64 (10 * n2 s 9 + ((c : Int) - 48)))
            rw [← HNX.out] at h ⊢
            exact h
          case measure => simp [intOf]
        · go_wp2
          all_goals
            exact ret9 _ _ _ b0 0 0 0 false rfl rfl rfl (zstore HZ2.out) ⟨.inr ⟨bad (p := 9) (by omega) HC.out ⟨fun h => by omega, fun _ => hd⟩, rfl⟩, by rw [HB0.out]; exact zbelow HB2.out⟩
      · rw [show atp 10 = 2 from rfl, show cntp 10 = 2 from rfl]
        · go_wp2
          all_goals
            exact ret9 _ _ _ b0 0 0 0 false rfl rfl rfl (zstore HZ2.out) ⟨.inr ⟨fun hpk => by have := hpk.1; have := HLT.out; omega, rfl⟩, by rw [HB0.out]; exact zbelow HB2.out⟩
    · have hps : s.size = p := by have := fits_len hf; omega
      have hnext : ∀ ty, (Instr.next (.pointer (some ⟨b0 + 1 + 1, 0, none⟩)) true ty).run Try.prog wr = .ok (.tuple #[.bool false]) wr := fun ty => next_none wr _ s p ty hi hlt
      have c0 : wr.cell? ⟨b0 + 1, 0, none⟩ = some (.int .i64 (n0 s p)) := hn.cell 0
      have c1 : wr.cell? ⟨b0 + 1, 1, none⟩ = some (.int .i64 (n1 s p)) := hn.cell 1
      have c2 : wr.cell? ⟨b0 + 1, 2, none⟩ = some (.int .i64 (n2 s p)) := hn.cell 2
      have HZ := Lib.hid hz
      have HB := Lib.hid hb
      have HF := Lib.hid hf
      have r0 : ∀ o, (wr.alloc o).cell? ⟨b0, 0, none⟩ = some (.int .i64 0) := fun o => (HZ.out.alloc o).cell 0
      have r1 : ∀ o, (wr.alloc o).cell? ⟨b0, 1, none⟩ = some (.int .i64 0) := fun o => (HZ.out.alloc o).cell 1
      have r2 : ∀ o, (wr.alloc o).cell? ⟨b0, 2, none⟩ = some (.int .i64 0) := fun o => (HZ.out.alloc o).cell 2
      have g0 : ∀ o, (wr.alloc o).frozen? ⟨b0, 0, none⟩ = false := fun o => (HZ.out.alloc o).frozen 0
      have g1 : ∀ o, (wr.alloc o).frozen? ⟨b0, 1, none⟩ = false := fun o => (HZ.out.alloc o).frozen 1
      have g2 : ∀ o, (wr.alloc o).frozen? ⟨b0, 2, none⟩ = false := fun o => (HZ.out.alloc o).frozen 2
      have hbs : b0 ≤ wr.heap.size := by have := hb.size; have := HB0.out; omega
      clear hi hn hz hb hf hlt
      by_cases hp10 : p = 10
      · subst hp10
        rw [show atp 10 = 2 from rfl, show cntp 10 = 2 from rfl]
        have HG := Lib.hid (fun w => good_ok (n0 s 10) (n1 s 10) (n2 s 10) w)
        unfold date at HG
        generalize hn0 : n0 s 10 = x at c0 HG
        generalize hn1 : n1 s 10 = y at c1 HG
        generalize hn2 : n2 s 10 = z at c2 HG
        have HX := Lib.hid (And.intro hn0 (And.intro hn1 hn2))
        clear hn0 hn1 hn2
        go_wp2_with fail
        refine (HG.out _).mono ?_
        rintro e w4 ⟨rfl, hb4⟩
        have HZ4 := Lib.hid ((HZ.out.alloc (.cells #[.int .i64 x, .int .i64 y, .int .i64 z] 24)).keeps hb4)
        have H9 := Lib.hid ((Blk.new wr 24 #[.int .i64 x, .int .i64 y, .int .i64 z]).keeps hb4)
        have HB4 := Lib.hid (show Below b0 w w4 from (HB.out.alloc hbs _).trans (hb4.mono (by simp; omega)))
        clear r0 r1 r2 g0 g1 g2 hb4
        have r0 : w4.cell? ⟨b0, 0, none⟩ = some (.int .i64 0) := HZ4.out.cell 0
        have r1 : w4.cell? ⟨b0, 1, none⟩ = some (.int .i64 0) := HZ4.out.cell 1
        have r2 : w4.cell? ⟨b0, 2, none⟩ = some (.int .i64 0) := HZ4.out.cell 2
        have g0 := HZ4.out.frozen 0
        have g1 := HZ4.out.frozen 1
        have g2 := HZ4.out.frozen 2
        have e0 : w4.cell? ⟨wr.heap.size, 0, none⟩ = some (.int .i64 x) := H9.out.cell 0
        have e1 : w4.cell? ⟨wr.heap.size, 1, none⟩ = some (.int .i64 y) := H9.out.cell 1
        have e2 : w4.cell? ⟨wr.heap.size, 2, none⟩ = some (.int .i64 z) := H9.out.cell 2
        cases hgd : gd x y z
        · have HGD := Lib.hid hgd
          clear hgd
          go_wp2
          exact ret9 _ _ _ b0 0 0 0 false rfl rfl rfl (zstore HZ4.out) ⟨.inr ⟨(fun hpk => by
            have h := hpk.2.2
            rw [HX.out.1, HX.out.2.1, HX.out.2.2, HGD.out] at h
            cases h), rfl⟩, by rw [HB0.out]; exact zbelow HB4.out⟩
        · have HGD := Lib.hid hgd
          clear hgd
          go_wp2
          refine ret9 _ _ _ b0 x y z true rfl rfl rfl (((HZ4.out.set_ 0 (.int .i64 x)).set_ 1 (.int .i64 y)).set_ 2 (.int .i64 z)) ⟨.inl ⟨⟨hps, HF.out, by rw [HX.out.1, HX.out.2.1, HX.out.2.2]; exact HGD.out⟩, by rw [HX.out.1, HX.out.2.1, HX.out.2.2]⟩, ?_⟩
          rw [HB0.out]
          exact ((HB4.out.setCell (p := ⟨b0, 0, none⟩) (Nat.le_refl _) _).setCell (p := ⟨b0, 1, none⟩) (Nat.le_refl _) _).setCell (p := ⟨b0, 2, none⟩) (Nat.le_refl _) _
      · by_cases h7 : p ≤ 7
        · have ha : (atp p != 2) = true := by
            have : atp p ≠ 2 := by unfold atp; split <;> (try split) <;> omega
            simp [this]
          generalize atp p = A at ha ⊢
          generalize cntp p = C
          go_wp2
          exact ret9 _ _ _ b0 0 0 0 false rfl rfl rfl (zstore (HZ.out.alloc _)) ⟨.inr ⟨fun hpk => by have := hpk.1; omega, rfl⟩, by rw [HB0.out]; exact zbelow (HB.out.alloc hbs _)⟩
        · have ha : atp p = 2 := by unfold atp; rw [if_neg (by omega), if_neg h7]
          have hc : (cntp p != 2) = true := by
            have : cntp p ≠ 2 := by unfold cntp; rw [if_neg (by omega), if_neg h7]; omega
            simp [this]
          rw [ha]
          generalize cntp p = C at hc ⊢
          go_wp2
          exact ret9 _ _ _ b0 0 0 0 false rfl rfl rfl (zstore (HZ.out.alloc _)) ⟨.inr ⟨fun hpk => by have := hpk.1; omega, rfl⟩, by rw [HB0.out]; exact zbelow (HB.out.alloc hbs _)⟩
end Go.Proofs.Ytobhjkephinhiac.Civil
