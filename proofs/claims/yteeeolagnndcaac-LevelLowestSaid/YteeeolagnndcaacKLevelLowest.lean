/- A level is one more than its parent told last; behind a word of another node it is at most one more than that word's; and it goes up by its parent's word alone. No condition. -/
import Derived.Test.YteeeolagnndcaacLev2
import Derived.Test.YteeeolagnndcaacLf
import Derived.Deep.DeepCutAuto
namespace Go.Proofs.Yteeeolagnndcaac.LevelLowestW
open Go.RowKit Go.Proofs.Yteeeolagnndcaac.Bk Go.Proofs.Yteeeolagnndcaac.Rw Go.Proofs.Yteeeolagnndcaac.Ow Go.Proofs.Yteeeolagnndcaac.Kp Go.Proofs.Yteeeolagnndcaac.Sq Go.Proofs.Yteeeolagnndcaac.Frm Go.Proofs.Yteeeolagnndcaac.Lev

theorem elem1 {w : World} {A : Option Addr} {len : Nat} {vs : List (List Value)} (h : Lf.RowsAt w [.i .i64, .i .i64] A len vs) {k : Nat} (hk : k < len) :
    ∃ (ad : Addr) (x0 : Int) (x1 : Int), A = some ad ∧ vs[k]? = some [.int .i64 x0, .int .i64 x1] ∧ w.cell? (ad.add (k * 2)) = some (.int .i64 x0) ∧ w.cell? ⟨(ad.add (k * 2)).block, (ad.add (k * 2)).off + 1, none⟩ = some (.int .i64 x1) ∧ (Lit.int .i64 x0).wf = true ∧ (Lit.int .i64 x1).wf = true := by
  obtain ⟨ad, c, rfl, hv, hL, hc0, hcj⟩ := h.elem hk
  obtain ⟨u0, g0, q0, ⟨x0, e0, f0⟩, L0⟩ := hL.cons
  obtain ⟨u1, g1, q1, ⟨x1, e1, f1⟩, L1⟩ := L0.cons
  have n_ := L1.nil
  have hcc : c = [.int .i64 x0, .int .i64 x1] := by rw [q0, e0, q1, e1, n_]
  rw [hcc] at hv hc0 hcj
  exact ⟨ad, x0, x1, rfl, hv, hc0 _ rfl, hcj 0 _ rfl, f0, f1⟩

def Ci (tl : List Int) : Array Value := (tl.map (Value.int .i64)).toArray
theorem ci_set (tl : List Int) (k : Nat) (x : Int) : (Ci tl).setIfInBounds k (.int .i64 x) = Ci (tl.set k x) := by
  unfold Ci
  rw [List.setIfInBounds_toArray, List.map_set]
theorem ci_at (tl : List Int) (k : Nat) : (Ci tl)[k]? = (tl[k]?).map (Value.int .i64) := by
  unfold Ci
  rw [List.getElem?_toArray, List.getElem?_map]
/-- What is so of a level, a parent, and what was told. -/
def Ll (me l q : Int) (tl : List Int) : Prop := (l = -1 ∧ q = -1) ∨ (1 ≤ l ∧ l ≤ 63 ∧ 0 ≤ q ∧ q ≤ 63 ∧ q ≠ me ∧ tl[q.toNat]? = some (l - 1))
def tells (tl : List Int) (a b : Int) : List Int := if okFind a b = true then tl.set a.toNat b else tl
theorem hear_ll {me l q a b : Int} {tl : List Int} (ht : tl.length = 64) (hI : Ll me l q tl) : Ll me (hear me l q a b).2.1 (hear me l q a b).2.2 (tells tl a b) := by
  unfold hear tells
  by_cases h0 : okFind a b = true
  rotate_left
  · rw [if_neg h0, if_pos (.inl (by simpa using h0))]; exact hI
  have hgg := (okFind_iff a b).1 h0
  rw [if_pos h0]
  by_cases h1 : a = me
  · rw [if_pos (.inr h1)]
    rcases hI with hI | ⟨i1, i2, i3, i4, i5, i6⟩
    · exact .inl hI
    · exact .inr ⟨i1, i2, i3, i4, i5, by
        show (tl.set a.toNat b)[q.toNat]? = _
        rw [List.getElem?_set_ne (by omega)]; exact i6⟩
  rw [if_neg (by rw [h0]; simp [h1])]
  by_cases h2 : a = q ∧ 63 < b + 1
  · rw [if_pos h2]; exact .inl ⟨rfl, rfl⟩
  rw [if_neg h2]
  by_cases h3 : 63 < b + 1 ∨ (a ≠ q ∧ 0 ≤ l ∧ l ≤ b + 1) ∨ (a = q ∧ b + 1 = l)
  · rw [if_pos h3]
    show Ll me l q (tl.set a.toNat b)
    rcases hI with hI | ⟨i1, i2, i3, i4, i5, i6⟩
    · exact .inl hI
    · refine .inr ⟨i1, i2, i3, i4, i5, ?_⟩
      by_cases hq : a = q
      · subst hq
        rw [List.getElem?_set_self (by omega)]
        have : b + 1 = l := by omega
        rw [← this]
        congr 1
        omega
      · rw [List.getElem?_set_ne (by omega)]; exact i6
  · rw [if_neg h3]
    show Ll me (b + 1) a (tl.set a.toNat b)
    refine .inr ⟨by omega, by omega, by omega, by omega, h1, ?_⟩
    rw [List.getElem?_set_self (by omega)]
    congr 1
    omega
theorem hear_le {me l q a b : Int} (hI : l ≤ 63) (hg : okFind a b = true) (hm : a ≠ me) : (hear me l q a b).2.2 < 0 ∨ (hear me l q a b).2.1 ≤ b + 1 := by
  have hgg := (okFind_iff a b).1 hg
  unfold hear
  rw [if_neg (by rw [hg]; simp [hm])]
  by_cases h2 : a = q ∧ 63 < b + 1
  · rw [if_pos h2]; exact .inl (by decide)
  rw [if_neg h2]
  by_cases h3 : 63 < b + 1 ∨ (a ≠ q ∧ 0 ≤ l ∧ l ≤ b + 1) ∨ (a = q ∧ b + 1 = l)
  · rw [if_pos h3]
    show q < 0 ∨ l ≤ b + 1
    omega
  · rw [if_neg h3]; exact .inr (Int.le_refl _)
theorem hear_up {me l q a b : Int} (hl : 0 ≤ l) : (hear me l q a b).2.1 ≤ l ∨ a = (hear me l q a b).2.2 := by
  unfold hear
  by_cases h1 : okFind a b = false ∨ a = me
  · rw [if_pos h1]; exact .inl (Int.le_refl _)
  rw [if_neg h1]
  by_cases h2 : a = q ∧ 63 < b + 1
  · rw [if_pos h2]; exact .inl (by show (-1 : Int) ≤ l; omega)
  rw [if_neg h2]
  by_cases h3 : 63 < b + 1 ∨ (a ≠ q ∧ 0 ≤ l ∧ l ≤ b + 1) ∨ (a = q ∧ b + 1 = l)
  · rw [if_pos h3]; exact .inl (Int.le_refl _)
  · rw [if_neg h3]; exact .inr rfl

theorem early (a0 : Int) (a1 : Option Addr) (len1 cap1 : Nat) (W : World) (h : (200 : Int) < len1 ∨ a0 < 0 ∨ 63 < a0) :
    Calls Try.prog 3 #[.int .i64 a0, .slice a1 len1 cap1] W fun e w' => e = .returned (.bool true) ∧ Below W.heap.size W w' := by
  by_cases h1 : (200 : Int) < len1
  · clear h
    go_enter Try.func3, Try.ntmps3
    go_wp2_with (go_at_call 6; refine (alive_ok _).mono ?_; rintro e w1 ⟨rfl, hb⟩; have HB := Lib.hid hb; clear hb)
    go_ret
    exact ⟨rfl, HB.out⟩
  by_cases h2 : a0 < 0
  · clear h
    go_enter Try.func3, Try.ntmps3
    go_wp2_with (go_at_call 6; refine (alive_ok _).mono ?_; rintro e w1 ⟨rfl, hb⟩; have HB := Lib.hid hb; clear hb)
    go_ret
    exact ⟨rfl, HB.out⟩
  have h4 : 63 < a0 := by omega
  clear h
  go_enter Try.func3, Try.ntmps3
  go_wp2_with (go_at_call 6; refine (alive_ok _).mono ?_; rintro e w1 ⟨rfl, hb⟩; have HB := Lib.hid hb; clear hb)
  go_ret
  exact ⟨rfl, HB.out⟩

set_option maxRecDepth 100000 in
set_option maxHeartbeats 4000000 in
set_option linter.unusedVariables false in
theorem walk (a0 : Int) (a1 : Option Addr) (len1 cap1 : Nat) (z1 : List (List Value)) (W : World) (w0 : (Lit.int .i64 a0).wf = true) (l1 : len1 ≤ cap1) (m1 : cap1 ≤ maxLen) (w1 : Lf.RowsAt W [.i .i64, .i .i64] a1 len1 z1) :
    Calls Try.prog 3 #[.int .i64 a0, .slice a1 len1 cap1] W fun e w' => e = .returned (.bool true) ∧ Below W.heap.size W w' := by
  have hl8 : len1 ≤ 9223372036854775807 := by unfold maxLen at m1; omega
  have R := Lib.hid w1
  clear w0 w1 m1
  by_cases hin : (200 : Int) < len1 ∨ a0 < 0 ∨ 63 < a0
  · exact early a0 a1 len1 cap1 W hin
  have hd1 : decide ((200 : Int) < len1) = false := decide_eq_false (by omega)
  have hd2 : decide (a0 < 0) = false := decide_eq_false (by omega)
  have hd3 : decide (63 < a0) = false := decide_eq_false (by omega)
  have g2 : (len1 : Int) ≤ 200 := by omega
  have g3 : 0 ≤ a0 := by omega
  have g4 : a0 ≤ 63 := by omega
  clear hin
  go_enter Try.func3, Try.ntmps3
  go_wp2_with (first
    | (go_at_call 6; (with_reducible refine Calls.mono (alive_ok _) ?_); rintro e w1 ⟨rfl, hb⟩; have HB := Lib.hid hb; clear hb)
    | (go_at_call 7; (with_reducible refine Calls.mono (new_ok a0 _ g3 g4) ?_); rintro e w2 ⟨rfl, rfl⟩))
  have hz := HB.out.size
  go_loopw [31] (fun i wr => ∃ (k : Nat) (tl : List Int), k ≤ 64 ∧ i = .int .i64 k ∧ tl.length = 64 ∧ Lv wr w1.heap.size a0 (-1) (-1) ∧ Blk wr (w1.heap.size + 1) 28 (Ci tl) ∧ Below W.heap.size W wr) (fun i _ => 64 - (intOf i).toNat)
  case atStart =>
    refine ⟨0, List.replicate 64 0, by omega, rfl, by simp, (Blk.new w1 47 _).alloc _, ?_, (HB.out.alloc HB.out.size _).alloc (by simp; omega) _⟩
    have h := Blk.new (w1.alloc (.cells #[.int .i64 a0, .int .i64 (-1), .int .i64 (-1)] 47)) 28 (Ci (List.replicate 64 0))
    rw [World.size_alloc] at h
    exact h
  case round =>
    obtain ⟨k, tl, hk, rfl, ht, hl, hx, hb⟩ := hrel
    have HL := Lib.hid hl
    have HX := Lib.hid hx
    have HB1 := Lib.hid hb
    have HT := Lib.hid ht
    clear hl hx hb
    by_cases hlt : k < 64
    · obtain ⟨y, hy⟩ : ∃ y, tl[k]? = some y := ⟨_, List.getElem?_eq_getElem (by omega)⟩
      have x0 : wr.cell? ⟨w1.heap.size + 1, k, none⟩ = some (.int .i64 y) := by
        rw [HX.out.cell k, ci_at, hy]; rfl
      have f0 := HX.out.frozen k
      clear ht hy HB
      go_wp2
      go_roundw
      case rel =>
        refine ⟨k + 1, tl.set k (-1), hlt, by go_num, by simpa using HT.out, HL.out.far (p := ⟨w1.heap.size + 1, k, none⟩) (by simp) _, ?_, HB1.out.setCell (p := ⟨w1.heap.size + 1, k, none⟩) (by simp; omega) _⟩
        rw [← ci_set]
        exact HX.out.set_ k _
      case measure => simp [intOf]; omega
    · clear ht
      go_wp2
      have hz2 : W.heap.size ≤ w1.heap.size + 1 := by omega
      have hT : w1.heap.size + 1 ≠ w1.heap.size := by omega
      generalize w1.heap.size = p at *
      generalize p + 1 = T at *
      go_loopw [39] (fun i wr => ∃ (k : Nat) (l q : Int) (tl : List Int), k ≤ len1 ∧ i = .int .i64 k ∧ tl.length = 64 ∧ Ll a0 l q tl ∧ Lv wr p a0 l q ∧ Blk wr T 28 (Ci tl) ∧ Below W.heap.size W wr) (fun i _ => len1 - (intOf i).toNat)
      case atStart => exact ⟨0, -1, -1, tl, Nat.zero_le _, rfl, HT.out, .inl ⟨rfl, rfl⟩, HL.out, HX.out, HB1.out⟩
      case round =>
        clear HB1 HL HX HT hlt hk
        clear tl
        obtain ⟨k, l, q, tl, hk, rfl, ht, hll, hl, hx, hb⟩ := hrel
        have HL := Lib.hid hl
        have HX := Lib.hid hx
        have HB := Lib.hid hb
        have HT := Lib.hid ht
        have HI := Lib.hid hll
        clear hl hx hb ht hll
        by_cases hlt : k < len1
        · obtain ⟨ad, x, y, rfl, _, e0, e1, wx, wy⟩ := elem1 (R.out.below HB.out) hlt
          clear wx wy
          have hC1 := fun w h => hear_ok p a0 l q x y w h
          have hI2 := hear_ll (a := x) (b := y) HT.out HI.out
          have hle := fun h1 h2 => hear_le (me := a0) (l := l) (q := q) (a := x) (b := y) (by rcases HI.out with h | h <;> omega) h1 h2
          have hup := fun h1 => hear_up (me := a0) (l := l) (q := q) (a := x) (b := y) h1
          generalize hear a0 l q x y = hh at hC1 hI2 hle hup
          obtain ⟨v, l2, q2⟩ := hh
          have C1 := Lib.hid hC1
          have HI2 := Lib.hid hI2
          have HLE := Lib.hid hle
          have HUP := Lib.hid hup
          clear hC1 hI2 hle hup
          have HL2 := Lib.hid (HL.out.alloc (.cells #[.int .i64 x, .int .i64 y] 30))
          have HX2 := Lib.hid (HX.out.alloc (.cells #[.int .i64 x, .int .i64 y] 30))
          have HW2 := Lib.hid (Blk.new wr 30 #[.int .i64 x, .int .i64 y])
          have HB2 := Lib.hid (HB.out.alloc HB.out.size (.cells #[.int .i64 x, .int .i64 y] 30))
          have hbx := HB.out.size
          have hbp := HL.out.lt
          have hbT := HX.out.lt
          clear HL HX HB
          go_upto_region 17 with (first
            | (go_at_call 8; (with_reducible refine Calls.mono (level_ok p a0 l q _ HL2.out) ?_); rintro e w' ⟨rfl, rfl⟩)
            | (go_at_call 9; (with_reducible refine Calls.mono (C1.out _ HL2.out) ?_); rintro e w4 ⟨rfl, hl, hk2⟩; have HL4 := Lib.hid hl; have HX4 := Lib.hid (blk_kp HX2.out hk2 (fun h => hT h)); have HW4 := Lib.hid (blk_kp HW2.out hk2 (fun h => by omega)); have HB4 := Lib.hid (below_kp HB2.out HB2.out.size hk2 (fun k hk => by omega)); clear hl hk2))
          clear e0 e1 HL2 HX2 HW2 HB2
          generalize wr.heap.size = bx at *
          go_cut [65] (fun c wx => c = .bool (okFind x y) ∧ w4 = wx)
          case first =>
            have x0 : w4.cell? ⟨bx, 0, none⟩ = some (.int .i64 x) := HW4.out.cell 0
            have x1 : w4.cell? ⟨bx, 1, none⟩ = some (.int .i64 y) := HW4.out.cell 1
            by_cases h1 : x < 0
            · have ho : okFind x y = false := by rw [Bool.eq_false_iff]; exact fun h => by have := (okFind_iff x y).1 h; omega
              have HO := Lib.hid ho
              clear ho
              go_wp2
              go_meet
              exact ⟨by rw [HO.out]; try (simp; omega), rfl⟩
            by_cases h2 : 63 < x
            · have ho : okFind x y = false := by rw [Bool.eq_false_iff]; exact fun h => by have := (okFind_iff x y).1 h; omega
              have HO := Lib.hid ho
              clear ho
              go_wp2
              go_meet
              exact ⟨by rw [HO.out]; try (simp; omega), rfl⟩
            by_cases h3 : y < 0
            · have ho : okFind x y = false := by rw [Bool.eq_false_iff]; exact fun h => by have := (okFind_iff x y).1 h; omega
              have HO := Lib.hid ho
              clear ho
              go_wp2
              go_meet
              exact ⟨by rw [HO.out]; try (simp; omega), rfl⟩
            by_cases h4 : 63 < y
            · have ho : okFind x y = false := by rw [Bool.eq_false_iff]; exact fun h => by have := (okFind_iff x y).1 h; omega
              have HO := Lib.hid ho
              clear ho
              go_wp2
              go_meet
              exact ⟨by rw [HO.out]; try (simp; omega), rfl⟩
            · have ho : okFind x y = true := (okFind_iff x y).2 (by omega)
              have HO := Lib.hid ho
              clear ho
              go_wp2
              go_meet
              exact ⟨by rw [HO.out]; try (simp; omega), rfl⟩
          case rest =>
            obtain ⟨rfl, rfl⟩ := hcut
            by_cases hok : okFind x y = true
            · have hxy := (okFind_iff x y).1 hok
              obtain ⟨⟨b1, b2⟩, b3, b4⟩ := hxy
              obtain ⟨n, rfl⟩ : ∃ n : Nat, x = n := ⟨x.toNat, by omega⟩
              have x0 : w4.cell? ⟨bx, 0, none⟩ = some (.int .i64 n) := HW4.out.cell 0
              have x1 : w4.cell? ⟨bx, 1, none⟩ = some (.int .i64 y) := HW4.out.cell 1
              obtain ⟨z, hz⟩ : ∃ z, tl[n]? = some z := ⟨_, List.getElem?_eq_getElem (by have := HT.out; omega)⟩
              have t0 : w4.cell? ⟨T, n, none⟩ = some (.int .i64 z) := by rw [HX4.out.cell n, ci_at, hz]; rfl
              have f0 := HX4.out.frozen n
              have hn64 : n < 64 := by omega
              have htl : tells tl n y = tl.set n y := by unfold tells; rw [if_pos hok]; rfl
              have HT2 := Lib.hid (show (tells tl n y).length = 64 by rw [htl]; simpa using HT.out)
              have HTL := Lib.hid htl
              have hG := fun w => good_find n y w
              rw [show ([⟨1, (n : Int), 63⟩, ⟨1, y, 63⟩] : List Fld).all Fld.ok = true from hok] at hG
              have HG := Lib.hid hG
              have HOK := Lib.hid hok
              rw [hok]
              clear htl hz hG b1 hok
              go_upto_region 19 with fail
              have HL5 := Lib.hid (HL4.out.far (p := ⟨T, n, none⟩) (fun h => hT h.symm) (.int .i64 y))
              have HX5 : Hid (Blk (w4.setCell ⟨T, n, none⟩ (.int .i64 y)) T 28 (Ci (tells tl n y))) := Lib.hid (by rw [HTL.out, ← ci_set]; exact HX4.out.set_ n _)
              have HW5 := Lib.hid (HW4.out.far (p := ⟨T, n, none⟩) (show bx ≠ T by omega) (.int .i64 y))
              have HB5 := Lib.hid (HB4.out.setCell (p := ⟨T, n, none⟩) (show W.heap.size ≤ T from hz2) (.int .i64 y))
              generalize w4.setCell ⟨T, n, none⟩ (.int .i64 y) = w5 at HL5 HX5 HW5 HB5 ⊢
              generalize tells tl n y = tl2 at HI2 HT2 HX5
              clear x0 x1 t0 f0 HL4 HX4 HW4 HB4 HTL HT
              generalize (n : Int) = x at *
              by_cases hq : q2 < 0
              · have hl3 : l2 < 0 := by rcases HI2.out with h | h <;> omega
                go_wp2_with (first
                  | (go_at_call 10; (with_reducible refine Calls.mono (parent_ok p a0 l2 q2 _ HL5.out) ?_); rintro e w' ⟨rfl, rfl⟩)
                  | (go_at_call 8; (with_reducible refine Calls.mono (level_ok p a0 l2 q2 _ HL5.out) ?_); rintro e w' ⟨rfl, rfl⟩))
                go_roundw
                case rel => exact ⟨k + 1, l2, q2, tl2, hlt, by go_num, HT2.out, HI2.out, HL5.out, HX5.out, HB5.out⟩
                case measure => simp [intOf]; omega
              · obtain ⟨m, rfl⟩ : ∃ m : Nat, q2 = m := ⟨q2.toNat, by omega⟩
                have hii : 1 ≤ l2 ∧ l2 ≤ 63 ∧ m ≤ 63 ∧ (m : Int) ≠ a0 ∧ tl2[m]? = some (l2 - 1) := by
                  rcases HI2.out with h | ⟨i1, i2, i3, i4, i5, i6⟩
                  · omega
                  · exact ⟨i1, i2, by omega, i5, by simpa using i6⟩
                obtain ⟨i1, i2, i4, i5, i6⟩ := hii
                have I6 := Lib.hid i6
                have hma : ((m : Int) == a0) = false := by simpa using i5
                clear i6 hq i5
                go_upto_region 23 with (first
                  | (go_at_call 10; (with_reducible refine Calls.mono (parent_ok p a0 l2 m _ HL5.out) ?_); rintro e w' ⟨rfl, rfl⟩))
                have HL6 := Lib.hid HL5.out.drew
                have HX6 := Lib.hid HX5.out.drew
                have HB6 := Lib.hid (below_drew_ HB5.out)
                have HW6 := Lib.hid HW5.out.drew
                have c0 := HX6.out.cell m
                rw [ci_at, I6.out] at c0
                have HC6 := Lib.hid c0
                have hwr : IntKind.i64.wrap (l2 - 1 + 1) = l2 := by rw [Int.sub_add_cancel]; exact IntWalk.i64_in _ (by omega)
                have hwr2 : IntKind.i64.wrap l2 = l2 := IntWalk.i64_in _ (by omega)
                have hwr3 : wrap64 l2 = l2 := by unfold wrap64; omega
                have hm0 : (0 : Int) ≤ (m : Int) := by omega
                have hm63 : (m : Int) < 64 := by omega
                have hmd : decide ((63 : Int) < (m : Int)) = false := decide_eq_false (by omega)
                have hld : decide ((63 : Int) < l2) = false := decide_eq_false (by omega)
                have hln : (l2 != l2) = false := by simp
                have hwr4 : True := trivial
                clear c0
                refine wp_region_seq [(0, true), (1, true), (2, true), (3, true), (4, true), (5, true), (6, true), (7, true), (8, true), (10, true), (11, true), (12, true), (13, true), (9, false), (14, true), (15, true), (16, true), (17, true), (18, false), (19, true), (20, true)] (fun w' => w'.cell? ⟨T, m, none⟩ = some (.int .i64 (l2 - 1))) (by kernel_rfl) (by kernel_rfl) HC6.out (fun hHeld => ?_)
                simp only [List.map_cons, List.map_nil, List.getElem?_toArray, List.getElem?_cons_zero, List.getElem?_cons_succ]
                repeat (first | (first | (refine seq_skip (by rfl) ?_; try simp only [Act.put, List.setIfInBounds_toArray, List.set_cons_zero, List.set_cons_succ]) | (refine seq_not (by rfl) (by assumption) ?_; try simp only [Act.put, List.setIfInBounds_toArray, List.set_cons_zero, List.set_cons_succ]) | (refine seq_take (v := ?_) (by rfl) ?_ ?_; rotate_left; (focus ((intro w hSw; (try dsimp only at hSw); go_simp; (try with_reducible rfl)); done)); try simp only [Act.put, List.setIfInBounds_toArray, List.set_cons_zero, List.set_cons_succ])) | (refine seq_do (fun K hK => ?_); go_simp; go_at_call 8; (with_reducible refine Calls.mono (level_ok p a0 l2 m _ HL6.out) ?_); rintro e w' ⟨rfl, rfl⟩; dsimp only; refine hK.out _ _ (by assumption) (fun _ => ?_); clear hK K))
                refine seq_done ?_
                clear hHeld hwr hwr2 hwr3 HL5 HX5 HB5 HW5
                go_upto_region 25 with fail
                go_cut [131] (fun c wx => c = .bool false ∧ Lv wx p a0 l2 m ∧ Blk wx T 28 (Ci tl2) ∧ Below W.heap.size W wx)
                case first =>
                  have HL7 := Lib.hid HL6.out.drew
                  have HX7 := Lib.hid HX6.out.drew
                  have HB7 := Lib.hid (below_drew_ HB6.out)
                  have HW7 := Lib.hid HW6.out.drew
                  clear HL6 HX6 HB6 HW6
                  clear hwr4
                  have HWY := Lib.hid (show IntKind.i64.wrap (y + 1) = y + 1 from IntWalk.i64_in _ (by have := (okFind_iff x y).1 HOK.out; omega))
                  have HLY := Lib.hid (show x ≠ a0 → decide (y + 1 < l2) = false from fun h2 => decide_eq_false (by rcases HLE.out HOK.out h2 with h | h <;> omega))
                  refine wp_region_seq [(0, true), (1, true), (2, true), (3, true), (4, true), (5, true), (6, true), (7, false), (8, true), (9, true), (10, true), (12, true), (13, true), (14, true), (11, false), (15, true), (16, true), (17, true), (18, true), (19, true), (20, true), (21, true), (23, true), (22, false), (24, true), (25, true), (26, true), (27, true), (28, true), (29, true), (30, true), (31, true), (32, true)] (fun w' => w'.cell? ⟨bx, 0, none⟩ = some (.int .i64 x) ∧ w'.cell? ⟨bx, 1, none⟩ = some (.int .i64 y)) (by kernel_rfl) (by kernel_rfl) ⟨HW7.out.cell 0, HW7.out.cell 1⟩ (fun hHeld => ?_)
                  simp only [List.map_cons, List.map_nil, List.getElem?_toArray, List.getElem?_cons_zero, List.getElem?_cons_succ]
                  by_cases hxm : x = a0
                  · have hx1 : (x != a0) = false := by simp [hxm]
                    clear hxm
                    by_cases hl0 : 0 ≤ l
                    · have hl1 : decide (0 ≤ l) = true := decide_eq_true hl0
                      by_cases hl2 : l < l2
                      · have hl3 : decide (l < l2) = true := decide_eq_true hl2
                        have hxq : x = m := by rcases HUP.out hl0 with h | h <;> omega
                        have hx9 : (x != (m : Int)) = false := by simp [hxq]
                        clear hxq hl0
                        repeat (first | (first | (refine seq_skip (by rfl) ?_; try simp only [Act.put, List.setIfInBounds_toArray, List.set_cons_zero, List.set_cons_succ]) | (refine seq_not (by rfl) (by assumption) ?_; try simp only [Act.put, List.setIfInBounds_toArray, List.set_cons_zero, List.set_cons_succ]) | (refine seq_take (v := ?_) (by rfl) ?_ ?_; rotate_left; (focus ((intro w hSw; (try dsimp only at hSw); go_simp; (try with_reducible rfl)); done)); try simp only [Act.put, List.setIfInBounds_toArray, List.set_cons_zero, List.set_cons_succ])) | (refine seq_do (fun K hK => ?_); go_simp; go_at_call 8; (with_reducible refine Calls.mono (level_ok p a0 l2 m _ HL7.out) ?_); rintro e w' ⟨rfl, rfl⟩; dsimp only; refine hK.out _ _ (by assumption) (fun _ => ?_); clear hK K) | (refine seq_do (fun K hK => ?_); go_simp; go_at_call 11; (with_reducible refine Calls.mono (HG.out _) ?_); rintro e w9 ⟨rfl, hb⟩; have HL7 := Lib.hid (HL7.out.keeps hb); have HX7 := Lib.hid (HX7.out.keeps hb); have HW7 := Lib.hid (HW7.out.keeps hb); have HB7 := Lib.hid (HB7.out.trans (hb.mono HB7.out.size)); dsimp only; refine hK.out _ _ ⟨HW7.out.cell 0, HW7.out.cell 1⟩ (fun hHeld => ?_); clear hK K hb))
                        refine seq_done ?_
                        clear hHeld
                        go_wp2
                        go_meet
                        exact ⟨rfl, HL7.out, HX7.out, HB7.out⟩
                      · have hl3 : decide (l < l2) = false := decide_eq_false hl2
                        clear hl0
                        repeat (first | (first | (refine seq_skip (by rfl) ?_; try simp only [Act.put, List.setIfInBounds_toArray, List.set_cons_zero, List.set_cons_succ]) | (refine seq_not (by rfl) (by assumption) ?_; try simp only [Act.put, List.setIfInBounds_toArray, List.set_cons_zero, List.set_cons_succ]) | (refine seq_take (v := ?_) (by rfl) ?_ ?_; rotate_left; (focus ((intro w hSw; (try dsimp only at hSw); go_simp; (try with_reducible rfl)); done)); try simp only [Act.put, List.setIfInBounds_toArray, List.set_cons_zero, List.set_cons_succ])) | (refine seq_do (fun K hK => ?_); go_simp; go_at_call 8; (with_reducible refine Calls.mono (level_ok p a0 l2 m _ HL7.out) ?_); rintro e w' ⟨rfl, rfl⟩; dsimp only; refine hK.out _ _ (by assumption) (fun _ => ?_); clear hK K) | (refine seq_do (fun K hK => ?_); go_simp; go_at_call 11; (with_reducible refine Calls.mono (HG.out _) ?_); rintro e w9 ⟨rfl, hb⟩; have HL7 := Lib.hid (HL7.out.keeps hb); have HX7 := Lib.hid (HX7.out.keeps hb); have HW7 := Lib.hid (HW7.out.keeps hb); have HB7 := Lib.hid (HB7.out.trans (hb.mono HB7.out.size)); dsimp only; refine hK.out _ _ ⟨HW7.out.cell 0, HW7.out.cell 1⟩ (fun hHeld => ?_); clear hK K hb))
                        refine seq_done ?_
                        clear hHeld
                        go_wp2
                        go_meet
                        exact ⟨rfl, HL7.out, HX7.out, HB7.out⟩
                    · have hl1 : decide (0 ≤ l) = false := decide_eq_false hl0
                      clear hl0
                      repeat (first | (first | (refine seq_skip (by rfl) ?_; try simp only [Act.put, List.setIfInBounds_toArray, List.set_cons_zero, List.set_cons_succ]) | (refine seq_not (by rfl) (by assumption) ?_; try simp only [Act.put, List.setIfInBounds_toArray, List.set_cons_zero, List.set_cons_succ]) | (refine seq_take (v := ?_) (by rfl) ?_ ?_; rotate_left; (focus ((intro w hSw; (try dsimp only at hSw); go_simp; (try with_reducible rfl)); done)); try simp only [Act.put, List.setIfInBounds_toArray, List.set_cons_zero, List.set_cons_succ])) | (refine seq_do (fun K hK => ?_); go_simp; go_at_call 8; (with_reducible refine Calls.mono (level_ok p a0 l2 m _ HL7.out) ?_); rintro e w' ⟨rfl, rfl⟩; dsimp only; refine hK.out _ _ (by assumption) (fun _ => ?_); clear hK K) | (refine seq_do (fun K hK => ?_); go_simp; go_at_call 11; (with_reducible refine Calls.mono (HG.out _) ?_); rintro e w9 ⟨rfl, hb⟩; have HL7 := Lib.hid (HL7.out.keeps hb); have HX7 := Lib.hid (HX7.out.keeps hb); have HW7 := Lib.hid (HW7.out.keeps hb); have HB7 := Lib.hid (HB7.out.trans (hb.mono HB7.out.size)); dsimp only; refine hK.out _ _ ⟨HW7.out.cell 0, HW7.out.cell 1⟩ (fun hHeld => ?_); clear hK K hb))
                      refine seq_done ?_
                      clear hHeld
                      go_wp2
                      go_meet
                      exact ⟨rfl, HL7.out, HX7.out, HB7.out⟩
                  · have hx1 : (x != a0) = true := by simp [hxm]
                    have hx2 := HWY.out
                    have hx3 := HLY.out hxm
                    clear hxm
                    by_cases hl0 : 0 ≤ l
                    · have hl1 : decide (0 ≤ l) = true := decide_eq_true hl0
                      by_cases hl2 : l < l2
                      · have hl3 : decide (l < l2) = true := decide_eq_true hl2
                        have hxq : x = m := by rcases HUP.out hl0 with h | h <;> omega
                        have hx9 : (x != (m : Int)) = false := by simp [hxq]
                        clear hxq hl0
                        repeat (first | (first | (refine seq_skip (by rfl) ?_; try simp only [Act.put, List.setIfInBounds_toArray, List.set_cons_zero, List.set_cons_succ]) | (refine seq_not (by rfl) (by assumption) ?_; try simp only [Act.put, List.setIfInBounds_toArray, List.set_cons_zero, List.set_cons_succ]) | (refine seq_take (v := ?_) (by rfl) ?_ ?_; rotate_left; (focus ((intro w hSw; (try dsimp only at hSw); go_simp; (try with_reducible rfl)); done)); try simp only [Act.put, List.setIfInBounds_toArray, List.set_cons_zero, List.set_cons_succ])) | (refine seq_do (fun K hK => ?_); go_simp; go_at_call 8; (with_reducible refine Calls.mono (level_ok p a0 l2 m _ HL7.out) ?_); rintro e w' ⟨rfl, rfl⟩; dsimp only; refine hK.out _ _ (by assumption) (fun _ => ?_); clear hK K) | (refine seq_do (fun K hK => ?_); go_simp; go_at_call 11; (with_reducible refine Calls.mono (HG.out _) ?_); rintro e w9 ⟨rfl, hb⟩; have HL7 := Lib.hid (HL7.out.keeps hb); have HX7 := Lib.hid (HX7.out.keeps hb); have HW7 := Lib.hid (HW7.out.keeps hb); have HB7 := Lib.hid (HB7.out.trans (hb.mono HB7.out.size)); dsimp only; refine hK.out _ _ ⟨HW7.out.cell 0, HW7.out.cell 1⟩ (fun hHeld => ?_); clear hK K hb))
                        refine seq_done ?_
                        clear hHeld
                        go_wp2
                        go_meet
                        exact ⟨rfl, HL7.out, HX7.out, HB7.out⟩
                      · have hl3 : decide (l < l2) = false := decide_eq_false hl2
                        clear hl0
                        repeat (first | (first | (refine seq_skip (by rfl) ?_; try simp only [Act.put, List.setIfInBounds_toArray, List.set_cons_zero, List.set_cons_succ]) | (refine seq_not (by rfl) (by assumption) ?_; try simp only [Act.put, List.setIfInBounds_toArray, List.set_cons_zero, List.set_cons_succ]) | (refine seq_take (v := ?_) (by rfl) ?_ ?_; rotate_left; (focus ((intro w hSw; (try dsimp only at hSw); go_simp; (try with_reducible rfl)); done)); try simp only [Act.put, List.setIfInBounds_toArray, List.set_cons_zero, List.set_cons_succ])) | (refine seq_do (fun K hK => ?_); go_simp; go_at_call 8; (with_reducible refine Calls.mono (level_ok p a0 l2 m _ HL7.out) ?_); rintro e w' ⟨rfl, rfl⟩; dsimp only; refine hK.out _ _ (by assumption) (fun _ => ?_); clear hK K) | (refine seq_do (fun K hK => ?_); go_simp; go_at_call 11; (with_reducible refine Calls.mono (HG.out _) ?_); rintro e w9 ⟨rfl, hb⟩; have HL7 := Lib.hid (HL7.out.keeps hb); have HX7 := Lib.hid (HX7.out.keeps hb); have HW7 := Lib.hid (HW7.out.keeps hb); have HB7 := Lib.hid (HB7.out.trans (hb.mono HB7.out.size)); dsimp only; refine hK.out _ _ ⟨HW7.out.cell 0, HW7.out.cell 1⟩ (fun hHeld => ?_); clear hK K hb))
                        refine seq_done ?_
                        clear hHeld
                        go_wp2
                        go_meet
                        exact ⟨rfl, HL7.out, HX7.out, HB7.out⟩
                    · have hl1 : decide (0 ≤ l) = false := decide_eq_false hl0
                      clear hl0
                      repeat (first | (first | (refine seq_skip (by rfl) ?_; try simp only [Act.put, List.setIfInBounds_toArray, List.set_cons_zero, List.set_cons_succ]) | (refine seq_not (by rfl) (by assumption) ?_; try simp only [Act.put, List.setIfInBounds_toArray, List.set_cons_zero, List.set_cons_succ]) | (refine seq_take (v := ?_) (by rfl) ?_ ?_; rotate_left; (focus ((intro w hSw; (try dsimp only at hSw); go_simp; (try with_reducible rfl)); done)); try simp only [Act.put, List.setIfInBounds_toArray, List.set_cons_zero, List.set_cons_succ])) | (refine seq_do (fun K hK => ?_); go_simp; go_at_call 8; (with_reducible refine Calls.mono (level_ok p a0 l2 m _ HL7.out) ?_); rintro e w' ⟨rfl, rfl⟩; dsimp only; refine hK.out _ _ (by assumption) (fun _ => ?_); clear hK K) | (refine seq_do (fun K hK => ?_); go_simp; go_at_call 11; (with_reducible refine Calls.mono (HG.out _) ?_); rintro e w9 ⟨rfl, hb⟩; have HL7 := Lib.hid (HL7.out.keeps hb); have HX7 := Lib.hid (HX7.out.keeps hb); have HW7 := Lib.hid (HW7.out.keeps hb); have HB7 := Lib.hid (HB7.out.trans (hb.mono HB7.out.size)); dsimp only; refine hK.out _ _ ⟨HW7.out.cell 0, HW7.out.cell 1⟩ (fun hHeld => ?_); clear hK K hb))
                      refine seq_done ?_
                      clear hHeld
                      go_wp2
                      go_meet
                      exact ⟨rfl, HL7.out, HX7.out, HB7.out⟩
                case rest =>
                  obtain ⟨rfl, hl, hx, hb⟩ := hcut
                  have HL8 := Lib.hid hl
                  have HX8 := Lib.hid hx
                  have HB8 := Lib.hid hb
                  clear hl hx hb
                  go_wp2
                  go_roundw
                  case rel => exact ⟨k + 1, l2, m, tl2, hlt, by go_num, HT2.out, HI2.out, HL8.out, HX8.out, HB8.out⟩
                  case measure => simp [intOf]; omega
            · have hok2 : okFind x y = false := by simpa using hok
              have htl : tells tl x y = tl := by unfold tells; rw [if_neg hok]
              have HT2 := Lib.hid (show (tells tl x y).length = 64 by rw [htl]; exact HT.out)
              have hG := fun w => good_find x y w
              rw [show ([⟨1, x, 63⟩, ⟨1, y, 63⟩] : List Fld).all Fld.ok = false from hok2] at hG
              have HG := Lib.hid hG
              have HX5 : Hid (Blk w4 T 28 (Ci (tells tl x y))) := Lib.hid (by rw [htl]; exact HX4.out)
              have HOK := Lib.hid hok2
              rw [hok2]
              clear hok htl hG hok2
              go_upto_region 19 with fail
              have HL5 := HL4
              have HW5 := HW4
              have HB5 := HB4
              generalize tells tl x y = tl2 at HI2 HT2 HX5
              clear HL4 HX4 HW4 HB4 HT
              obtain ⟨w5, rfl⟩ : ∃ w5, w5 = w4 := ⟨_, rfl⟩
              by_cases hq : q2 < 0
              · have hl3 : l2 < 0 := by rcases HI2.out with h | h <;> omega
                go_wp2_with (first
                  | (go_at_call 10; (with_reducible refine Calls.mono (parent_ok p a0 l2 q2 _ HL5.out) ?_); rintro e w' ⟨rfl, rfl⟩)
                  | (go_at_call 8; (with_reducible refine Calls.mono (level_ok p a0 l2 q2 _ HL5.out) ?_); rintro e w' ⟨rfl, rfl⟩))
                go_roundw
                case rel => exact ⟨k + 1, l2, q2, tl2, hlt, by go_num, HT2.out, HI2.out, HL5.out, HX5.out, HB5.out⟩
                case measure => simp [intOf]; omega
              · obtain ⟨m, rfl⟩ : ∃ m : Nat, q2 = m := ⟨q2.toNat, by omega⟩
                have hii : 1 ≤ l2 ∧ l2 ≤ 63 ∧ m ≤ 63 ∧ (m : Int) ≠ a0 ∧ tl2[m]? = some (l2 - 1) := by
                  rcases HI2.out with h | ⟨i1, i2, i3, i4, i5, i6⟩
                  · omega
                  · exact ⟨i1, i2, by omega, i5, by simpa using i6⟩
                obtain ⟨i1, i2, i4, i5, i6⟩ := hii
                have I6 := Lib.hid i6
                have hma : ((m : Int) == a0) = false := by simpa using i5
                clear i6 hq i5
                go_upto_region 23 with (first
                  | (go_at_call 10; (with_reducible refine Calls.mono (parent_ok p a0 l2 m _ HL5.out) ?_); rintro e w' ⟨rfl, rfl⟩))
                have HL6 := Lib.hid HL5.out.drew
                have HX6 := Lib.hid HX5.out.drew
                have HB6 := Lib.hid (below_drew_ HB5.out)
                have HW6 := Lib.hid HW5.out.drew
                have c0 := HX6.out.cell m
                rw [ci_at, I6.out] at c0
                have HC6 := Lib.hid c0
                have hwr : IntKind.i64.wrap (l2 - 1 + 1) = l2 := by rw [Int.sub_add_cancel]; exact IntWalk.i64_in _ (by omega)
                have hwr2 : IntKind.i64.wrap l2 = l2 := IntWalk.i64_in _ (by omega)
                have hwr3 : wrap64 l2 = l2 := by unfold wrap64; omega
                have hm0 : (0 : Int) ≤ (m : Int) := by omega
                have hm63 : (m : Int) < 64 := by omega
                have hmd : decide ((63 : Int) < (m : Int)) = false := decide_eq_false (by omega)
                have hld : decide ((63 : Int) < l2) = false := decide_eq_false (by omega)
                have hln : (l2 != l2) = false := by simp
                have hwr4 : True := trivial
                clear c0
                refine wp_region_seq [(0, true), (1, true), (2, true), (3, true), (4, true), (5, true), (6, true), (7, true), (8, true), (10, true), (11, true), (12, true), (13, true), (9, false), (14, true), (15, true), (16, true), (17, true), (18, false), (19, true), (20, true)] (fun w' => w'.cell? ⟨T, m, none⟩ = some (.int .i64 (l2 - 1))) (by kernel_rfl) (by kernel_rfl) HC6.out (fun hHeld => ?_)
                simp only [List.map_cons, List.map_nil, List.getElem?_toArray, List.getElem?_cons_zero, List.getElem?_cons_succ]
                repeat (first | (first | (refine seq_skip (by rfl) ?_; try simp only [Act.put, List.setIfInBounds_toArray, List.set_cons_zero, List.set_cons_succ]) | (refine seq_not (by rfl) (by assumption) ?_; try simp only [Act.put, List.setIfInBounds_toArray, List.set_cons_zero, List.set_cons_succ]) | (refine seq_take (v := ?_) (by rfl) ?_ ?_; rotate_left; (focus ((intro w hSw; (try dsimp only at hSw); go_simp; (try with_reducible rfl)); done)); try simp only [Act.put, List.setIfInBounds_toArray, List.set_cons_zero, List.set_cons_succ])) | (refine seq_do (fun K hK => ?_); go_simp; go_at_call 8; (with_reducible refine Calls.mono (level_ok p a0 l2 m _ HL6.out) ?_); rintro e w' ⟨rfl, rfl⟩; dsimp only; refine hK.out _ _ (by assumption) (fun _ => ?_); clear hK K))
                refine seq_done ?_
                clear hHeld hwr hwr2 hwr3 HL5 HX5 HB5 HW5
                go_upto_region 25 with fail
                go_cut [131] (fun c wx => c = .bool false ∧ Lv wx p a0 l2 m ∧ Blk wx T 28 (Ci tl2) ∧ Below W.heap.size W wx)
                case first =>
                  have HL7 := Lib.hid HL6.out.drew
                  have HX7 := Lib.hid HX6.out.drew
                  have HB7 := Lib.hid (below_drew_ HB6.out)
                  have HW7 := Lib.hid HW6.out.drew
                  clear HL6 HX6 HB6 HW6
                  clear hwr4
                  have HWY := Lib.hid trivial
                  refine wp_region_seq [(0, true), (1, true), (2, true), (3, true), (4, true), (5, true), (6, true), (7, false), (8, true), (9, true), (10, true), (12, true), (13, true), (14, true), (11, false), (15, true), (16, true), (17, true), (18, true), (19, true), (20, true), (21, true), (23, true), (22, false), (24, true), (25, true), (26, true), (27, true), (28, true), (29, true), (30, true), (31, true), (32, true)] (fun w' => w'.cell? ⟨bx, 0, none⟩ = some (.int .i64 x) ∧ w'.cell? ⟨bx, 1, none⟩ = some (.int .i64 y)) (by kernel_rfl) (by kernel_rfl) ⟨HW7.out.cell 0, HW7.out.cell 1⟩ (fun hHeld => ?_)
                  simp only [List.map_cons, List.map_nil, List.getElem?_toArray, List.getElem?_cons_zero, List.getElem?_cons_succ]
                  by_cases hxm : x = a0
                  · have hx1 : (x != a0) = false := by simp [hxm]
                    clear hxm
                    by_cases hl0 : 0 ≤ l
                    · have hl1 : decide (0 ≤ l) = true := decide_eq_true hl0
                      by_cases hl2 : l < l2
                      · have hl3 : decide (l < l2) = true := decide_eq_true hl2
                        have hxq : x = m := by rcases HUP.out hl0 with h | h <;> omega
                        have hx9 : (x != (m : Int)) = false := by simp [hxq]
                        clear hxq hl0
                        repeat (first | (first | (refine seq_skip (by rfl) ?_; try simp only [Act.put, List.setIfInBounds_toArray, List.set_cons_zero, List.set_cons_succ]) | (refine seq_not (by rfl) (by assumption) ?_; try simp only [Act.put, List.setIfInBounds_toArray, List.set_cons_zero, List.set_cons_succ]) | (refine seq_take (v := ?_) (by rfl) ?_ ?_; rotate_left; (focus ((intro w hSw; (try dsimp only at hSw); go_simp; (try with_reducible rfl)); done)); try simp only [Act.put, List.setIfInBounds_toArray, List.set_cons_zero, List.set_cons_succ])) | (refine seq_do (fun K hK => ?_); go_simp; go_at_call 8; (with_reducible refine Calls.mono (level_ok p a0 l2 m _ HL7.out) ?_); rintro e w' ⟨rfl, rfl⟩; dsimp only; refine hK.out _ _ (by assumption) (fun _ => ?_); clear hK K) | (refine seq_do (fun K hK => ?_); go_simp; go_at_call 11; (with_reducible refine Calls.mono (HG.out _) ?_); rintro e w9 ⟨rfl, hb⟩; have HL7 := Lib.hid (HL7.out.keeps hb); have HX7 := Lib.hid (HX7.out.keeps hb); have HW7 := Lib.hid (HW7.out.keeps hb); have HB7 := Lib.hid (HB7.out.trans (hb.mono HB7.out.size)); dsimp only; refine hK.out _ _ ⟨HW7.out.cell 0, HW7.out.cell 1⟩ (fun hHeld => ?_); clear hK K hb))
                        refine seq_done ?_
                        clear hHeld
                        go_wp2
                        go_meet
                        exact ⟨rfl, HL7.out, HX7.out, HB7.out⟩
                      · have hl3 : decide (l < l2) = false := decide_eq_false hl2
                        clear hl0
                        repeat (first | (first | (refine seq_skip (by rfl) ?_; try simp only [Act.put, List.setIfInBounds_toArray, List.set_cons_zero, List.set_cons_succ]) | (refine seq_not (by rfl) (by assumption) ?_; try simp only [Act.put, List.setIfInBounds_toArray, List.set_cons_zero, List.set_cons_succ]) | (refine seq_take (v := ?_) (by rfl) ?_ ?_; rotate_left; (focus ((intro w hSw; (try dsimp only at hSw); go_simp; (try with_reducible rfl)); done)); try simp only [Act.put, List.setIfInBounds_toArray, List.set_cons_zero, List.set_cons_succ])) | (refine seq_do (fun K hK => ?_); go_simp; go_at_call 8; (with_reducible refine Calls.mono (level_ok p a0 l2 m _ HL7.out) ?_); rintro e w' ⟨rfl, rfl⟩; dsimp only; refine hK.out _ _ (by assumption) (fun _ => ?_); clear hK K) | (refine seq_do (fun K hK => ?_); go_simp; go_at_call 11; (with_reducible refine Calls.mono (HG.out _) ?_); rintro e w9 ⟨rfl, hb⟩; have HL7 := Lib.hid (HL7.out.keeps hb); have HX7 := Lib.hid (HX7.out.keeps hb); have HW7 := Lib.hid (HW7.out.keeps hb); have HB7 := Lib.hid (HB7.out.trans (hb.mono HB7.out.size)); dsimp only; refine hK.out _ _ ⟨HW7.out.cell 0, HW7.out.cell 1⟩ (fun hHeld => ?_); clear hK K hb))
                        refine seq_done ?_
                        clear hHeld
                        go_wp2
                        go_meet
                        exact ⟨rfl, HL7.out, HX7.out, HB7.out⟩
                    · have hl1 : decide (0 ≤ l) = false := decide_eq_false hl0
                      clear hl0
                      repeat (first | (first | (refine seq_skip (by rfl) ?_; try simp only [Act.put, List.setIfInBounds_toArray, List.set_cons_zero, List.set_cons_succ]) | (refine seq_not (by rfl) (by assumption) ?_; try simp only [Act.put, List.setIfInBounds_toArray, List.set_cons_zero, List.set_cons_succ]) | (refine seq_take (v := ?_) (by rfl) ?_ ?_; rotate_left; (focus ((intro w hSw; (try dsimp only at hSw); go_simp; (try with_reducible rfl)); done)); try simp only [Act.put, List.setIfInBounds_toArray, List.set_cons_zero, List.set_cons_succ])) | (refine seq_do (fun K hK => ?_); go_simp; go_at_call 8; (with_reducible refine Calls.mono (level_ok p a0 l2 m _ HL7.out) ?_); rintro e w' ⟨rfl, rfl⟩; dsimp only; refine hK.out _ _ (by assumption) (fun _ => ?_); clear hK K) | (refine seq_do (fun K hK => ?_); go_simp; go_at_call 11; (with_reducible refine Calls.mono (HG.out _) ?_); rintro e w9 ⟨rfl, hb⟩; have HL7 := Lib.hid (HL7.out.keeps hb); have HX7 := Lib.hid (HX7.out.keeps hb); have HW7 := Lib.hid (HW7.out.keeps hb); have HB7 := Lib.hid (HB7.out.trans (hb.mono HB7.out.size)); dsimp only; refine hK.out _ _ ⟨HW7.out.cell 0, HW7.out.cell 1⟩ (fun hHeld => ?_); clear hK K hb))
                      refine seq_done ?_
                      clear hHeld
                      go_wp2
                      go_meet
                      exact ⟨rfl, HL7.out, HX7.out, HB7.out⟩
                  · have hx1 : (x != a0) = true := by simp [hxm]
                    clear HWY
                    clear hxm
                    by_cases hl0 : 0 ≤ l
                    · have hl1 : decide (0 ≤ l) = true := decide_eq_true hl0
                      by_cases hl2 : l < l2
                      · have hl3 : decide (l < l2) = true := decide_eq_true hl2
                        have hxq : x = m := by rcases HUP.out hl0 with h | h <;> omega
                        have hx9 : (x != (m : Int)) = false := by simp [hxq]
                        clear hxq hl0
                        repeat (first | (first | (refine seq_skip (by rfl) ?_; try simp only [Act.put, List.setIfInBounds_toArray, List.set_cons_zero, List.set_cons_succ]) | (refine seq_not (by rfl) (by assumption) ?_; try simp only [Act.put, List.setIfInBounds_toArray, List.set_cons_zero, List.set_cons_succ]) | (refine seq_take (v := ?_) (by rfl) ?_ ?_; rotate_left; (focus ((intro w hSw; (try dsimp only at hSw); go_simp; (try with_reducible rfl)); done)); try simp only [Act.put, List.setIfInBounds_toArray, List.set_cons_zero, List.set_cons_succ])) | (refine seq_do (fun K hK => ?_); go_simp; go_at_call 8; (with_reducible refine Calls.mono (level_ok p a0 l2 m _ HL7.out) ?_); rintro e w' ⟨rfl, rfl⟩; dsimp only; refine hK.out _ _ (by assumption) (fun _ => ?_); clear hK K) | (refine seq_do (fun K hK => ?_); go_simp; go_at_call 11; (with_reducible refine Calls.mono (HG.out _) ?_); rintro e w9 ⟨rfl, hb⟩; have HL7 := Lib.hid (HL7.out.keeps hb); have HX7 := Lib.hid (HX7.out.keeps hb); have HW7 := Lib.hid (HW7.out.keeps hb); have HB7 := Lib.hid (HB7.out.trans (hb.mono HB7.out.size)); dsimp only; refine hK.out _ _ ⟨HW7.out.cell 0, HW7.out.cell 1⟩ (fun hHeld => ?_); clear hK K hb))
                        refine seq_done ?_
                        clear hHeld
                        go_wp2
                        go_meet
                        exact ⟨rfl, HL7.out, HX7.out, HB7.out⟩
                      · have hl3 : decide (l < l2) = false := decide_eq_false hl2
                        clear hl0
                        repeat (first | (first | (refine seq_skip (by rfl) ?_; try simp only [Act.put, List.setIfInBounds_toArray, List.set_cons_zero, List.set_cons_succ]) | (refine seq_not (by rfl) (by assumption) ?_; try simp only [Act.put, List.setIfInBounds_toArray, List.set_cons_zero, List.set_cons_succ]) | (refine seq_take (v := ?_) (by rfl) ?_ ?_; rotate_left; (focus ((intro w hSw; (try dsimp only at hSw); go_simp; (try with_reducible rfl)); done)); try simp only [Act.put, List.setIfInBounds_toArray, List.set_cons_zero, List.set_cons_succ])) | (refine seq_do (fun K hK => ?_); go_simp; go_at_call 8; (with_reducible refine Calls.mono (level_ok p a0 l2 m _ HL7.out) ?_); rintro e w' ⟨rfl, rfl⟩; dsimp only; refine hK.out _ _ (by assumption) (fun _ => ?_); clear hK K) | (refine seq_do (fun K hK => ?_); go_simp; go_at_call 11; (with_reducible refine Calls.mono (HG.out _) ?_); rintro e w9 ⟨rfl, hb⟩; have HL7 := Lib.hid (HL7.out.keeps hb); have HX7 := Lib.hid (HX7.out.keeps hb); have HW7 := Lib.hid (HW7.out.keeps hb); have HB7 := Lib.hid (HB7.out.trans (hb.mono HB7.out.size)); dsimp only; refine hK.out _ _ ⟨HW7.out.cell 0, HW7.out.cell 1⟩ (fun hHeld => ?_); clear hK K hb))
                        refine seq_done ?_
                        clear hHeld
                        go_wp2
                        go_meet
                        exact ⟨rfl, HL7.out, HX7.out, HB7.out⟩
                    · have hl1 : decide (0 ≤ l) = false := decide_eq_false hl0
                      clear hl0
                      repeat (first | (first | (refine seq_skip (by rfl) ?_; try simp only [Act.put, List.setIfInBounds_toArray, List.set_cons_zero, List.set_cons_succ]) | (refine seq_not (by rfl) (by assumption) ?_; try simp only [Act.put, List.setIfInBounds_toArray, List.set_cons_zero, List.set_cons_succ]) | (refine seq_take (v := ?_) (by rfl) ?_ ?_; rotate_left; (focus ((intro w hSw; (try dsimp only at hSw); go_simp; (try with_reducible rfl)); done)); try simp only [Act.put, List.setIfInBounds_toArray, List.set_cons_zero, List.set_cons_succ])) | (refine seq_do (fun K hK => ?_); go_simp; go_at_call 8; (with_reducible refine Calls.mono (level_ok p a0 l2 m _ HL7.out) ?_); rintro e w' ⟨rfl, rfl⟩; dsimp only; refine hK.out _ _ (by assumption) (fun _ => ?_); clear hK K) | (refine seq_do (fun K hK => ?_); go_simp; go_at_call 11; (with_reducible refine Calls.mono (HG.out _) ?_); rintro e w9 ⟨rfl, hb⟩; have HL7 := Lib.hid (HL7.out.keeps hb); have HX7 := Lib.hid (HX7.out.keeps hb); have HW7 := Lib.hid (HW7.out.keeps hb); have HB7 := Lib.hid (HB7.out.trans (hb.mono HB7.out.size)); dsimp only; refine hK.out _ _ ⟨HW7.out.cell 0, HW7.out.cell 1⟩ (fun hHeld => ?_); clear hK K hb))
                      refine seq_done ?_
                      clear hHeld
                      go_wp2
                      go_meet
                      exact ⟨rfl, HL7.out, HX7.out, HB7.out⟩
                case rest =>
                  obtain ⟨rfl, hl, hx, hb⟩ := hcut
                  have HL8 := Lib.hid hl
                  have HX8 := Lib.hid hx
                  have HB8 := Lib.hid hb
                  clear hl hx hb
                  go_wp2
                  go_roundw
                  case rel => exact ⟨k + 1, l2, m, tl2, hlt, by go_num, HT2.out, HI2.out, HL8.out, HX8.out, HB8.out⟩
                  case measure => simp [intOf]; omega
        · go_wp2
          go_ret
          exact ⟨rfl, HB.out⟩
end Go.Proofs.Yteeeolagnndcaac.LevelLowestW
