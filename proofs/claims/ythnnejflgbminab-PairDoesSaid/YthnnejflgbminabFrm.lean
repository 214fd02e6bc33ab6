/- The walks of frame's small functions: a frame's fields, and whether a frame can be. -/
import Derived.Test.YthnnejflgbminabChecked
import Derived.Test.YthnnejflgbminabKp
import Derived.Test.YthnnejflgbminabSq
import Derived.Deep.QuietTactic
import Derived.BigQuiet
import Derived.BigRegion
import Derived.WalkLawsBesides
import Derived.WalkSpells
import Derived.IntWalk
import Derived.Lib.Hide
import Derived.Outline
namespace Go.Proofs.Ythnnejflgbminab.Frm
open Go.RowKit Go.Proofs.Ythnnejflgbminab.Bk Go.Proofs.Ythnnejflgbminab.Rw Go.Proofs.Ythnnejflgbminab.Ow Go.Proofs.Ythnnejflgbminab.Kp Go.Proofs.Ythnnejflgbminab.Sq

theorem node_ok (n : Int) (w : World) : Calls Try.prog 51 #[.int .i64 n] w fun e w' => e = .returned (.agg #[.int .i64 1, .int .i64 n, .int .i64 63]) ∧ Below w.heap.size w w' := by
  go_enter Try.func51, Try.ntmps51
  go_wp2
  exact bodyPost_ret (v := .agg #[.int .i64 1, .int .i64 n, .int .i64 63]) (by simp [results, Try.results51, go_sem]) rfl ⟨rfl, (Below.refl _ _).alloc (Nat.le_refl _) _⟩
theorem hops_ok (n : Int) (w : World) : Calls Try.prog 56 #[.int .i64 n] w fun e w' => e = .returned (.agg #[.int .i64 1, .int .i64 n, .int .i64 63]) ∧ Below w.heap.size w w' := by
  go_enter Try.func56, Try.ntmps56
  go_wp2
  exact bodyPost_ret (v := .agg #[.int .i64 1, .int .i64 n, .int .i64 63]) (by simp [results, Try.results56, go_sem]) rfl ⟨rfl, (Below.refl _ _).alloc (Nat.le_refl _) _⟩

theorem as_no_sync (v : Value) (w : World) : (Instr.typeAssert (.iface 86 v) 73 84 true).run Try.prog w = .ok (.tuple #[.agg #[.int .i64 0, .int .i64 0, .int .u16 0, .int .u16 0, .int .i64 0, .int .i64 0], .bool false]) w := by kernel_rfl
theorem as_find (v : Value) (w : World) : (Instr.typeAssert (.iface 86 v) 73 86 true).run Try.prog w = .ok (.tuple #[v, .bool true]) w := by kernel_rfl
theorem kind_find (v : Value) (w : World) : Calls Try.prog 32 #[.iface 86 v] w fun e w' => e = .returned (.int .u8 2) ∧ w = w' := by
  have a1 := as_no_sync
  have a2 := as_find
  go_enter Try.func32, Try.ntmps32
  go_wp2
  go_ret
  exact ⟨rfl, rfl⟩

/-- A field's three numbers. -/
structure Fld where
  size : Int
  n : Int
  most : Int
def Fld.cs (f : Fld) : List Value := [.int .i64 f.size, .int .i64 f.n, .int .i64 f.most]
def Fld.ok (f : Fld) : Bool := decide (0 ≤ f.n ∧ f.n ≤ f.most)

theorem below_drew_ {B : Nat} {w w1 : World} (h : Below B w w1) : Below B w w1.drew := ⟨h.os, h.tape, h.output, h.size, h.block⟩
theorem find_fields (a b : Int) (w : World) : Calls Try.prog 60 #[.agg #[.int .i64 a, .int .i64 b]] w fun e w' => ∃ g, e = .returned (.slice (some ⟨g, 0, none⟩) 2 2) ∧ w.heap.size ≤ g ∧ Blk w' g 78 (([⟨1, a, 63⟩, ⟨1, b, 63⟩] : List Fld).flatMap Fld.cs).toArray ∧ Below w.heap.size w w' := by
  have hb : Below w.heap.size w (w.alloc (.cells #[.int .i64 a, .int .i64 b] 86)) := (Below.refl _ w).alloc (Nat.le_refl _) _
  have hx : Blk (w.alloc (.cells #[.int .i64 a, .int .i64 b] 86)) w.heap.size 86 #[.int .i64 a, .int .i64 b] := Blk.new w _ _
  have HB := Lib.hid hb
  have HX := Lib.hid hx
  clear hb hx
  go_enter Try.func60, Try.ntmps60
  go_wp2
  generalize hw1 : w.alloc (.cells #[.int .i64 a, .int .i64 b] 86) = w1 at HB HX ⊢
  clear hw1
  refine wp_region_seq [(0, true), (1, true), (3, true), (4, true), (2, false), (5, false), (6, false), (7, true)] (fun w' => w'.cell? ⟨w.heap.size, 0, none⟩ = some (.int .i64 a) ∧ w'.cell? ⟨w.heap.size, 1, none⟩ = some (.int .i64 b)) (by kernel_rfl) (by kernel_rfl) ⟨HX.out.drew.cell 0, HX.out.drew.cell 1⟩ (fun hHeld => ?_)
  simp only [List.map_cons, List.map_nil, List.getElem?_toArray, List.getElem?_cons_zero, List.getElem?_cons_succ]
  repeat (first | (refine seq_skip (by rfl) ?_; try simp only [Act.put, List.setIfInBounds_toArray, List.set_cons_zero, List.set_cons_succ]) | (refine seq_not (by rfl) (by assumption) ?_; try simp only [Act.put, List.setIfInBounds_toArray, List.set_cons_zero, List.set_cons_succ]) | (refine seq_take (v := ?_) (by rfl) ?_ ?_; rotate_left; (focus ((intro w hSw; (try dsimp only at hSw); go_simp; (try with_reducible rfl)); done)); try simp only [Act.put, List.setIfInBounds_toArray, List.set_cons_zero, List.set_cons_succ]))
  refine seq_do (fun K hK => ?_)
  go_simp
  go_at_call 51
  with_reducible refine Calls.mono (node_ok _ _) ?_
  rintro e w2 ⟨rfl, hb⟩
  have HX2 := Lib.hid (HX.out.drew.keeps hb)
  dsimp only
  refine hK.out _ _ ⟨HX2.out.cell 0, HX2.out.cell 1⟩ (fun hHeld => ?_)
  clear hK K
  have HB2 := Lib.hid ((below_drew_ HB.out).trans (hb.mono HB.out.size))
  clear hb
  refine seq_do (fun K hK => ?_)
  go_simp
  go_at_call 56
  with_reducible refine Calls.mono (hops_ok _ _) ?_
  rintro e w3 ⟨rfl, hb⟩
  have HX3 := Lib.hid (HX2.out.keeps hb)
  dsimp only
  refine hK.out _ _ ⟨HX3.out.cell 0, HX3.out.cell 1⟩ (fun hHeld => ?_)
  clear hK K
  have HB3 := Lib.hid (HB2.out.trans (hb.mono HB2.out.size))
  clear hb
  refine seq_do (fun K hK => ?_)
  go_simp
  refine hK.out _ _ ⟨(HX3.out.alloc _).cell 0, (HX3.out.alloc _).cell 1⟩ (fun hHeld => ?_)
  clear hK K
  repeat (first | (refine seq_skip (by rfl) ?_; try simp only [Act.put, List.setIfInBounds_toArray, List.set_cons_zero, List.set_cons_succ]) | (refine seq_not (by rfl) (by assumption) ?_; try simp only [Act.put, List.setIfInBounds_toArray, List.set_cons_zero, List.set_cons_succ]) | (refine seq_take (v := ?_) (by rfl) ?_ ?_; rotate_left; (focus ((intro w hSw; (try dsimp only at hSw); go_simp; (try with_reducible rfl)); done)); try simp only [Act.put, List.setIfInBounds_toArray, List.set_cons_zero, List.set_cons_succ]))
  refine seq_done ?_
  have hs := HB3.out.size
  go_wp2
  go_ret
  exact ⟨w3.heap.size, rfl, hs, Blk.new _ _ _, HB3.out.alloc hs _⟩

theorem fd_at : ∀ (fs : List Fld) (k : Nat) (f : Fld), fs[k]? = some f → ∀ (i : Nat) (u : Value), f.cs[i]? = some u → (fs.flatMap Fld.cs)[k * 3 + i]? = some u
  | [], k, f, h => by simp at h
  | y :: l, 0, f, h => by
    intro i u hu
    simp only [List.getElem?_cons_zero, Option.some.injEq] at h
    subst h
    have hi : i < y.cs.length := (List.getElem?_eq_some_iff.1 hu).1
    rw [List.flatMap_cons, Nat.zero_mul, Nat.zero_add, List.getElem?_append_left hi]
    exact hu
  | y :: l, k + 1, f, h => by
    intro i u hu
    rw [List.getElem?_cons_succ] at h
    rw [List.flatMap_cons, List.getElem?_append_right (by simp [Fld.cs]; omega), show (k + 1) * 3 + i - y.cs.length = k * 3 + i by simp [Fld.cs]; omega]
    exact fd_at l k f h i u hu
theorem all_take_succ (fs : List Fld) (k : Nat) (f : Fld) (h : fs[k]? = some f) : (fs.take (k + 1)).all Fld.ok = ((fs.take k).all Fld.ok && f.ok) := by
  rw [List.take_add_one, h]
  simp

set_option maxHeartbeats 800000 in
theorem good_of (T F : Nat) (v : Value) (kd : Int) (fs : List Fld) (w : World) (hk0 : (kd == 0) = false)
    (hK : ∀ w, Calls Try.prog 32 #[.iface T v] w fun e w' => e = .returned (.int .u8 kd) ∧ w = w')
    (hm : ∀ w, (method 209 T v "angelus/frame.fields").run Try.prog w = .ok (F, v) w) (hc : ∀ w, (callFunc F #[v]).run Try.prog w = .ok (.enter F #[v]) w)
    (hF : ∀ w, Calls Try.prog F #[v] w fun e w' => ∃ g, e = .returned (.slice (some ⟨g, 0, none⟩) fs.length fs.length) ∧ w.heap.size ≤ g ∧ Blk w' g 78 (fs.flatMap Fld.cs).toArray ∧ Below w.heap.size w w')
    (hl : fs.length ≤ 100) :
    Calls Try.prog 28 #[.iface T v] w fun e w' => e = .returned (.bool (fs.all Fld.ok)) ∧ Below w.heap.size w w' := by
  have HK := Lib.hid hK
  have HF := Lib.hid hF
  clear hK hF
  go_enter Try.func28, Try.ntmps28
  go_wp2_with (first
    | (go_at_call 32; with_reducible refine Calls.mono (HK.out _) ?_; rintro e w1 ⟨rfl, rfl⟩)
    | (with_reducible refine Calls.mono (HF.out _) ?_; rintro e w1 ⟨g, rfl, hg, hb, hw⟩; have HB := Lib.hid hb; have HW := Lib.hid hw; clear hb hw))
  go_loopw [4, 11] (fun _ i wr => ∃ k : Nat, k ≤ fs.length ∧ i = .int .i64 k ∧ (fs.take k).all Fld.ok = true ∧ Blk wr g 78 (fs.flatMap Fld.cs).toArray ∧ Below w.heap.size w wr) (fun _ i _ => fs.length - (intOf i).toNat)
  case atStart => exact ⟨0, Nat.zero_le _, rfl, by simp, HB.out, HW.out⟩
  case round =>
    obtain ⟨k, hk, rfl, ha, hb, hw⟩ := hrel
    have HA := Lib.hid ha
    have HB1 := Lib.hid hb
    have HW1 := Lib.hid hw
    clear ha
    by_cases hlt : k < fs.length
    · obtain ⟨f, hf⟩ : ∃ f, fs[k]? = some f := ⟨_, List.getElem?_eq_getElem hlt⟩
      have x0 : wr.cell? ⟨g, k * 3, none⟩ = some (.int .i64 f.size) := by
        have h := fd_at fs k f hf 0 _ rfl
        rw [Nat.add_zero] at h
        have := hb.cell (k * 3)
        rw [List.getElem?_toArray, h] at this
        exact this
      have x1 : wr.cell? ⟨g, k * 3 + 1, none⟩ = some (.int .i64 f.n) := by
        have := hb.cell (k * 3 + 1)
        rw [List.getElem?_toArray, fd_at fs k f hf 1 _ rfl] at this
        exact this
      have x2 : wr.cell? ⟨g, k * 3 + 2, none⟩ = some (.int .i64 f.most) := by
        have := hb.cell (k * 3 + 2)
        rw [List.getElem?_toArray, fd_at fs k f hf 2 _ rfl] at this
        exact this
      have HT := Lib.hid (all_take_succ fs k f hf)
      have HF2 := Lib.hid hf
      have HBN := Lib.hid (fun o => HB1.out.alloc o)
      have HWN := Lib.hid (fun o => HW1.out.alloc HW1.out.size o)
      clear hb hw hf
      obtain ⟨fz, fn, fm⟩ := f
      simp only at x0 x1 x2
      by_cases hok : Fld.ok ⟨fz, fn, fm⟩ = true
      · have hok2 : 0 ≤ fn ∧ fn ≤ fm := of_decide_eq_true hok
        have HOK := Lib.hid hok
        obtain ⟨h0, h1⟩ := hok2
        clear hok
        go_wp2
        go_roundw
        case rel => exact ⟨k + 1, hlt, by go_num, by rw [HT.out, HA.out, HOK.out]; rfl, HBN.out _, HWN.out _⟩
        case measure => simp [intOf]; omega
      · have hno : fs.all Fld.ok = false := by
          rw [List.all_eq_false]
          exact ⟨_, List.mem_of_getElem? HF2.out, hok⟩
        have hok2 : ¬ (0 ≤ fn ∧ fn ≤ fm) := fun h => hok (decide_eq_true h)
        have HNO := Lib.hid hno
        clear hok hno
        by_cases h0 : fn < 0
        · clear hok2
          go_wp2
          go_ret
          exact ⟨by rw [HNO.out]; rfl, HWN.out _⟩
        · have h1 : fm < fn := by omega
          clear hok2
          go_wp2
          go_ret
          exact ⟨by rw [HNO.out]; rfl, HWN.out _⟩
    · have hall : fs.all Fld.ok = true := by
        have := HA.out
        rwa [List.take_of_length_le (by omega)] at this
      have HALL := Lib.hid hall
      clear hall
      go_wp2
      go_ret
      exact ⟨by rw [HALL.out]; rfl, HW1.out⟩

theorem good_find (a b : Int) (w : World) : Calls Try.prog 28 #[.iface 86 (.agg #[.int .i64 a, .int .i64 b])] w fun e w' => e = .returned (.bool (([⟨1, a, 63⟩, ⟨1, b, 63⟩] : List Fld).all Fld.ok)) ∧ Below w.heap.size w w' :=
  good_of 86 60 _ 2 [⟨1, a, 63⟩, ⟨1, b, 63⟩] w rfl (kind_find _) (fun _ => by kernel_rfl) (fun _ => by kernel_rfl) (find_fields a b) (by simp)
theorem time_ok (n : Int) (w : World) : Calls Try.prog 52 #[.int .i64 n] w fun e w' => e = .returned (.agg #[.int .i64 8, .int .i64 n, .int .i64 1125899906842624]) ∧ Below w.heap.size w w' := by
  go_enter Try.func52, Try.ntmps52
  go_wp2
  exact bodyPost_ret (v := .agg #[.int .i64 8, .int .i64 n, .int .i64 1125899906842624]) (by simp [results, Try.results52, go_sem]) rfl ⟨rfl, (Below.refl _ _).alloc (Nat.le_refl _) _⟩
theorem asp_sync (v : Value) (w : World) : (Instr.typeAssert (.iface 36 v) 73 84 true).run Try.prog w = .ok (.tuple #[.agg #[.int .i64 0, .int .i64 0, .int .u16 0, .int .u16 0, .int .i64 0, .int .i64 0], .bool false]) w := by kernel_rfl
theorem asp_find (v : Value) (w : World) : (Instr.typeAssert (.iface 36 v) 73 86 true).run Try.prog w = .ok (.tuple #[.agg #[.int .i64 0, .int .i64 0], .bool false]) w := by kernel_rfl
theorem asp_want (v : Value) (w : World) : (Instr.typeAssert (.iface 36 v) 73 88 true).run Try.prog w = .ok (.tuple #[.agg #[.int .i64 0], .bool false]) w := by kernel_rfl
theorem asp_pulse (v : Value) (w : World) : (Instr.typeAssert (.iface 36 v) 73 36 true).run Try.prog w = .ok (.tuple #[v, .bool true]) w := by kernel_rfl
theorem kind_pulse (v : Value) (w : World) : Calls Try.prog 32 #[.iface 36 v] w fun e w' => e = .returned (.int .u8 4) ∧ w = w' := by
  have a1 := asp_sync
  have a2 := asp_find
  have a3 := asp_want
  have a4 := asp_pulse
  go_enter Try.func32, Try.ntmps32
  go_wp2
  go_ret
  exact ⟨rfl, rfl⟩
theorem pulse_fields (a b c : Int) (w : World) : Calls Try.prog 50 #[.agg #[.int .i64 a, .int .i64 b, .int .i64 c]] w fun e w' => ∃ g, e = .returned (.slice (some ⟨g, 0, none⟩) 3 3) ∧ w.heap.size ≤ g ∧ Blk w' g 78 (([⟨1, a, 63⟩, ⟨1, b, 63⟩, ⟨8, c, 1125899906842624⟩] : List Fld).flatMap Fld.cs).toArray ∧ Below w.heap.size w w' := by
  have hb : Below w.heap.size w (w.alloc (.cells #[.int .i64 a, .int .i64 b, .int .i64 c] 36)) := (Below.refl _ w).alloc (Nat.le_refl _) _
  have hx : Blk (w.alloc (.cells #[.int .i64 a, .int .i64 b, .int .i64 c] 36)) w.heap.size 36 #[.int .i64 a, .int .i64 b, .int .i64 c] := Blk.new w _ _
  have HB := Lib.hid hb
  have HX := Lib.hid hx
  clear hb hx
  go_enter Try.func50, Try.ntmps50
  go_wp2
  generalize hw1 : w.alloc (.cells #[.int .i64 a, .int .i64 b, .int .i64 c] 36) = w1 at HB HX ⊢
  clear hw1
  have HX := Lib.hid HX.out.drew
  have HB := Lib.hid (below_drew_ HB.out)
  refine wp_region_seq [(0, true), (1, true), (3, true), (4, true), (6, true), (7, true), (2, false), (5, false), (8, false), (9, false), (10, true)] (fun w' => w'.cell? ⟨w.heap.size, 0, none⟩ = some (.int .i64 a) ∧ w'.cell? ⟨w.heap.size, 1, none⟩ = some (.int .i64 b) ∧ w'.cell? ⟨w.heap.size, 2, none⟩ = some (.int .i64 c)) (by kernel_rfl) (by kernel_rfl) ⟨HX.out.cell 0, HX.out.cell 1, HX.out.cell 2⟩ (fun hHeld => ?_)
  simp only [List.map_cons, List.map_nil, List.getElem?_toArray, List.getElem?_cons_zero, List.getElem?_cons_succ]
  repeat (first | (first | (refine seq_skip (by rfl) ?_; try simp only [Act.put, List.setIfInBounds_toArray, List.set_cons_zero, List.set_cons_succ]) | (refine seq_not (by rfl) (by assumption) ?_; try simp only [Act.put, List.setIfInBounds_toArray, List.set_cons_zero, List.set_cons_succ]) | (refine seq_take (v := ?_) (by rfl) ?_ ?_; rotate_left; (focus ((intro w hSw; (try dsimp only at hSw); go_simp; (try with_reducible rfl)); done)); try simp only [Act.put, List.setIfInBounds_toArray, List.set_cons_zero, List.set_cons_succ])) | (refine seq_do (fun K hK => ?_); go_simp; (first | (go_at_call 51; (with_reducible refine Calls.mono (node_ok _ _) ?_)) | (go_at_call 52; (with_reducible refine Calls.mono (time_ok _ _) ?_))); rintro e w2 ⟨rfl, hb⟩; have HX := Lib.hid (HX.out.keeps hb); have HB := Lib.hid (HB.out.trans (hb.mono HB.out.size)); clear hb; dsimp only; refine hK.out _ _ ⟨HX.out.cell 0, HX.out.cell 1, HX.out.cell 2⟩ (fun hHeld => ?_); clear hK K))
  refine seq_do (fun K hK => ?_)
  go_simp
  refine hK.out _ _ ⟨(HX.out.alloc _).cell 0, (HX.out.alloc _).cell 1, (HX.out.alloc _).cell 2⟩ (fun hHeld => ?_)
  clear hK K
  repeat (first | (refine seq_skip (by rfl) ?_; try simp only [Act.put, List.setIfInBounds_toArray, List.set_cons_zero, List.set_cons_succ]) | (refine seq_not (by rfl) (by assumption) ?_; try simp only [Act.put, List.setIfInBounds_toArray, List.set_cons_zero, List.set_cons_succ]) | (refine seq_take (v := ?_) (by rfl) ?_ ?_; rotate_left; (focus ((intro w hSw; (try dsimp only at hSw); go_simp; (try with_reducible rfl)); done)); try simp only [Act.put, List.setIfInBounds_toArray, List.set_cons_zero, List.set_cons_succ]))
  refine seq_done ?_
  have hs := HB.out.size
  go_wp2
  go_ret
  exact ⟨_, rfl, hs, Blk.new _ _ _, HB.out.alloc hs _⟩
theorem good_pulse (a b c : Int) (w : World) : Calls Try.prog 28 #[.iface 36 (.agg #[.int .i64 a, .int .i64 b, .int .i64 c])] w fun e w' => e = .returned (.bool (([⟨1, a, 63⟩, ⟨1, b, 63⟩, ⟨8, c, 1125899906842624⟩] : List Fld).all Fld.ok)) ∧ Below w.heap.size w w' :=
  good_of 36 50 _ 4 [⟨1, a, 63⟩, ⟨1, b, 63⟩, ⟨8, c, 1125899906842624⟩] w rfl (kind_pulse _) (fun _ => by kernel_rfl) (fun _ => by kernel_rfl) (pulse_fields a b c) (by simp)
end Go.Proofs.Ythnnejflgbminab.Frm
