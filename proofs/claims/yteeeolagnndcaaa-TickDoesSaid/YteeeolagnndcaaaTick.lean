/- The walks of tick's functions: what each does to a clock's block. -/
import Derived.Test.YteeeolagnndcaaaChecked
import Derived.Test.YteeeolagnndcaaaBk
import Derived.Deep.QuietTactic
import Derived.BigQuiet
import Derived.WalkLawsBesides
import Derived.WalkSpells
import Derived.Lib.Hide
namespace Go.Proofs.Yteeeolagnndcaaa.Tick
open Go.RowKit Go.Proofs.Yteeeolagnndcaaa.Bk

/-- A clock at block p. -/
def Clk (w : World) (p : Nat) (d c n : Int) : Prop := Blk w p 45 #[.int .i64 d, .int .u32 c, .int .i64 n]

theorem new_ok (d : Int) (w : World) (h0 : 0 ≤ d) (h1 : d ≤ 10) :
    Calls Try.prog 7 #[.int .i64 d] w fun e w' => e = .returned (.tuple #[.pointer (some ⟨w.heap.size, 0, none⟩), .int .i64 0]) ∧ w' = w.alloc (.cells #[.int .i64 d, .int .u32 0, .int .i64 0] 45) := by
  go_enter Try.func7, Try.ntmps7
  go_wp2
  go_ret2
  exact ⟨rfl, rfl⟩

theorem boot_ok (p : Nat) (d c n raw : Int) (w : World) (hb : Clk w p d c n) (h0 : 0 ≤ raw) (h1 : raw ≤ 4294967295) :
    Calls Try.prog 8 #[.pointer (some ⟨p, 0, none⟩), .int .u32 raw] w fun e w' => e = .returned (.tuple #[]) ∧ Clk w' p d raw raw ∧ w.grownBy w' (some p) := by
  have H := Lib.hid hb
  have c1 : w.cell? ⟨p, 1, none⟩ = some (.int .u32 c) := hb.cell 1
  have c2 : w.cell? ⟨p, 2, none⟩ = some (.int .i64 n) := hb.cell 2
  have f1 := hb.frozen 1
  have f2 := hb.frozen 2
  clear hb
  go_enter Try.func8, Try.ntmps8
  go_wp2
  go_end0
  exact ⟨rfl, ((H.out : Clk w p d c n).set_ 1 (.int .u32 raw)).set_ 2 (.int .i64 raw), turned_set (turned_set (turned_refl w _) _ _) _ _⟩

theorem now_ok (p : Nat) (d c n : Int) (w : World) (hb : Clk w p d c n) :
    Calls Try.prog 11 #[.pointer (some ⟨p, 0, none⟩)] w fun e w' => e = .returned (.int .i64 n) ∧ w = w' := by
  have c2 : w.cell? ⟨p, 2, none⟩ = some (.int .i64 n) := hb.cell 2
  clear hb
  go_enter Try.func11, Try.ntmps11
  go_wp2
  go_ret
  exact ⟨rfl, rfl⟩
theorem counter_ok (p : Nat) (d c n : Int) (w : World) (hb : Clk w p d c n) :
    Calls Try.prog 12 #[.pointer (some ⟨p, 0, none⟩)] w fun e w' => e = .returned (.int .u32 c) ∧ w = w' := by
  have c2 : w.cell? ⟨p, 1, none⟩ = some (.int .u32 c) := hb.cell 1
  clear hb
  go_enter Try.func12, Try.ntmps12
  go_wp2
  go_ret
  exact ⟨rfl, rfl⟩

def fits (d t : Int) : Bool := decide (1000 - d ≤ t ∧ t ≤ 1000 + d)
theorem fits_ok (p : Nat) (d c n t : Int) (w : World) (hb : Clk w p d c n) (h0 : 0 ≤ d) (h1 : d ≤ 10) :
    Calls Try.prog 10 #[.pointer (some ⟨p, 0, none⟩), .int .i64 t] w fun e w' => e = .returned (.bool (fits d t)) ∧ w = w' := by
  have c2 : w.cell? ⟨p, 0, none⟩ = some (.int .i64 d) := hb.cell 0
  clear hb
  unfold fits
  by_cases a : 1000 - d ≤ t
  · go_enter Try.func10, Try.ntmps10
    go_wp2
    go_ret
    exact ⟨by simp [a], rfl⟩
  · go_enter Try.func10, Try.ntmps10
    go_wp2
    go_ret
    exact ⟨by simp; omega, rfl⟩

/-- The time that a counter shows. -/
def ext (last raw : Int) : Int := last + (raw - last) % 4294967296
theorem extend_ok (last raw : Int) (w : World) (h0 : 0 ≤ last) (h1 : last ≤ 1125899906842624) (h2 : ext last raw ≤ 1125899906842624) :
    Calls Try.prog 14 #[.int .i64 last, .int .u32 raw] w fun e w' => e = .returned (.tuple #[.int .i64 (ext last raw), .bool true]) ∧ w = w' := by
  unfold ext at h2 ⊢
  go_enter Try.func14, Try.ntmps14
  go_wp2
  go_ret2
  exact ⟨rfl, rfl⟩

theorem go_no (p : Nat) (d c n t : Int) (w : World) (hb : Clk w p d c n) (h0 : 0 ≤ d) (h1 : d ≤ 10) (hf : fits d t = false) :
    Calls Try.prog 9 #[.pointer (some ⟨p, 0, none⟩), .int .i64 t] w fun e w' => e = .returned (.int .i64 1) ∧ w = w' := by
  have H := Lib.hid hb
  clear hb
  go_enter Try.func9, Try.ntmps9
  go_wp2_with (go_at_call 10; refine (fits_ok p d c n t _ H.out h0 h1).mono ?_; rintro e w' ⟨rfl, rfl⟩)
  go_ret
  exact ⟨rfl, rfl⟩

theorem go_yes (p : Nat) (d n t : Int) (w : World) (hb : Clk w p d (n % 4294967296) n) (h0 : 0 ≤ d) (h1 : d ≤ 10) (hf : fits d t = true) (hn : 0 ≤ n) (hn1 : n ≤ 1000000000000000) :
    Calls Try.prog 9 #[.pointer (some ⟨p, 0, none⟩), .int .i64 t] w fun e w' => e = .returned (.int .i64 0) ∧ Clk w' p d ((n + t) % 4294967296) (n + t) ∧ w.grownBy w' (some p) := by
  have hft : 1000 - d ≤ t ∧ t ≤ 1000 + d := of_decide_eq_true hf
  have c1 : w.cell? ⟨p, 1, none⟩ = some (.int .u32 (n % 4294967296)) := hb.cell 1
  have c2 : w.cell? ⟨p, 2, none⟩ = some (.int .i64 n) := hb.cell 2
  have f1 := hb.frozen 1
  have f2 := hb.frozen 2
  have H := Lib.hid hb
  clear hb
  go_enter Try.func9, Try.ntmps9
  go_wp2_with (go_at_call 10; refine (fits_ok p d _ n t _ H.out h0 h1).mono ?_; rintro e w' ⟨rfl, rfl⟩)
  go_quiet ((go_at_call 14; exact Calls.quiet_of_same (sym (extend_ok _ _ _ (by omega) (by omega) (by unfold ext; omega)))))
  go_wp2
  go_ret
  refine ⟨rfl, ?_, ?_⟩
  · have h1 := (((H.out : Clk w p d (n % 4294967296) n).drewN nq).set_ 1 (.int .u32 ((n + t) % 4294967296))).set_ 2 (.int .i64 (n + t))
    have he : ext n ((n + t) % 4294967296) = n + t := by unfold ext; omega
    rw [he]
    exact h1
  · exact turned_set (turned_set (turned_drewN (turned_refl w _) _) _ _) _ _

theorem alive_ok (w : World) : Calls Try.prog 6 #[] w fun e w' => e = .returned (.bool true) ∧ Below w.heap.size w w' := by
  go_enter Try.func6, Try.ntmps6
  go_wp2_with fail
  refine (new_ok 3 _ (by omega) (by omega)).mono ?_
  rintro e w1 ⟨rfl, rfl⟩
  have hc0 : Clk (w.alloc (.cells #[.int .i64 3, .int .u32 0, .int .i64 0] 45)) w.heap.size 3 0 0 := Blk.new _ _ _
  have hb0 : Below w.heap.size w (w.alloc (.cells #[.int .i64 3, .int .u32 0, .int .i64 0] 45)) := (Below.refl _ _).alloc (Nat.le_refl _) _
  generalize w.alloc (.cells #[.int .i64 3, .int .u32 0, .int .i64 0] 45) = w1 at hc0 hb0
  have H0 := Lib.hid hc0
  have B0 := Lib.hid hb0
  clear hc0 hb0
  go_wp2_with fail
  refine (boot_ok _ 3 _ _ 4294967295 _ H0.out (by omega) (by omega)).mono ?_
  rintro e w2 ⟨rfl, hc, hg⟩
  have H1 := Lib.hid hc
  have B1 := Lib.hid (below_turned B0.out B0.out.size hg (Nat.le_refl _))
  clear hc hg H0 B0
  go_wp2_with fail
  refine (go_yes _ 3 4294967295 1000 _ (by exact H1.out) (by omega) (by omega) (by decide) (by omega) (by omega)).mono ?_
  rintro e w3 ⟨rfl, hc, hg⟩
  have H2 : Hid (Clk w3 w.heap.size 3 999 4294968295) := hc
  have B2 := Lib.hid (below_turned B1.out B1.out.size hg (Nat.le_refl _))
  clear hc hg H1 B1
  go_wp2_with (first | (go_at_call 12; refine (counter_ok _ _ _ _ _ H2.out).mono ?_; rintro e w' ⟨rfl, rfl⟩) | (go_at_call 11; refine (now_ok _ _ _ _ _ H2.out).mono ?_; rintro e w' ⟨rfl, rfl⟩) | (go_at_call 10; refine (fits_ok _ 3 _ _ _ _ H2.out (by omega) (by omega)).mono ?_; rintro e w' ⟨rfl, rfl⟩))
  go_ret
  refine ⟨?_, B2.out⟩
  show Ending.returned (.bool (!fits 3 1004)) = _
  rw [show fits 3 1004 = false by decide]
  rfl
end Go.Proofs.Yteeeolagnndcaaa.Tick
