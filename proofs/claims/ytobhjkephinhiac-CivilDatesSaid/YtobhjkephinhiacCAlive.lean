/- The check ahead of each of civil's laws. -/
import Derived.Test.YtobhjkephinhiacParseW
import Derived.Test.YtobhjkephinhiacIn
namespace Go.Proofs.Ytobhjkephinhiac.Civil
open Go.RowKit Go.Proofs.Ytobhjkephinhiac.Bk Go.Proofs.Ytobhjkephinhiac.Rw Go.Proofs.Ytobhjkephinhiac.Ow Go.Proofs.Ytobhjkephinhiac.Kp Go.Proofs.Ytobhjkephinhiac.Str

/-- The same as_ 'fits', as_ a word that can be reckoned. -/
def fitsb (s : ByteArray) : Bool := (List.range 10).all fun j => if j = 4 ∨ j = 7 then decide ((bl s)[j]? = some 45) else match (bl s)[j]? with | some x => decide (48 ≤ x ∧ x ≤ 57) | none => false
theorem fits_of {s : ByteArray} (h : fitsb s = true) : fits s 10 := fun j hj => by
  unfold fitsb at h
  have h1 := List.all_eq_true.1 h j (List.mem_range.2 hj)
  constructor
  · intro hn
    rw [if_pos hn] at h1
    exact of_decide_eq_true h1
  · intro hn
    rw [if_neg (by omega)] at h1
    cases hx : (bl s)[j]? with
    | none => rw [hx] at h1; cases h1
    | some x =>
      rw [hx] at h1
      exact ⟨x, rfl, (of_decide_eq_true h1 : 48 ≤ x ∧ x ≤ 57)⟩
def s1 : ByteArray := ⟨#[50, 48, 48, 48, 45, 48, 50, 45, 50, 57]⟩
def s2 : ByteArray := ⟨#[49, 57, 48, 48, 45, 48, 50, 45, 50, 57]⟩
theorem parse1 (w : World) : Calls Try.prog 9 #[.string ⟨#[50, 48, 48, 48, 45, 48, 50, 45, 50, 57]⟩] w fun e w' => e = .returned (.tuple #[.agg #[.int .i64 2000, .int .i64 2, .int .i64 29], .bool true]) ∧ Below w.heap.size w w' := by
  refine (parse_ok s1 w).mono ?_
  rintro e w' ⟨⟨_, h⟩ | ⟨h, _⟩, hb⟩
  · exact ⟨h, hb⟩
  · exact absurd ⟨rfl, fits_of (by decide), by decide⟩ h
theorem parse2 (w : World) : Calls Try.prog 9 #[.string ⟨#[49, 57, 48, 48, 45, 48, 50, 45, 50, 57]⟩] w fun e w' => e = .returned (.tuple #[.agg #[.int .i64 0, .int .i64 0, .int .i64 0], .bool false]) ∧ Below w.heap.size w w' := by
  refine (parse_ok s2 w).mono ?_
  rintro e w' ⟨⟨h, _⟩ | ⟨_, h⟩, hb⟩
  · exact absurd h.2.2 (by decide)
  · exact ⟨h, hb⟩

theorem alive_ok (w : World) : Calls Try.prog 8 #[] w fun e w' => e = .returned (.bool true) ∧ Below w.heap.size w w' := by
  have HNum := Lib.hid (fun w => num_ok 1972 1 1 w (by decide))
  rw [show nm 1972 1 1 = 730 by decide] at HNum
  have HT := Lib.hid (fun w => text_ok 2000 2 29 w (by decide))
  rw [show str (tx 2000 2 29) = ⟨#[50, 48, 48, 48, 45, 48, 50, 45, 50, 57]⟩ by decide] at HT
  unfold date at HNum HT
  go_enter Try.func8, Try.ntmps8
  go_wp2_with fail
  refine (HNum.out _).mono ?_
  rintro e w1 ⟨rfl, hb⟩
  have HB1 := Lib.hid hb
  clear hb
  go_wp2_with fail
  refine (parse1 _).mono ?_
  rintro e w2 ⟨rfl, hb⟩
  have HB2 := Lib.hid (HB1.out.trans (hb.mono HB1.out.size))
  clear hb HB1
  go_wp2_with fail
  refine (parse2 _).mono ?_
  rintro e w3 ⟨rfl, hb⟩
  have HBK := Lib.hid ((Blk.new w2 24 #[.int .i64 2000, .int .i64 2, .int .i64 29]).keeps hb)
  have HB3 := Lib.hid (show Below w.heap.size w w3 from (HB2.out.alloc HB2.out.size _).trans (hb.mono (by have := HB2.out.size; simp; omega)))
  clear hb HB2
  have c0 : ∀ o, (w3.alloc o).cell? ⟨w2.heap.size, 0, none⟩ = some (.int .i64 2000) := fun o => (HBK.out.alloc o).cell 0
  have c1 : ∀ o, (w3.alloc o).cell? ⟨w2.heap.size, 1, none⟩ = some (.int .i64 2) := fun o => (HBK.out.alloc o).cell 1
  have c2 : ∀ o, (w3.alloc o).cell? ⟨w2.heap.size, 2, none⟩ = some (.int .i64 29) := fun o => (HBK.out.alloc o).cell 2
  go_wp2_with (go_at_call 11; with_reducible refine Calls.mono (HT.out _) ?_; rintro e w4 ⟨rfl, hb⟩; have HB4 := Lib.hid (show Below w.heap.size w w4 from (HB3.out.alloc HB3.out.size _).trans (hb.mono (by have := HB3.out.size; simp; omega))); clear hb)
  go_ret
  exact ⟨rfl, HB4.out⟩
end Go.Proofs.Ytobhjkephinhiac.Civil
