/- The walk of alive (24). -/
import Derived.Test.YtlaolclepmbdjaaEvt
namespace Go.Proofs.Ytlaolclepmbdjaa.Evt
open Go.RowKit Go.Proofs.Ytlaolclepmbdjaa.Bk Go.Proofs.Ytlaolclepmbdjaa.Rw Go.Proofs.Ytlaolclepmbdjaa.Ow Go.Proofs.Ytlaolclepmbdjaa.Kp Go.Proofs.Ytlaolclepmbdjaa.Evr Go.Proofs.Ytlaolclepmbdjaa.Label

theorem lab_door : Lab ⟨#[100, 111, 111, 114]⟩ = true := by decide
theorem lab_no : Lab ⟨#[68, 111, 111, 114]⟩ = false := by decide
def eDoor : Ev := ⟨1, ⟨#[100, 111, 111, 114]⟩, 5, 7, 0, 0, 0, 0⟩
theorem alive_ok (w : World) :
    Calls Try.prog 6 #[] w fun e w' => e = .returned (.bool true) ∧ Below w.heap.size w w' := by
  have D := Lib.hid (show ∀ l p g (w : World), Lg w l p g [] 0 → Calls Try.prog 11 #[.pointer (some ⟨l, 0, none⟩), .string ⟨#[100, 111, 111, 114]⟩, .int .i64 5, .agg #[.int .i64 7, .int .i64 0, .int .i64 0, .int .u16 0, .int .i64 0]] w fun x w' => x = .returned (.tuple #[.int .i64 1, .int .i64 0]) ∧ Lg w' l p g [eDoor] 1 ∧ Kp (fun k => k = l ∨ k = p ∨ k = g) w w' from fun l p g w h => tag_ok l p g 0 [] _ (by decide) lab_door 5 7 0 0 0 0 w h (by decide) (by decide))
  go_enter Try.func6, Try.ntmps6
  go_wp2_with (first
    | (go_at_call 9; with_reducible refine Calls.mono (log_new _) ?_; rintro e w1 ⟨l, p, g, rfl, hL, hl, hp, hg, hb⟩; have HL := Lib.hid hL; have HB := Lib.hid hb; clear hL hb)
    | (go_at_call 11; with_reducible refine Calls.mono (D.out l p g _ HL.out) ?_; rintro e w2 ⟨rfl, hL, hk⟩; have HL2 := Lib.hid hL; have HB2 := Lib.hid (below_kp HB.out HB.out.size hk (fun k hk => by omega)); clear hL hk)
    | (go_at_call 11; with_reducible refine Calls.mono (tag_bad l _ (by decide) lab_no _ _ _ _ _ _ _) ?_; rintro e w3 ⟨rfl, hb⟩; have HL3 := Lib.hid (HL2.out.below hb); have HB3 := Lib.hid (HB2.out.trans (hb.mono HB2.out.size)); clear hb)
    | (go_at_call 10; with_reducible refine Calls.mono (take_ok l p g 1 eDoor [] _ HL3.out) ?_; rintro e w4 ⟨rfl, hL, hk⟩; have HB4 := Lib.hid (below_kp HB3.out HB3.out.size hk (fun k hk => by omega)); clear hL hk; dsimp only [eDoor, Ev.v]))
  go_ret
  exact ⟨rfl, HB4.out.alloc HB4.out.size _⟩
end Go.Proofs.Ytlaolclepmbdjaa.Evt
