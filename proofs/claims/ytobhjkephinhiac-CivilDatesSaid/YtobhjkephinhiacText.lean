/- The walk of Text. -/
import Derived.Test.YtobhjkephinhiacCivil
namespace Go.Proofs.Ytobhjkephinhiac.Civil
open Go.RowKit Go.Proofs.Ytobhjkephinhiac.Bk Go.Proofs.Ytobhjkephinhiac.Rw Go.Proofs.Ytobhjkephinhiac.Ow Go.Proofs.Ytobhjkephinhiac.Kp Go.Proofs.Ytobhjkephinhiac.Str

theorem text_no (y m d : Int) (w : World) (hg : gd y m d = false) :
    Calls Try.prog 11 #[date y m d] w fun e w' => e = .returned (.string ByteArray.empty) ∧ Below w.heap.size w w' := by
  have HA := Lib.hid ((Below.refl w.heap.size w).alloc (Nat.le_refl _) (.cells #[.int .i64 y, .int .i64 m, .int .i64 d] 24))
  have HG := Lib.hid (fun w => good_ok y m d w)
  rw [hg] at HG
  clear hg
  unfold date at HG ⊢
  go_enter Try.func11, Try.ntmps11
  go_wp2_with fail
  refine (HG.out _).mono ?_
  rintro e w2 ⟨rfl, hb⟩
  have HB := Lib.hid (HA.out.trans (hb.mono (by simp)))
  clear hb
  go_wp2
  go_ret
  exact ⟨rfl, HB.out⟩
/-- A date's text. -/
def tx (y m d : Int) : List Int := digs y 4 ++ [45] ++ digs m 2 ++ [45] ++ digs d 2
theorem below_drew_ {B : Nat} {w w1 : World} (h : Below B w w1) : Below B w w1.drew := ⟨h.os, h.tape, h.output, h.size, h.block⟩
theorem str_size (l : List Int) : (str l).size = l.length := by
  unfold str
  have h := str_data l ByteArray.empty
  have : (l.foldl (fun r n => r.push (UInt8.ofNat n.toNat)) ByteArray.empty).data.size = l.length := by
    rw [h]
    simp
  exact this
theorem str_append (l m : List Int) : str l ++ str m = str (l ++ m) := by
  apply ByteArray.ext
  unfold str
  rw [ByteArray.data_append, str_data, str_data, str_data]
  simp
theorem str_dash : str [45] = { data := #[45] } := by decide
theorem step3 {W w1 w3 : World} {g : Nat} {y m d : Int} (hb : Below w1.heap.size w1 w3) (h : Blk w1 g 24 #[.int .i64 y, .int .i64 m, .int .i64 d]) (k : Below g W w1) :
    Hid (Blk w3 g 24 #[.int .i64 y, .int .i64 m, .int .i64 d]) ∧ Hid (Below g W w3) ∧ (w3.cell? ⟨g, 0, none⟩ = some (.int .i64 y) ∧ w3.cell? ⟨g, 1, none⟩ = some (.int .i64 m) ∧ w3.cell? ⟨g, 2, none⟩ = some (.int .i64 d)) :=
  ⟨Lib.hid (h.keeps hb), Lib.hid (k.trans (hb.mono (Nat.le_of_lt h.lt))), (h.keeps hb).cell 0, (h.keeps hb).cell 1, (h.keeps hb).cell 2⟩
set_option maxHeartbeats 1000000 in
theorem text_ok (y m d : Int) (w : World) (hg : gd y m d = true) :
    Calls Try.prog 11 #[date y m d] w fun e w' => e = .returned (.string (str (tx y m d))) ∧ Below w.heap.size w w' := by
  have HA := Lib.hid ((Below.refl w.heap.size w).alloc (Nat.le_refl _) (.cells #[.int .i64 y, .int .i64 m, .int .i64 d] 24))
  have HG := Lib.hid (fun w => good_ok y m d w)
  rw [hg] at HG
  have hgd := of_decide_eq_true hg
  obtain ⟨h0, h1, h2, h3, h4, h5⟩ := hgd
  have hmd := md_bd y m
  clear hg
  have D0 := Lib.hid (show ∀ w, Calls Try.prog 21 #[.int .i64 y, .int .i64 4] w fun e w' => e = .returned (.string (str (digs y 4))) ∧ Below w.heap.size w w' from fun w => digits_ok y 4 w (by omega) (by omega) (by omega))
  have D1 := Lib.hid (show ∀ w, Calls Try.prog 21 #[.int .i64 m, .int .i64 2] w fun e w' => e = .returned (.string (str (digs m 2))) ∧ Below w.heap.size w w' from fun w => digits_ok m 2 w (by omega) (by omega) (by omega))
  have D2 := Lib.hid (show ∀ w, Calls Try.prog 21 #[.int .i64 d, .int .i64 2] w fun e w' => e = .returned (.string (str (digs d 2))) ∧ Below w.heap.size w w' from fun w => digits_ok d 2 w (by omega) (by omega) (by omega))
  unfold date at HG ⊢
  go_enter Try.func11, Try.ntmps11
  go_wp2_with fail
  refine (HG.out _).mono ?_
  rintro e w2 ⟨rfl, hb⟩
  have HB := Lib.hid (HA.out.trans (hb.mono (by simp)))
  have hbk : Blk w2 w.heap.size 24 #[.int .i64 y, .int .i64 m, .int .i64 d] := Blk.keeps (Blk.new _ _ _) hb
  have HBK := Lib.hid hbk
  have c0 : w2.cell? ⟨w.heap.size, 0, none⟩ = some (.int .i64 y) ∧ w2.cell? ⟨w.heap.size, 1, none⟩ = some (.int .i64 m) ∧ w2.cell? ⟨w.heap.size, 2, none⟩ = some (.int .i64 d) := ⟨hbk.cell 0, hbk.cell 1, hbk.cell 2⟩
  clear hb HA HG hbk
  generalize hgq : w.heap.size = g at *
  have s0 : (str (digs y 4)).size = 4 := by rw [str_size, digs_length]
  have s1 : (str (digs m 2)).size = 2 := by rw [str_size, digs_length]
  have s2 : (str (digs d 2)).size = 2 := by rw [str_size, digs_length]
  go_wp2
  go_region_held3 (fun w' => w'.cell? ⟨g, 0, none⟩ = some (.int .i64 y) ∧ w'.cell? ⟨g, 1, none⟩ = some (.int .i64 m) ∧ w'.cell? ⟨g, 2, none⟩ = some (.int .i64 d)) (first | assumption | go_keep) (first | (go_at_call 21; with_reducible refine Calls.mono (D0.out _) ?_; rintro e w3 ⟨rfl, hb⟩; obtain ⟨H3, K3, x3⟩ := step3 (W := w) (g := g) (y := y) (m := m) (d := d) hb (by first | exact HBK.out | exact Blk.drew HBK.out) (by first | exact HB.out | exact below_drew_ HB.out); clear hb) | (go_at_call 21; with_reducible refine Calls.mono (D1.out _) ?_; rintro e w4 ⟨rfl, hb⟩; obtain ⟨H4, K4, x4⟩ := step3 (W := w) (g := g) (y := y) (m := m) (d := d) hb (by first | exact H3.out | exact Blk.drew H3.out) (by first | exact K3.out | exact below_drew_ K3.out); clear hb) | (go_at_call 21; with_reducible refine Calls.mono (D2.out _) ?_; rintro e w5 ⟨rfl, hb⟩; obtain ⟨H5, K5, x5⟩ := step3 (W := w) (g := g) (y := y) (m := m) (d := d) hb (by first | exact H4.out | exact Blk.drew H4.out) (by first | exact K4.out | exact below_drew_ K4.out); clear hb))
  go_wp2
  go_ret
  refine ⟨?_, by rw [hgq]; exact K5.out⟩
  unfold tx
  rw [← str_append, ← str_append, ← str_append, ← str_append, str_dash]
  rfl
end Go.Proofs.Ytobhjkephinhiac.Civil
