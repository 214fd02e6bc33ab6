/- The walk of the reference's Parse, over whatever text. -/
import Derived.Test.YtobhjkephinhiacCivilRef
namespace Go.Proofs.Ytobhjkephinhiac.Civil
open Go.RowKit Go.Proofs.Ytobhjkephinhiac.Bk Go.Proofs.Ytobhjkephinhiac.Rw Go.Proofs.Ytobhjkephinhiac.Ow Go.Proofs.Ytobhjkephinhiac.Kp Go.Proofs.Ytobhjkephinhiac.Str

theorem bl_extract (s : ByteArray) (a b : Nat) : bl (s.extract a b) = ((bl s).drop a).take (b - a) := by
  unfold bl
  rw [ByteArray.data_extract, Array.toList_extract, List.extract_eq_take_drop, List.map_take, List.map_drop]
def pA (s : ByteArray) : List Int := (bl s).take 4
def pB (s : ByteArray) : List Int := ((bl s).drop 5).take 2
def pC (s : ByteArray) : List Int := ((bl s).drop 8).take 2
theorem nb_pos {l : List Int} (h : nb l ≠ -1) : (∀ x ∈ l, isd x) ∧ nb l = dval l := by
  unfold nb at h ⊢
  split at h
  · next h2 => exact ⟨h2, if_pos h2⟩
  · exact absurd rfl h
theorem nb_of {l : List Int} (h : ∀ x ∈ l, isd x) : nb l = dval l := by unfold nb; exact if_pos h
theorem n0_eq (s : ByteArray) : n0 s 10 = dval (pA s) := rfl
theorem n1_eq (s : ByteArray) : n1 s 10 = dval (pB s) := rfl
theorem n2_eq (s : ByteArray) : n2 s 10 = dval (pC s) := rfl

theorem rpk {s : ByteArray} (h10 : s.size = 10) (h4 : (bl s)[4]? = some 45) (h7 : (bl s)[7]? = some 45) :
    (pk s ∧ nb (pA s) = n0 s 10 ∧ nb (pB s) = n1 s 10 ∧ nb (pC s) = n2 s 10 ∧ gd (nb (pA s)) (nb (pB s)) (nb (pC s)) = true) ∨ (¬ pk s ∧ gd (nb (pA s)) (nb (pB s)) (nb (pC s)) = false) := by
  have hl := bl_length s
  cases hg : gd (nb (pA s)) (nb (pB s)) (nb (pC s))
  · refine .inr ⟨fun hpk => ?_, rfl⟩
    have hA : ∀ x ∈ pA s, isd x := fun x hx => by
      obtain ⟨k, hk, he⟩ := List.getElem_of_mem hx
      unfold pA at hk he
      rw [List.length_take] at hk
      obtain ⟨y, h1, h2⟩ := (hpk.2.1 k (by omega)).2 (by omega)
      rw [List.getElem_take] at he
      rw [List.getElem?_eq_getElem (by omega), he] at h1
      injection h1 with h1
      rwa [h1]
    have hB : ∀ x ∈ pB s, isd x := fun x hx => by
      obtain ⟨k, hk, he⟩ := List.getElem_of_mem hx
      unfold pB at hk he
      rw [List.length_take, List.length_drop] at hk
      obtain ⟨y, h1, h2⟩ := (hpk.2.1 (5 + k) (by omega)).2 (by omega)
      rw [List.getElem_take, List.getElem_drop] at he
      rw [List.getElem?_eq_getElem (by omega), he] at h1
      injection h1 with h1
      rwa [h1]
    have hC : ∀ x ∈ pC s, isd x := fun x hx => by
      obtain ⟨k, hk, he⟩ := List.getElem_of_mem hx
      unfold pC at hk he
      rw [List.length_take, List.length_drop] at hk
      obtain ⟨y, h1, h2⟩ := (hpk.2.1 (8 + k) (by omega)).2 (by omega)
      rw [List.getElem_take, List.getElem_drop] at he
      rw [List.getElem?_eq_getElem (by omega), he] at h1
      injection h1 with h1
      rwa [h1]
    have h := hpk.2.2
    rw [n0_eq, n1_eq, n2_eq, ← nb_of hA, ← nb_of hB, ← nb_of hC, hg] at h
    cases h
  · obtain ⟨g0, g1, g2, g3, g4, g5⟩ := of_decide_eq_true hg
    obtain ⟨hA, eA⟩ := nb_pos (l := pA s) (by omega)
    obtain ⟨hB, eB⟩ := nb_pos (l := pB s) (by omega)
    obtain ⟨hC, eC⟩ := nb_pos (l := pC s) (by omega)
    refine .inl ⟨⟨h10, fun j hj => ⟨fun h => ?_, fun h => ?_⟩, by rw [n0_eq, n1_eq, n2_eq, ← eA, ← eB, ← eC]; exact hg⟩, eA, eB, eC, rfl⟩
    · rcases h with rfl | rfl
      · exact h4
      · exact h7
    · have hj2 : j < (bl s).length := by omega
      refine ⟨(bl s)[j], List.getElem?_eq_getElem hj2, ?_⟩
      rcases (by omega : j < 4 ∨ (5 ≤ j ∧ j < 7) ∨ 8 ≤ j) with h1 | h1 | h1
      · exact hA _ (List.mem_of_getElem? (i := j) (by unfold pA; rw [List.getElem?_take, if_pos h1]; exact List.getElem?_eq_getElem hj2))
      · exact hB _ (List.mem_of_getElem? (i := j - 5) (by unfold pB; rw [List.getElem?_take, if_pos (by omega), List.getElem?_drop, show 5 + (j - 5) = j by omega]; exact List.getElem?_eq_getElem hj2))
      · exact hC _ (List.mem_of_getElem? (i := j - 8) (by unfold pC; rw [List.getElem?_take, if_pos (by omega), List.getElem?_drop, show 8 + (j - 8) = j by omega]; exact List.getElem?_eq_getElem hj2))
theorem not_pk {s : ByteArray} (h : s.size ≠ 10 ∨ (bl s)[4]? ≠ some 45 ∨ (bl s)[7]? ≠ some 45) : ¬ pk s := fun hpk => by
  rcases h with h | h | h
  · exact h hpk.1
  · exact h ((hpk.2.1 4 (by omega)).1 (.inl rfl))
  · exact h ((hpk.2.1 7 (by omega)).1 (.inr rfl))
theorem zstore27 {w : World} {b : Nat} (h : Blk w b 27 zero3) : Blk (((w.setCell ⟨b, 0, none⟩ (.int .i64 0)).setCell ⟨b, 1, none⟩ (.int .i64 0)).setCell ⟨b, 2, none⟩ (.int .i64 0)) b 27 zero3 := ((h.set_ 0 (.int .i64 0)).set_ 1 (.int .i64 0)).set_ 2 (.int .i64 0)
theorem ret10 (Q : Ending → World → Prop) (a : Act) (W : World) (b : Nat) (x y z : Int) (ok : Bool) (h2 : a.tmps.getD 2 undef = .pointer (some ⟨b, 0, none⟩)) (h3 : a.tmps.getD 3 undef = .bool ok) (hd : a.defers = [])
    (hb : Blk W b 27 #[.int .i64 x, .int .i64 y, .int .i64 z]) (hq : Q (.returned (.tuple #[date x y z, .bool ok])) W) : bodyPost Try.prog Try.f10 Q .ret a W := by
  have q0 : W.cell? ⟨b, 0, none⟩ = some (.int .i64 x) := hb.cell 0
  have q1 : W.cell? ⟨b, 1, none⟩ = some (.int .i64 y) := hb.cell 1
  have q2 : W.cell? ⟨b, 2, none⟩ = some (.int .i64 z) := hb.cell 2
  obtain ⟨tmps, defers⟩ := a
  simp only at h2 h3 hd
  subst hd
  rw [Array.getD_eq_getD_getElem?] at h2 h3
  refine bodyPost_ret (v := .tuple #[date x y z, .bool ok]) ?_ rfl hq
  simp [results, Try.results10, go_sem, h2, h3, q0, q1, q2, date]

set_option maxHeartbeats 2000000 in
theorem rparse_ok (s : ByteArray) (w : World) :
    Calls Try.prog 10 #[.string s] w fun e w' => ((pk s ∧ e = .returned (.tuple #[date (n0 s 10) (n1 s 10) (n2 s 10), .bool true])) ∨ (¬ pk s ∧ e = .returned (.tuple #[date 0 0 0, .bool false]))) ∧ Below w.heap.size w w' := by
  have HZ := Lib.hid (Blk.new w 27 zero3)
  have HB := Lib.hid ((Below.refl w.heap.size w).alloc (Nat.le_refl _) (.cells zero3 27))
  by_cases h10 : s.size = 10
  rotate_left
  · have h10' : ((s.size : Int) != 10) = true := by simp; omega
    go_enter Try.func10, Try.ntmps10
    go_wp2
    exact ret10 _ _ _ w.heap.size 0 0 0 false rfl rfl rfl HZ.out ⟨.inr ⟨not_pk (.inl h10), rfl⟩, HB.out⟩
  have hi4 : ∀ k w, (Instr.index 9 (.string s) (.int k 4)).run Try.prog w = .ok (.int .u8 ((s[4].toNat : Nat) : Int)) w := fun k w => by
    rw [run_index_string (P := Try.prog) w 9 s k 4 Try.underlying9, dif_pos ⟨by omega, by omega⟩]
    rfl
  have hi7 : ∀ k w, (Instr.index 9 (.string s) (.int k 7)).run Try.prog w = .ok (.int .u8 ((s[7].toNat : Nat) : Int)) w := fun k w => by
    rw [run_index_string (P := Try.prog) w 9 s k 7 Try.underlying9, dif_pos ⟨by omega, by omega⟩]
    rfl
  have hb4 := byte_at s 4 (by omega)
  have hb7 := byte_at s 7 (by omega)
  generalize ((s[4].toNat : Nat) : Int) = x4 at hi4 hb4
  generalize ((s[7].toNat : Nat) : Int) = x7 at hi7 hb7
  have HB4 := Lib.hid hb4
  have HB7 := Lib.hid hb7
  have H10 := Lib.hid h10
  have h10' : ((s.size : Int) != 10) = false := by simp; omega
  have hsz : (s.size : Int) = 10 := by omega
  clear hb4 hb7 h10
  by_cases h4 : x4 = 45
  rotate_left
  · have h4' : (x4 != 45) = true := by simp [h4]
    clear hi7
    go_enter Try.func10, Try.ntmps10
    go_wp2
    exact ret10 _ _ _ w.heap.size 0 0 0 false rfl rfl rfl HZ.out ⟨.inr ⟨not_pk (.inr (.inl (fun h => by rw [HB4.out] at h; injection h with h; exact h4 h))), rfl⟩, HB.out⟩
  subst h4
  by_cases h7 : x7 = 45
  rotate_left
  · have h7' : (x7 != 45) = true := by simp [h7]
    go_enter Try.func10, Try.ntmps10
    go_wp2
    exact ret10 _ _ _ w.heap.size 0 0 0 false rfl rfl rfl HZ.out ⟨.inr ⟨not_pk (.inr (.inr (fun h => by rw [HB7.out] at h; injection h with h; exact h7 h))), rfl⟩, HB.out⟩
  subst h7
  have hA := fun w => number_ok (s.extract 0 4) w (by rw [ByteArray.size_extract]; omega)
  have hB := fun w => number_ok (s.extract 5 7) w (by rw [ByteArray.size_extract]; omega)
  have hC := fun w => number_ok (s.extract 8 10) w (by rw [ByteArray.size_extract]; omega)
  rw [bl_extract] at hA hB hC
  have NA := Lib.hid (show ∀ w, Calls Try.prog 20 #[.string (s.extract 0 4)] w fun e w' => e = .returned (.int .i64 (nb (pA s))) ∧ w = w' from hA)
  have NB := Lib.hid (show ∀ w, Calls Try.prog 20 #[.string (s.extract 5 7)] w fun e w' => e = .returned (.int .i64 (nb (pB s))) ∧ w = w' from hB)
  have NC := Lib.hid (show ∀ w, Calls Try.prog 20 #[.string (s.extract 8 s.size)] w fun e w' => e = .returned (.int .i64 (nb (pC s))) ∧ w = w' by rw [H10.out]; exact hC)
  have HR := Lib.hid (rpk H10.out HB4.out HB7.out)
  have HG := Lib.hid (fun w => refgood_ok (nb (pA s)) (nb (pB s)) (nb (pC s)) w)
  unfold date at HG
  clear hA hB hC
  generalize nb (pA s) = x at NA HR HG
  generalize nb (pB s) = y at NB HR HG
  generalize nb (pC s) = z at NC HR HG
  go_enter Try.func10, Try.ntmps10
  go_wp2
  go_region_held3 (fun _ => True) (first | exact trivial | trivial) (first
    | (go_at_call 20; with_reducible refine Calls.mono (NA.out _) ?_; rintro e w' ⟨rfl, rfl⟩)
    | (go_at_call 20; with_reducible refine Calls.mono (NB.out _) ?_; rintro e w' ⟨rfl, rfl⟩)
    | (go_at_call 20; with_reducible refine Calls.mono (NC.out _) ?_; rintro e w' ⟨rfl, rfl⟩))
  all_goals
    go_wp2_with fail
    refine (HG.out _).mono ?_
    rintro e w4 ⟨rfl, hb4⟩
    have HZ4 := Lib.hid (Blk.keeps (w := ((w.alloc (.cells zero3 27)).alloc (.cells #[.int .i64 x, .int .i64 y, .int .i64 z] 27)).drew) ((HZ.out.alloc _).drew) hb4)
    have h9 : Blk ((w.alloc (.cells zero3 27)).alloc (.cells #[.int .i64 x, .int .i64 y, .int .i64 z] 27)).drew (w.heap.size + 1) 27 #[.int .i64 x, .int .i64 y, .int .i64 z] := by
      have h := Blk.new (w.alloc (.cells zero3 27)) 27 #[.int .i64 x, .int .i64 y, .int .i64 z]
      rw [World.size_alloc] at h
      exact h.drew
    have H9 := Lib.hid (h9.keeps hb4)
    have HB4 := Lib.hid (show Below w.heap.size w w4 from (below_drew_ (HB.out.alloc (by simp) _)).trans (Below.mono (w := ((w.alloc (.cells zero3 27)).alloc (.cells #[.int .i64 x, .int .i64 y, .int .i64 z] 27)).drew) hb4 (by show w.heap.size ≤ ((w.alloc (.cells zero3 27)).alloc (.cells #[.int .i64 x, .int .i64 y, .int .i64 z] 27)).heap.size; simp; omega)))
    have r0 : w4.cell? ⟨w.heap.size, 0, none⟩ = some (.int .i64 0) := HZ4.out.cell 0
    have r1 : w4.cell? ⟨w.heap.size, 1, none⟩ = some (.int .i64 0) := HZ4.out.cell 1
    have r2 : w4.cell? ⟨w.heap.size, 2, none⟩ = some (.int .i64 0) := HZ4.out.cell 2
    have g0 := HZ4.out.frozen 0
    have g1 := HZ4.out.frozen 1
    have g2 := HZ4.out.frozen 2
    have e0 : w4.cell? ⟨w.heap.size + 1, 0, none⟩ = some (.int .i64 x) := H9.out.cell 0
    have e1 : w4.cell? ⟨w.heap.size + 1, 1, none⟩ = some (.int .i64 y) := H9.out.cell 1
    have e2 : w4.cell? ⟨w.heap.size + 1, 2, none⟩ = some (.int .i64 z) := H9.out.cell 2
    clear hb4 h9
    obtain ⟨hpk, hx, hy, hz, hgd⟩ | ⟨hpk, hgd⟩ := HR.out
    · have HPK := Lib.hid hpk
      have HX := Lib.hid hx
      have HY := Lib.hid hy
      have HZZ := Lib.hid hz
      rw [hgd] at *
      clear hpk hx hy hz hgd
      go_wp2
      refine ret10 _ _ _ w.heap.size x y z true rfl rfl rfl (((HZ4.out.set_ 0 (.int .i64 x)).set_ 1 (.int .i64 y)).set_ 2 (.int .i64 z)) ⟨.inl ⟨HPK.out, by rw [HX.out, HY.out, HZZ.out]⟩, ?_⟩
      exact ((HB4.out.setCell (p := ⟨w.heap.size, 0, none⟩) (Nat.le_refl _) _).setCell (p := ⟨w.heap.size, 1, none⟩) (Nat.le_refl _) _).setCell (p := ⟨w.heap.size, 2, none⟩) (Nat.le_refl _) _
    · have HPK := Lib.hid hpk
      rw [hgd] at *
      clear hpk hgd
      go_wp2
      exact ret10 _ _ _ w.heap.size 0 0 0 false rfl rfl rfl (zstore27 HZ4.out) ⟨.inr ⟨HPK.out, rfl⟩, zbelow HB4.out⟩
end Go.Proofs.Ytobhjkephinhiac.Civil
