/- What is read of any bytes is what the document says, whatever is asked for; a nil reader; what is handed in isn't kept. No condition. -/
import Derived.Test.YtbhcnepgkbpncaaPen
import Derived.Test.YtbhcnepgkbpncaaLf
namespace Go.Proofs.Ytbhcnepgkbpncaa.OctetReadsW
open Go.RowKit Go.Proofs.Ytbhcnepgkbpncaa.Bk Go.Proofs.Ytbhcnepgkbpncaa.Rw Go.Proofs.Ytbhcnepgkbpncaa.Ow Go.Proofs.Ytbhcnepgkbpncaa.Kp Go.Proofs.Ytbhcnepgkbpncaa.Octet Go.Proofs.Ytbhcnepgkbpncaa.Pen

def Bytes (l : List Int) : Prop := ∀ x ∈ l, 0 ≤ x ∧ x ≤ 255
/-- An argument's bytes. -/
theorem row_bytes {w : World} {A : Option Addr} {len cap : Nat} {z : List Int} (h : Lf.IsRow .u8 w A len cap z) : ∃ l, len = l.length ∧ l.length ≤ cap ∧ cap ≤ maxLen ∧ Ri .u8 w A l ∧ Bytes l := by
  rcases h with ⟨rfl, rfl, rfl, rfl⟩ | ⟨x, rfl, h1, h2, h3, h4, h5⟩
  · exact ⟨[], rfl, Nat.le_refl _, by unfold maxLen; omega, Ri.nil, fun x hx => by simp at hx⟩
  · have hl : (z.take len).length = len := by rw [List.length_take]; omega
    refine ⟨z.take len, hl.symm, by omega, h2, ⟨by omega, fun h0 => ⟨x, rfl, ?_, fun j y hy => ?_⟩⟩, fun y hy => ?_⟩
    · have := World.block_lt_of_cell? w _ (h4 0 (by omega))
      rwa [block_of_add] at this
    · rw [List.getElem?_take] at hy
      split at hy
      · have hj : j < z.length := (List.getElem?_eq_some_iff.1 hy).1
        rw [h4 j hj, List.getD_eq_getElem?_getD, hy]
        rfl
      · cases hy
    · have := h5 y (List.mem_of_mem_take hy)
      simp [Lit.wf, IntKind.min, IntKind.max, IntKind.bits, IntKind.signed] at this
      omega

theorem get_ok (A : Option Addr) (c : Nat) (l : List Int) (w : World) (hr : Ri .u8 w A l) (hc : l.length ≤ c) (hb : Bytes l) (hn : l.length ≤ 8) :
    Calls Try.prog 8 #[.slice A l.length c] w fun e w' => e = .returned (.int .u64 (val l)) ∧ w = w' := by
  have HR := Lib.hid hr
  have HB := Lib.hid hb
  clear hr hb
  go_enter Try.func8, Try.ntmps8
  go_wp2
  go_loopw [3, 8] (fun v i wr => ∃ j : Nat, j ≤ l.length ∧ v = .int .u64 (val (l.take j)) ∧ i = .int .i64 j ∧ wr = w) (fun _ i _ => l.length - (intOf i).toNat)
  case atStart => exact ⟨0, Nat.zero_le _, rfl, rfl, rfl⟩
  case round =>
    obtain ⟨j, hj, rfl, rfl, rfl⟩ := hrel
    by_cases hlt : j < l.length
    · have hp := part_snoc (l := l) (n := 0) (k := j) (by omega)
      rw [List.drop_zero, Nat.zero_add] at hp
      have hv := val_bd7 (l.take j) (fun x hx => HB.out x (List.mem_of_mem_take hx)) (by rw [List.length_take]; omega)
      obtain ⟨ad, rfl, _, cl⟩ := HR.out.at_ hlt
      have hx := HB.out (l.getD j 0) (by rw [List.getD_eq_getElem?_getD, List.getElem?_eq_getElem hlt]; exact List.getElem_mem _)
      generalize l.getD j 0 = x at hp cl hx
      have hvs := val_snoc (l.take j) x
      rw [← hp] at hvs
      have HP := Lib.hid hvs
      clear hp hvs
      generalize val (l.take j) = y at hv HP
      go_wp2
      go_roundw
      case rel => exact ⟨j + 1, by omega, by rw [HP.out], by go_num, by first | rfl | trivial⟩
      case measure => simp [intOf]; omega
    · have hjk : j = l.length := by omega
      subst hjk
      rw [List.take_length]
      go_wp2
      go_ret
      exact ⟨rfl, rfl⟩

theorem nil_bytes : Bytes [] := fun x hx => by cases hx
theorem get_at (A : Option Addr) (c : Nat) (l : List Int) (k : Nat) (hk : l.length = k) (w : World) (hr : Ri .u8 w A l) (hc : k ≤ c) (hb : Bytes l) (hn : k ≤ 8) :
    Calls Try.prog 8 #[.slice A k c] w fun e w' => e = .returned (.int .u64 (val l)) ∧ w = w' := by
  subst hk
  exact get_ok A c l w hr hc hb hn
theorem ri_cut {k : IntKind} {w : World} {A : Option Addr} {l : List Int} (h : Ri k w A l) (n m : Nat) (hn : n + m ≤ l.length) : Ri k w (A.map (fun x => x.add n)) ((l.drop n).take m) := by
  refine ⟨by have := h.1; rw [List.length_take, List.length_drop]; omega, fun hl => ?_⟩
  rw [List.length_take, List.length_drop] at hl
  obtain ⟨ad, rfl, hlt, hc⟩ := h.2 (by omega)
  refine ⟨ad.add n, rfl, by rw [block_of_add]; exact hlt, fun j x hx => ?_⟩
  rw [List.getElem?_take] at hx
  split at hx
  · rw [List.getElem?_drop] at hx
    rw [add_of_add]
    exact hc _ _ hx
  · cases hx
/-- A row of whole numbers that came in. -/
theorem row_ints {k : IntKind} {w : World} {A : Option Addr} {len cap : Nat} {z : List Int} (h : Lf.IsRow k w A len cap z) : ∃ l, len = l.length ∧ l.length ≤ cap ∧ cap ≤ maxLen ∧ Ri k w A l ∧ ∀ x ∈ l, (Lit.int k x).wf = true := by
  rcases h with ⟨rfl, rfl, rfl, rfl⟩ | ⟨x, rfl, h1, h2, h3, h4, h5⟩
  · exact ⟨[], rfl, Nat.le_refl _, by unfold maxLen; omega, Ri.nil, fun x hx => by simp at hx⟩
  · have hl : (z.take len).length = len := by rw [List.length_take]; omega
    refine ⟨z.take len, hl.symm, by omega, h2, ⟨by omega, fun h0 => ⟨x, rfl, ?_, fun j y hy => ?_⟩⟩, fun y hy => h5 y (List.mem_of_mem_take hy)⟩
    · have := World.block_lt_of_cell? w _ (h4 0 (by omega))
      rwa [block_of_add] at this
    · rw [List.getElem?_take] at hy
      split at hy
      · have hj : j < z.length := (List.getElem?_eq_some_iff.1 hy).1
        rw [h4 j hj, List.getD_eq_getElem?_getD, hy]
        rfl
      · cases hy

set_option maxRecDepth 100000 in
set_option maxHeartbeats 2000000 in
set_option linter.unusedVariables false in
theorem walk (a0 : Option Addr) (len0 cap0 : Nat) (z0 : List Int) (a1 : Option Addr) (len1 cap1 : Nat) (z1 : List Int) (W : World) (w0 : Lf.IsRow .u8 W a0 len0 cap0 z0) (y0 : len0 * 1 ≤ 140737488351232) (w1 : Lf.IsRow .i64 W a1 len1 cap1 z1) (y1 : len1 * 8 ≤ 140737488351232) :
    Calls Try.prog 3 #[.slice a0 len0 cap0, .slice a1 len1 cap1] W fun e w' => e = .returned (.bool true) ∧ Below W.heap.size W w' := by
  obtain ⟨l, rfl, hc0, _, hr0, hb0⟩ := row_bytes w0
  have R0 := Lib.hid hr0
  have B0 := Lib.hid hb0
  obtain ⟨m, rfl, hc1, _, hr1, _⟩ := row_ints w1
  have R1 := Lib.hid hr1
  clear hr0 hb0 hr1 w0 y0 z0 w1
  go_enter Try.func3, Try.ntmps3
  go_wp2_with fail
  refine (alive_ok _).mono ?_
  rintro e w1 ⟨rfl, hb⟩
  have HW := Lib.hid hb
  clear hb
  by_cases hg : l.length ≤ 300 ∧ m.length ≤ 60
  rotate_left
  · have HG := Lib.hid hg
    clear hg
    go_wp2_with fail
    all_goals first
      | (go_ret; exact ⟨rfl, HW.out⟩)
      | (refine absurd ?_ HG.out; omega)
  · obtain ⟨hl, hm⟩ := hg
    have R01 := Lib.hid (R0.out.below HW.out)
    go_wp2_with (at_builtin; refine wp_append .u8 5 _ W.heap.size (.int .u8 0) 1 rfl _ _ 22 rfl Try.underlying22 (by kernel_rfl) rfl (.slice (some ⟨w1.heap.size, 0, none⟩) 0 0) [] _ _ l _ rfl rfl rfl (Oi.lit .u8 5 w1 W.heap.size HW.out.size [] (by simp) #[] rfl) (R01.out.alloc _) ?_ ?_ ?_ ?_)
    · unfold maxLen; simp; omega
    · simp; omega
    · have := HW.out.size; simp; omega
    intro v2 w2 ho hg _
    have HW2 := Lib.hid (Below.of_owned (v := .slice (some ⟨w1.heap.size, 0, none⟩) 0 0) (HW.out.alloc HW.out.size _) (by have := HW.out.size; simp; omega) hg (fun q hq => by simp [Value.ownBlock] at hq; subst hq; exact HW.out.size))
    have HO2 := Lib.hid (show Oi .u8 5 w2 W.heap.size v2 l from ho)
    obtain ⟨A, c, rfl, hc, hr⟩ := HO2.out.ri
    have RA := Lib.hid hr
    clear hg HW R01 ho hr
    go_wp2_with fail
    refine (of_ok A c l _ RA.out (by omega)).mono ?_
    rintro e w3 ⟨p, A2, c2, rfl, he, hp, hA, hb⟩
    have HE := Lib.hid he
    have HO3 := Lib.hid (HO2.out.below hb)
    have HW3 := Lib.hid (show Below W.heap.size W w3 from HW2.out.trans (hb.mono HW2.out.size))
    have HP := Lib.hid (show W.heap.size ≤ p from Nat.le_trans HW2.out.size hp)
    have HS := Lib.hid (show ∀ ad, A = some ad → ad.block ≠ p ∧ (∀ ad2, A2 = some ad2 → ad2.block ≠ ad.block) from fun ad h => by
      subst h
      have h1 := HO2.out.owner _ rfl
      exact ⟨by omega, fun ad2 h2 => by have := (hA ad2 h2).1; omega⟩)
    clear he hp hA hb HW2 HO2 RA
    go_wp2
    go_loopw [34] (fun i wr => ∃ j : Nat, ∃ o : List Int, j ≤ l.length ∧ o.length = l.length ∧ i = .int .i64 j ∧ Oi .u8 5 wr W.heap.size (.slice A l.length c) o ∧ Eye wr p A2 c2 l 0 ∧ Below W.heap.size W wr) (fun i _ => l.length - (intOf i).toNat)
    case atStart => exact ⟨0, l, Nat.zero_le _, rfl, rfl, HO3.out, HE.out, HW3.out⟩
    case round =>
      obtain ⟨j, o, hj, hol, rfl, ho, he, hw⟩ := hrel
      clear HE HO3 HW3
      have HOL := Lib.hid hol
      have HE := Lib.hid he
      have HW := Lib.hid hw
      have HO := Lib.hid ho
      clear hol he hw ho
      by_cases hlt : j < l.length
      · obtain ⟨g, rfl, cg, fg⟩ : ∃ g, A = some ⟨g, 0, none⟩ ∧ (∃ u, wr.cell? ⟨g, j, none⟩ = some (.int .u8 u)) ∧ wr.frozen? ⟨g, j, none⟩ = false := by
          obtain ⟨h1, h2⟩ | ⟨g', c', he, _, _, _, _, hcell, hfr⟩ := HO.out.form
          · injection h1
            omega
          · injection he with h1 _ _
            have := HOL.out
            exact ⟨g', h1, ⟨_, hcell j _ (List.getElem?_eq_getElem (by omega))⟩, hfr j⟩
        obtain ⟨u, cg⟩ := cg
        go_wp2
        have hst := (HO.out.set_ j 0).1
        go_roundw
        case rel => exact ⟨j + 1, o.set j 0, by omega, by rw [List.length_set]; exact HOL.out, by go_num, hst, HE.out.kp ((Kp.refl (· = g) wr).set_ ⟨g, j, none⟩ (.inl rfl) _) (fun e => (HS.out _ rfl).1 e.symm) (fun ad2 h => (HS.out _ rfl).2 ad2 h), HW.out.setCell (p := ⟨g, j, none⟩) (HO.out.owner _ rfl).1 _⟩
        case measure => simp [intOf]; omega
      · have HE := Lib.hid HE.out
        clear HO HS HOL
        have RS := Lib.hid (R1.out.below HW.out)
        go_wp2
        go_loopw [8, 43] (fun v i wr => ∃ i' n : Nat, i' ≤ m.length ∧ n ≤ l.length ∧ v = .int .i64 n ∧ i = .int .i64 i' ∧ Eye wr p A2 c2 l n ∧ Below W.heap.size W wr) (fun _ i _ => m.length - (intOf i).toNat)
        case atStart => exact ⟨0, 0, Nat.zero_le _, Nat.zero_le _, rfl, rfl, HE.out, HW.out⟩
        case round =>
          clear HE HW RS
          obtain ⟨i, n, hi, hn, rfl, rfl, he, hw⟩ := hrel
          have HE := Lib.hid he
          have HW := Lib.hid hw
          clear he hw
          by_cases hlt : i < m.length
          · obtain ⟨ad1, rfl, _, cs⟩ := (R1.out.below HW.out).at_ hlt
            generalize m.getD i 0 = x at cs
            by_cases hcan : 0 ≤ x ∧ x ≤ 8 ∧ x ≤ (l.length : Int) - n
            · obtain ⟨x0, x8, xn⟩ := hcan
              obtain ⟨k, rfl⟩ := Int.eq_ofNat_of_zero_le x0
              go_wp2_with fail
              refine (num_yes p A2 c2 l n k _ HE.out B0.out (by omega) (by omega)).mono ?_
              rintro e w5 ⟨rfl, he, hk⟩
              have HE5 := Lib.hid he
              have HW5 := Lib.hid (below_kp HW.out HW.out.size hk (fun q hq => by subst hq; exact HP.out))
              have R05 := Lib.hid (R0.out.below HW5.out)
              clear he hk HE HW
              have hck : n + k ≤ cap0 := by omega
              have hlen : ((l.drop n).take k).length = k := by rw [List.length_take, List.length_drop]; omega
              have HLEN := Lib.hid hlen
              clear hlen
              by_cases hcn : cap0 = n
              · subst hcn
                have hk0 : k = 0 := by omega
                subst hk0
                have HV := Lib.hid (show val ((l.drop cap0).take 0) = 0 from rfl)
                go_wp2_with fail
                with_reducible refine Calls.mono (get_at a0 0 [] 0 rfl _ Ri.nil (Nat.le_refl _) nil_bytes (by decide)) ?_
                rintro e w6 ⟨rfl, rfl⟩
                go_wp2_with (go_at_call 9; with_reducible refine Calls.mono (left_ok p A2 c2 l (cap0 + 0) _ HE5.out (by omega)) ?_; rintro e w' ⟨rfl, m1, rfl⟩)
                go_roundw
                case rel => exact ⟨i + 1, cap0 + 0, by omega, by omega, by go_num, by go_num, HE5.out.drewN _, below_drewN_ HW5.out _⟩
                case measure => simp [intOf]; omega
              · have HCN := Lib.hid hcn
                go_wp2_with fail
                refine (get_at _ _ ((l.drop n).take k) k HLEN.out _ (ri_cut R05.out n k (by omega)) (by omega) (fun x hx => B0.out x (List.mem_of_mem_drop (List.mem_of_mem_take hx))) (by omega)).mono ?_
                rintro e w6 ⟨rfl, rfl⟩
                go_wp2_with (go_at_call 9; with_reducible refine Calls.mono (left_ok p A2 c2 l (n + k) _ HE5.out (by omega)) ?_; rintro e w' ⟨rfl, m1, rfl⟩)
                go_roundw
                case rel => exact ⟨i + 1, n + k, by omega, by omega, by go_num, by go_num, HE5.out.drewN _, below_drewN_ HW5.out _⟩
                case measure => simp [intOf]; omega
            · have hno : x < 0 ∨ 8 < x ∨ (l.length : Int) - n < x := by omega
              have HNO := Lib.hid hno
              clear hno
              go_wp2_with fail
              refine (num_no p A2 c2 l n x _ HE.out (by omega) HNO.out).mono ?_
              rintro e w5 ⟨rfl, m1, rfl⟩
              go_wp2_with (go_at_call 9; with_reducible refine Calls.mono (left_ok p A2 c2 l n _ (HE.out.drewN _) (by omega)) ?_; rintro e w' ⟨rfl, m2, rfl⟩)
              all_goals
                go_roundw
                case rel => exact ⟨i + 1, n, by omega, hn, rfl, by go_num, HE.out.drewN _, below_drewN_ HW.out _⟩
                case measure => simp [intOf]; omega
          · have hin : i = m.length := by omega
            subst hin
            go_wp2_with (first | (go_at_call 7; with_reducible refine Calls.mono (num_nil _ _ (by decide)) ?_; rintro e w' ⟨rfl, rfl⟩) | (go_at_call 9; with_reducible refine Calls.mono (left_nil _) ?_; rintro e w' ⟨rfl, rfl⟩))
            go_ret
            exact ⟨rfl, HW.out⟩
end Go.Proofs.Ytbhcnepgkbpncaa.OctetReadsW
