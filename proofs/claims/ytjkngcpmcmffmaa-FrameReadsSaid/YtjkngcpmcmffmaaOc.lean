/- The walks of octet's reader: what each does to its block. -/
import Derived.Test.YtjkngcpmcmffmaaChecked
import Derived.Test.YtjkngcpmcmffmaaKp
import Derived.Deep.QuietTactic
import Derived.BigQuiet
import Derived.BigRegion
import Derived.WalkLawsBesides
import Derived.WalkSpells
import Derived.Lib.Hide
import Derived.IntWalk
namespace Go.Proofs.Ytjkngcpmcmffmaa.Octet
open Go.RowKit Go.Proofs.Ytjkngcpmcmffmaa.Bk Go.Proofs.Ytjkngcpmcmffmaa.Rw Go.Proofs.Ytjkngcpmcmffmaa.Ow Go.Proofs.Ytjkngcpmcmffmaa.Kp

/-- A reader at block p, of these bytes, of which n are read. -/
def Eye (w : World) (p : Nat) (A : Option Addr) (c : Nat) (l : List Int) (n : Nat) : Prop :=
  Blk w p 94 #[.slice A l.length c, .int .i64 n] ∧ Ri .u8 w A l ∧ (∀ ad, A = some ad → ad.block ≠ p)

theorem of_ok (A : Option Addr) (c : Nat) (l : List Int) (w : World) (hr : Ri .u8 w A l) (hn : l.length ≤ 200000) :
    Calls Try.prog 20 #[.slice A l.length c] w fun e w' => ∃ p A' c', e = .returned (.pointer (some ⟨p, 0, none⟩)) ∧ Eye w' p A' c' l 0 ∧ w.heap.size ≤ p ∧ (∀ ad, A' = some ad → w.heap.size ≤ ad.block ∧ ad.block < w'.heap.size) ∧ Below w.heap.size w w' := by
  have HR := Lib.hid hr
  clear hr
  go_enter Try.func20, Try.ntmps20
  go_wp2_with (at_builtin; refine wp_append .u8 5 _ w.heap.size (.int .u8 0) 1 rfl _ _ 22 rfl Try.underlying22 (by kernel_rfl) rfl (.slice none 0 0) [] _ _ l _ rfl rfl rfl (Oi.nil _ _ _ _) HR.out ?_ ?_ ?_ ?_)
  · unfold maxLen; simp; omega
  · simp; omega
  · exact Nat.le_refl _
  intro v2 w2 ho hg _
  have HW2 := Lib.hid ((Below.refl w.heap.size w).grown hg (Nat.le_refl _) (fun k hk => by cases hk))
  have HO := Lib.hid ho
  obtain ⟨A', c', rfl, hc, hr⟩ := ho.ri
  have HR2 := Lib.hid hr
  clear hr ho hg
  go_wp2
  go_ret
  refine ⟨_, A', c', rfl, ⟨Blk.new _ _ _, HR2.out.alloc _, fun ad h => ?_⟩, HW2.out.size, fun ad h => ?_, HW2.out.alloc HW2.out.size _⟩
  · subst h
    have := (HO.out.owner _ rfl).2
    omega
  · subst h
    have := HO.out.owner _ rfl
    simp
    omega

section
variable {w w' : World} {p n : Nat} {A : Option Addr} {c : Nat} {l : List Int}
theorem Eye.drewN (h : Eye w p A c l n) (k : Nat) : Eye (w.drewN k) p A c l n := h
theorem Eye.kp {S : Nat → Prop} (h : Eye w p A c l n) (hk : Kp S w w') (hp : ¬ S p) (hA : ∀ ad, A = some ad → ¬ S ad.block) : Eye w' p A c l n := ⟨blk_kp h.1 hk hp, ri_kp h.2.1 hk hA, h.2.2⟩
end

theorem left_ok (p : Nat) (A : Option Addr) (c : Nat) (l : List Int) (n : Nat) (w : World) (h : Eye w p A c l n) (hn : n ≤ l.length) :
    Calls Try.prog 34 #[.pointer (some ⟨p, 0, none⟩)] w fun e w' => e = .returned (.int .i64 ((l.length : Int) - n)) ∧ ∃ m, w' = w.drewN m := by
  have c0 : w.cell? ⟨p, 0, none⟩ = some (.slice A l.length c) := h.1.cell 0
  have c1 : w.cell? ⟨p, 1, none⟩ = some (.int .i64 n) := h.1.cell 1
  have hm := h.2.1.1
  unfold maxLen at hm
  have q : IntKind.i64.wrap ((l.length : Int) - n) = (l.length : Int) - n := IntWalk.i64_in _ ⟨by omega, by omega⟩
  clear h
  go_enter Try.func34, Try.ntmps34
  go_wp2
  go_quiet (fail)
  go_wp2
  go_ret
  exact ⟨rfl, nq, rfl⟩
theorem left_nil (w : World) : Calls Try.prog 34 #[.pointer none] w fun e w' => e = .returned (.int .i64 0) ∧ w = w' := by
  go_enter Try.func34, Try.ntmps34
  go_wp2
  go_ret
  exact ⟨rfl, rfl⟩

theorem num_no (p : Nat) (A : Option Addr) (c : Nat) (l : List Int) (n : Nat) (k : Int) (w : World) (h : Eye w p A c l n) (hn : n ≤ l.length) (hk : k < 0 ∨ 8 < k ∨ (l.length : Int) - n < k) :
    Calls Try.prog 21 #[.pointer (some ⟨p, 0, none⟩), .int .i64 k] w fun e w' => e = .returned (.tuple #[.int .u64 0, .bool false]) ∧ ∃ m, w' = w.drewN m := by
  have H := Lib.hid h
  clear h
  by_cases h1 : k < 0
  · go_enter Try.func21, Try.ntmps21
    go_wp2
    go_ret2
    exact ⟨rfl, 0, rfl⟩
  by_cases h2 : 8 < k
  · go_enter Try.func21, Try.ntmps21
    go_wp2
    go_ret2
    exact ⟨rfl, 0, rfl⟩
  have h3 : (l.length : Int) - n < k := by omega
  clear hk
  go_enter Try.func21, Try.ntmps21
  go_wp2_with (go_at_call 34; with_reducible refine Calls.mono (left_ok p A c l n _ H.out hn) ?_; rintro e w' ⟨rfl, m, rfl⟩)
  go_ret2
  exact ⟨rfl, m, rfl⟩
theorem num_nil (k : Int) (w : World) (hk : 0 < k) : Calls Try.prog 21 #[.pointer none, .int .i64 k] w fun e w' => e = .returned (.tuple #[.int .u64 0, .bool false]) ∧ w = w' := by
  have h1 : ¬ k < 0 := by omega
  by_cases h2 : 8 < k
  · go_enter Try.func21, Try.ntmps21
    go_wp2
    go_ret2
    exact ⟨rfl, rfl⟩
  go_enter Try.func21, Try.ntmps21
  go_wp2_with ((go_at_call 34; with_reducible refine Calls.mono (left_nil _) ?_; rintro e w' ⟨rfl, rfl⟩))
  go_ret2
  exact ⟨rfl, rfl⟩

/-- The number that bytes are. -/
def val (l : List Int) : Int := l.foldl (fun n x => 256 * n + x) 0
theorem val_snoc (l : List Int) (x : Int) : val (l ++ [x]) = 256 * val l + x := by simp [val]
theorem val_bd_from : ∀ (l : List Int) (v : Int) (a : Nat), (∀ x ∈ l, 0 ≤ x ∧ x ≤ 255) → 0 ≤ v → v < 256 ^ a → 0 ≤ l.foldl (fun n x => 256 * n + x) v ∧ l.foldl (fun n x => 256 * n + x) v < 256 ^ (a + l.length)
  | [], v, a, _, h0, h1 => ⟨h0, h1⟩
  | x :: l, v, a, h, h0, h1 => by
    have h2 := h x (by simp)
    rw [List.foldl_cons, List.length_cons, show a + (l.length + 1) = (a + 1) + l.length by omega]
    exact val_bd_from l _ (a + 1) (fun y hy => h y (by simp [hy])) (by omega) (by rw [Int.pow_succ]; omega)
theorem val_bd (l : List Int) (h : ∀ x ∈ l, 0 ≤ x ∧ x ≤ 255) : 0 ≤ val l ∧ val l < 256 ^ l.length := by
  have := val_bd_from l 0 0 h (by omega) (by decide)
  rwa [Nat.zero_add] at this
theorem val_bd7 (l : List Int) (h : ∀ x ∈ l, 0 ≤ x ∧ x ≤ 255) (hl : l.length ≤ 7) : 0 ≤ val l ∧ val l < 72057594037927936 := by
  have h1 := val_bd l h
  have h2 : ∀ m : Fin 8, (256 : Int) ^ (m : Nat) ≤ 72057594037927936 := by decide
  have h3 := h2 ⟨l.length, by omega⟩
  simp only at h3
  omega
theorem part_snoc {l : List Int} {n k : Nat} (h : n + k < l.length) : (l.drop n).take (k + 1) = (l.drop n).take k ++ [l.getD (n + k) 0] := by
  rw [List.take_succ_eq_append_getElem (by rw [List.length_drop]; omega), List.getElem_drop, List.getD_eq_getElem?_getD, List.getElem?_eq_getElem h]
  rfl
theorem or8 (v x : Int) (hv : 0 ≤ v) (hv2 : v < 72057594037927936) (hx : 0 ≤ x ∧ x ≤ 255) : Go.bits .or .u64 (256 * v) x = 256 * v + x := by
  obtain ⟨n, rfl⟩ := Int.eq_ofNat_of_zero_le hv
  obtain ⟨m, rfl⟩ := Int.eq_ofNat_of_zero_le hx.1
  have h : 256 * n ||| m = 256 * n + m := by
    have := Nat.two_pow_add_eq_or_of_lt (i := 8) (b := m) (by omega) n
    simp at this
    omega
  rw [show (256 * (n : Int)) = ((256 * n : Nat) : Int) by omega]
  simp only [Go.bits, BitVec.ofInt_natCast, BitVec.toNat_or, BitVec.toNat_ofNat]
  rw [Nat.mod_eq_of_lt (show 256 * n < 2 ^ IntKind.u64.bits from Nat.lt_of_lt_of_le (by omega) (show 18446744073709551616 ≤ 2 ^ 64 by decide)), Nat.mod_eq_of_lt (show m < 2 ^ IntKind.u64.bits from Nat.lt_of_lt_of_le (by omega) (show 18446744073709551616 ≤ 2 ^ 64 by decide)), h]
  exact IntWalk.u64_in _ ⟨by omega, by omega⟩

theorem num_yes (p : Nat) (A : Option Addr) (c : Nat) (l : List Int) (n k : Nat) (w : World) (h : Eye w p A c l n) (hb : ∀ x ∈ l, 0 ≤ x ∧ x ≤ 255) (hk : k ≤ 8) (hn : n + k ≤ l.length) :
    Calls Try.prog 21 #[.pointer (some ⟨p, 0, none⟩), .int .i64 k] w fun e w' => e = .returned (.tuple #[.int .u64 (val ((l.drop n).take k)), .bool true]) ∧ Eye w' p A c l (n + k) ∧ Kp (· = p) w w' := by
  have H := Lib.hid h
  have HB := Lib.hid hb
  clear h hb
  have g1 : ¬ (k : Int) < 0 := by omega
  have g2 : ¬ (8 : Int) < (k : Int) := by omega
  have g3 : ¬ (l.length : Int) - n < (k : Int) := by omega
  go_enter Try.func21, Try.ntmps21
  go_wp2_with (go_at_call 34; with_reducible refine Calls.mono (left_ok p A c l n _ H.out (by omega)) ?_; rintro e w' ⟨rfl, m, rfl⟩)
  go_loopw [6, 20] (fun v i wr => ∃ j : Nat, j ≤ k ∧ v = .int .u64 (val ((l.drop n).take j)) ∧ i = .int .i64 j ∧ Eye wr p A c l (n + j) ∧ Kp (· = p) w wr) (fun _ i _ => k - (intOf i).toNat)
  case atStart => exact ⟨0, Nat.zero_le _, rfl, rfl, H.out, (Kp.refl _ w).drewN _⟩
  case round =>
    obtain ⟨j, hj, rfl, rfl, he, hkp⟩ := hrel
    by_cases hlt : j < k
    · have hp := part_snoc (l := l) (n := n) (k := j) (by omega)
      have hv := val_bd7 ((l.drop n).take j) (fun x hx => HB.out x (List.mem_of_mem_drop (List.mem_of_mem_take hx))) (by rw [List.length_take]; omega)
      obtain ⟨ad, rfl, hlt', cl⟩ := he.2.1.at_ (show n + j < l.length by omega)
      have hx := HB.out (l.getD (n + j) 0) (by rw [List.getD_eq_getElem?_getD, List.getElem?_eq_getElem (by omega)]; exact List.getElem_mem _)
      have c0 : wr.cell? ⟨p, 0, none⟩ = some (.slice (some ad) l.length c) := he.1.cell 0
      have c1 : wr.cell? ⟨p, 1, none⟩ = some (.int .i64 ((n + j : Nat) : Int)) := he.1.cell 1
      have f1 := he.1.frozen 1
      generalize l.getD (n + j) 0 = x at hp cl hx
      have ho := or8 _ x hv.1 hv.2 hx
      rw [Int.mul_comm] at ho
      have hvs := val_snoc ((l.drop n).take j) x
      rw [← hp] at hvs
      have HP := Lib.hid hvs
      have HE := Lib.hid he
      clear hp hvs he
      generalize val ((l.drop n).take j) = y at hv ho HP
      have q1 : wrap64 ((n : Int) + j + 1) = (n : Int) + j + 1 := IntWalk.wrap64_in _ ⟨(by have := HE.out.2.1.1; unfold maxLen at this; omega), (by have := HE.out.2.1.1; unfold maxLen at this; omega)⟩
      go_wp2
      go_quiet (fail)
      go_wp2
      have hst : Eye ((wr.drewN nq).setCell ⟨p, 1, none⟩ (.int .i64 ((n : Int) + j + 1))) p (some ad) c l (n + (j + 1)) := by
        have h1 : Blk (((wr.drewN nq).setCell ⟨p, 1, none⟩ (.int .i64 ((n : Int) + j + 1)))) p 94 #[.slice (some ad) l.length c, .int .i64 ((n : Int) + j + 1)] := Blk.set_ (HE.out.1.drewN nq) 1 _
        refine ⟨by rw [show ((n + (j + 1) : Nat) : Int) = (n : Int) + j + 1 by omega]; exact h1, ri_kp HE.out.2.1 (((Kp.refl (· = p) wr).drewN nq).set_ ⟨p, 1, none⟩ (.inl rfl) _) HE.out.2.2, HE.out.2.2⟩
      go_roundw
      case rel => exact ⟨j + 1, by omega, by rw [HP.out]; exact congrArg _ (by omega), by go_num, hst, (hkp.drewN nq).set_ ⟨p, 1, none⟩ (.inl rfl) _⟩
      case measure => simp [intOf]; omega
    · have hjk : j = k := by omega
      subst hjk
      have HE := Lib.hid he
      clear he
      go_wp2
      go_ret2
      exact ⟨rfl, HE.out, hkp⟩
end Go.Proofs.Ytjkngcpmcmffmaa.Octet
