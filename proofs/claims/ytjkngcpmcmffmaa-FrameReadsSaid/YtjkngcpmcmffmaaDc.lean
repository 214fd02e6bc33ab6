/- Decode: which frame, or which error, of any bytes. -/
import Derived.Test.YtjkngcpmcmffmaaKd
namespace Go.Proofs.Ytjkngcpmcmffmaa.Dc
open Go.RowKit Go.Proofs.Ytjkngcpmcmffmaa.Bk Go.Proofs.Ytjkngcpmcmffmaa.Rw Go.Proofs.Ytjkngcpmcmffmaa.Ow Go.Proofs.Ytjkngcpmcmffmaa.Kp Go.Proofs.Ytjkngcpmcmffmaa.Sq Go.Proofs.Ytjkngcpmcmffmaa.Octet Go.Proofs.Ytjkngcpmcmffmaa.Fr Go.Proofs.Ytjkngcpmcmffmaa.Pn Go.Proofs.Ytjkngcpmcmffmaa.Crc Go.Proofs.Ytjkngcpmcmffmaa.Cr Go.Proofs.Ytjkngcpmcmffmaa.Gn Go.Proofs.Ytjkngcpmcmffmaa.Kd
/-- A kind's empty frame: its fields. -/
def zf (k : Nat) : List Fld := flds k (List.replicate (spec k).length 0)
def tot (k : Nat) : Int := total (zf k)
def off (fs : List Fld) (j : Nat) : Nat := (total (fs.take j)).toNat
def part (fs : List Fld) (l : List Int) (j : Nat) : Int := val ((l.drop (1 + off fs j)).take (fs.getD j ⟨0, 0, 0⟩).size.toNat)
/-- The numbers of the fields, read one behind the other. -/
def parts (fs : List Fld) (l : List Int) (n : Nat) : List Int := (List.range n).map (part fs l)
theorem parts_succ (fs : List Fld) (l : List Int) (n : Nat) : parts fs l (n + 1) = parts fs l n ++ [part fs l n] := by simp [parts, List.range_succ]
/-- The kind that bytes name. -/
def dk (l : List Int) : Nat := (l.getD 0 0).toNat
def dn (l : List Int) : List Int := mk (dk l) (parts (zf (dk l)) l (zf (dk l)).length)
/-- Decode's error. -/
def de (l : List Int) : Int :=
  if 64 < l.length then 5 else if l.length = 0 ∨ ¬ (1 ≤ dk l ∧ dk l ≤ 6) ∨ (l.length : Int) ≠ tot (dk l) + 3 then 3 else if goes 65535 l ≠ 0 then 4 else if (flds (dk l) (dn l)).all Fld.ok then 0 else 3
def dv (l : List Int) : Value := if de l = 0 then frm (dk l) (dn l) else .nilIface
theorem nk_zero {k : Nat} (hk : 1 ≤ k ∧ k ≤ 6) : Nk k (List.replicate (spec k).length 0) := by
  rcases (by omega : k = 1 ∨ k = 2 ∨ k = 3 ∨ k = 4 ∨ k = 5 ∨ k = 6) with rfl | rfl | rfl | rfl | rfl | rfl <;>
  · refine ⟨by simp, fun f hf _ => ?_⟩
    simp [flds, spec] at hf
    rcases hf with rfl | rfl | rfl | rfl | rfl | rfl | rfl | rfl <;> simp
theorem zf_kn {k : Nat} (hk : 1 ≤ k ∧ k ≤ 6) : Kn k (tid k) (fid k) (vals k (List.replicate (spec k).length 0)) (zf k) := kn_of hk (nk_zero hk)
theorem num_at (p : Nat) (A : Option Addr) (c : Nat) (l : List Int) (n k : Nat) (K : Int) (hK : K = k) (w : World) (h : Eye w p A c l n) (hb : Bytes l) (hk : k ≤ 8) (hn : n + k ≤ l.length) :
    Calls Try.prog 21 #[.pointer (some ⟨p, 0, none⟩), .int .i64 K] w fun e w' => e = .returned (.tuple #[.int .u64 (val ((l.drop n).take k)), .bool true]) ∧ Eye w' p A c l (n + k) ∧ Kp (· = p) w w' := by
  subst hK
  exact num_yes p A c l n k w h hb hk hn
theorem iface_not_nil (T : Nat) (v : Value) (w : World) : (binOp .eql 25 (.iface T v) .nilIface).run Try.prog w = .ok (.bool false) w := by
  first | kernel_rfl | rfl
set_option maxHeartbeats 2000000 in
theorem decode_no (A : Option Addr) (c : Nat) (l : List Int) (hl : Bytes l) (hn : l.length ≤ 1000) (w : World) (hR : Ri .u8 w A l) (h : 64 < l.length ∨ l.length = 0 ∨ ¬ (1 ≤ dk l ∧ dk l ≤ 6)) :
    Calls Try.prog 10 #[.slice A l.length c] w fun e w' => e = .returned (.tuple #[.nilIface, .int .i64 (de l)]) ∧ Below w.heap.size w w' := by
  have HR := Lib.hid hR
  have HL := Lib.hid hl
  clear hR hl
  by_cases h1 : 64 < l.length
  · have hd : de l = 5 := by unfold de; rw [if_pos h1]
    rw [hd]
    have n1 : (64 : Int) < (l.length : Int) := by omega
    go_enter Try.func10, Try.ntmps10
    go_wp2
    go_ret2
    exact ⟨rfl, Below.refl _ _⟩
  · have hd : de l = 3 := by unfold de; rw [if_neg h1, if_pos (by rcases h with h | h | h; exact absurd h h1; exact .inl h; exact .inr (.inl h))]
    rw [hd]
    have n1 : ¬ (64 : Int) < (l.length : Int) := by omega
    have CO := Lib.hid (of_ok A c l w HR.out (by omega))
    by_cases h0 : l.length = 0
    · obtain rfl := List.eq_nil_of_length_eq_zero h0
      go_enter Try.func10, Try.ntmps10
      go_wp2_with (first
        | (go_at_call 20
           (with_reducible refine Calls.mono CO.out ?_)
           rintro e w1 ⟨p, A', c', rfl, he, hp, hA, hb1⟩
           have HE := Lib.hid he
           have HB1 := Lib.hid hb1
           clear he hb1)
        | (go_at_call 21
           (with_reducible refine Calls.mono (num_no p A' c' [] 0 1 _ HE.out (by omega) (.inr (.inr (by decide)))) ?_)
           rintro e w2 ⟨rfl, m, rfl⟩)
        | (go_at_call 22
           (with_reducible refine Calls.mono (blank_no (k := 0) (by decide) _) ?_)
           rintro e w3 ⟨rfl, rfl⟩))
      go_ret2
      exact ⟨rfl, below_drewN_ HB1.out m⟩
    · have hk : ¬ (1 ≤ dk l ∧ dk l ≤ 6) := by rcases h with h | h | h; exact absurd h h1; exact absurd h h0; exact h
      have hx : 0 ≤ l.getD 0 0 ∧ l.getD 0 0 ≤ 255 := HL.out _ (by rw [List.getD_eq_getElem?_getD, List.getElem?_eq_getElem (by omega)]; exact List.getElem_mem _)
      have hv : val ((l.drop 0).take 1) = l.getD 0 0 := by
        cases l with
        | nil => exact absurd rfl h0
        | cons x l => simp [val]
      have HV := Lib.hid hv
      have hkk : ¬ (1 ≤ l.getD 0 0 ∧ l.getD 0 0 ≤ 6) := fun hh => hk (by unfold dk; omega)
      have CB := Lib.hid (fun w => blank_no hkk w)
      have hlen : 0 + 1 ≤ l.length := by omega
      clear hk h hv
      generalize l.getD 0 0 = x at HV CB hx hkk
      go_enter Try.func10, Try.ntmps10
      go_wp2_with (first
        | (go_at_call 20
           (with_reducible refine Calls.mono CO.out ?_)
           rintro e w1 ⟨p, A', c', rfl, he, hp, hA, hb1⟩
           have HE := Lib.hid he
           have HB1 := Lib.hid hb1
           have hs1 := hb1.size
           clear he hb1)
        | (go_at_call 21
           (with_reducible refine Calls.mono (num_at p A' c' l 0 1 1 rfl _ HE.out HL.out (by decide) hlen) ?_)
           rintro e w2 ⟨rfl, _, hk2⟩
           rw [HV.out]
           have HK2 := Lib.hid hk2
           clear hk2)
        | (go_at_call 22
           (with_reducible refine Calls.mono (CB.out _) ?_)
           rintro e w3 ⟨rfl, rfl⟩))
      go_ret2
      exact ⟨rfl, below_kp HB1.out hs1 HK2.out (fun k e => by omega)⟩
theorem total_le {fs : List Fld} {m : Nat} (h : ∀ f ∈ fs, ∃ s : Nat, f.size = s ∧ s ≤ 8) : total (fs.take m) ≤ total fs := by
  have h1 : total fs = total (fs.take m) + total (fs.drop m) := by
    unfold total
    rw [← List.sum_append, ← List.map_append, List.take_append_drop]
  have := (total_bd (fs := fs.drop m) (fun f hf => h f (List.mem_of_mem_drop hf))).1
  omega
theorem dk_val {l : List Int} (hl : Bytes l) (h0 : 0 < l.length) : val ((l.drop 0).take 1) = (dk l : Int) ∧ dk l ≤ 255 := by
  have hx : 0 ≤ l.getD 0 0 ∧ l.getD 0 0 ≤ 255 := hl _ (by rw [List.getD_eq_getElem?_getD, List.getElem?_eq_getElem (by omega)]; exact List.getElem_mem _)
  have hv : val ((l.drop 0).take 1) = l.getD 0 0 := by
    cases l with
    | nil => exact absurd h0 (by simp)
    | cons x l => simp [val]
  rw [hv]
  unfold dk
  omega
/-- A kind's empty frame, with all that is known of it. -/
theorem blank_kn {k : Nat} (hk : 1 ≤ k ∧ k ≤ 6) : ∃ T F v fs, Kn k T F v fs ∧ (∀ w, Calls Try.prog 22 #[.int .u64 k] w fun e w' => e = .returned (.iface T v) ∧ w = w') ∧ total fs = tot k ∧ T = tid k ∧ fs = zf k :=
  ⟨_, _, _, _, zf_kn hk, fun w => blank_yes hk w, rfl, rfl, rfl⟩
set_option maxHeartbeats 4000000 in
theorem decode_size (A : Option Addr) (c : Nat) (l : List Int) (hl : Bytes l) (w : World) (hR : Ri .u8 w A l) (h64 : l.length ≤ 64) (h0 : 0 < l.length) (hk : 1 ≤ dk l ∧ dk l ≤ 6) (hs : (l.length : Int) ≠ tot (dk l) + 3) :
    Calls Try.prog 10 #[.slice A l.length c] w fun e w' => e = .returned (.tuple #[.nilIface, .int .i64 3]) ∧ Below w.heap.size w w' := by
  have HR := Lib.hid hR
  have HL := Lib.hid hl
  have n1 : ¬ (64 : Int) < (l.length : Int) := by omega
  have CO := Lib.hid (of_ok A c l w HR.out (by omega))
  have HV := Lib.hid (dk_val hl h0).1
  obtain ⟨T, F, v, fs, KN, hbl, htt, hT, hfs⟩ := blank_kn hk
  have CB := Lib.hid hbl
  have hz := total_bd KN.sz
  have hz8 := KN.len
  have CS := Lib.hid (fun w => size_kn KN w)
  have CP := Lib.hid (fun (w' : World) (_ : Ri .u8 w' A l) => True.intro)
  have hlen : 0 + 1 ≤ l.length := by omega
  have hnil := iface_not_nil T v
  rw [← htt] at hs
  generalize total fs = tt at CS hs hz
  have hne : ((l.length : Int) != tt + 3) = true := bne_iff_ne.mpr hs
  have hwr : IntKind.i64.wrap (tt + 3) = tt + 3 := by rw [IntKind.wrap_i64]; omega
  clear hR hl hs hz hz8 hbl htt hT hfs
  go_enter Try.func10, Try.ntmps10
  go_wp2_with (first
    | (go_at_call 20
       (with_reducible refine Calls.mono CO.out ?_)
       rintro e w1 ⟨p, A', c', rfl, he, hp, hA, hb1⟩
       have HE := Lib.hid he
       have HB1 := Lib.hid hb1
       have HAA := Lib.hid hA
       have hs1 := hb1.size
       have hpl := he.1.lt
       clear he hb1 hA)
    | (go_at_call 21
       (with_reducible refine Calls.mono (num_at p A' c' l 0 1 1 rfl _ HE.out HL.out (by decide) hlen) ?_)
       rintro e w2 ⟨rfl, he2, hk2⟩
       rw [HV.out]
       have HE2 := Lib.hid he2
       have hs2 := hk2.size
       have HB2 := Lib.hid (below_kp HB1.out hs1 hk2 (fun k e => by omega))
       clear hk2 he2)
    | (go_at_call 22
       (with_reducible refine Calls.mono (CB.out _) ?_)
       rintro e w3 ⟨rfl, rfl⟩)
    | (go_at_call 23
       (with_reducible refine Calls.mono (CS.out _) ?_)
       rintro e w4 ⟨rfl, hb4⟩
       have HB4 := Lib.hid (HB2.out.trans (hb4.mono HB2.out.size))
       have HE4 := Lib.hid (HE2.out.kp (S := fun _ => False) (Kp.of_below hb4) (fun h => h) (fun _ _ h => h))
       have hs4 := hb4.size
       clear hb4)
    | (go_at_call 24
       (with_reducible refine Calls.mono (CP.out _ (HR.out.below (HB4.out.mono (by omega)))) ?_)
       skip))
  go_ret2
  exact ⟨rfl, HB4.out⟩
set_option maxHeartbeats 4000000 in
theorem decode_sum (A : Option Addr) (c : Nat) (l : List Int) (hl : Bytes l) (w : World) (hR : Ri .u8 w A l) (hlc : l.length ≤ c) (h64 : l.length ≤ 64) (h0 : 0 < l.length) (hk : 1 ≤ dk l ∧ dk l ≤ 6) (hs : (l.length : Int) = tot (dk l) + 3) (hg : goes 65535 l ≠ 0) :
    Calls Try.prog 10 #[.slice A l.length c] w fun e w' => e = .returned (.tuple #[.nilIface, .int .i64 4]) ∧ Below w.heap.size w w' := by
  have HR := Lib.hid hR
  have HL := Lib.hid hl
  have n1 : ¬ (64 : Int) < (l.length : Int) := by omega
  have CO := Lib.hid (of_ok A c l w HR.out (by omega))
  have HV := Lib.hid (dk_val hl h0).1
  obtain ⟨T, F, v, fs, KN, hbl, htt, hT, hfs⟩ := blank_kn hk
  have CB := Lib.hid hbl
  have hz := total_bd KN.sz
  have hz8 := KN.len
  have CS := Lib.hid (fun w => size_kn KN w)
  have CP := Lib.hid (fun (w' : World) (h : Ri .u8 w' A l) => open_no A c l w' h hlc hl (by omega) (.inr hg))
  have hlen : 0 + 1 ≤ l.length := by omega
  have hnil := iface_not_nil T v
  rw [← htt] at hs
  generalize total fs = tt at CS hs hz
  have hne : ((l.length : Int) != tt + 3) = false := by rw [hs]; simp
  have hwr : IntKind.i64.wrap (tt + 3) = tt + 3 := by rw [IntKind.wrap_i64]; omega
  have HGG := Lib.hid hg
  have HSS := Lib.hid hs
  clear hR hl hs hz hz8 hbl htt hT hfs hg
  go_enter Try.func10, Try.ntmps10
  go_wp2_with (first
    | (go_at_call 20
       (with_reducible refine Calls.mono CO.out ?_)
       rintro e w1 ⟨p, A', c', rfl, he, hp, hA, hb1⟩
       have HE := Lib.hid he
       have HB1 := Lib.hid hb1
       have HAA := Lib.hid hA
       have hs1 := hb1.size
       have hpl := he.1.lt
       clear he hb1 hA)
    | (go_at_call 21
       (with_reducible refine Calls.mono (num_at p A' c' l 0 1 1 rfl _ HE.out HL.out (by decide) hlen) ?_)
       rintro e w2 ⟨rfl, he2, hk2⟩
       rw [HV.out]
       have HE2 := Lib.hid he2
       have hs2 := hk2.size
       have HB2 := Lib.hid (below_kp HB1.out hs1 hk2 (fun k e => by omega))
       clear hk2 he2)
    | (go_at_call 22
       (with_reducible refine Calls.mono (CB.out _) ?_)
       rintro e w3 ⟨rfl, rfl⟩)
    | (go_at_call 23
       (with_reducible refine Calls.mono (CS.out _) ?_)
       rintro e w4 ⟨rfl, hb4⟩
       have HB4 := Lib.hid (HB2.out.trans (hb4.mono HB2.out.size))
       have HE4 := Lib.hid (HE2.out.kp (S := fun _ => False) (Kp.of_below hb4) (fun h => h) (fun _ _ h => h))
       have hs4 := hb4.size
       clear hb4)
    | (go_at_call 24
       (with_reducible refine Calls.mono (CP.out _ (HR.out.below (HB4.out.mono (by omega)))) ?_)
       rintro e w5 ⟨rfl, rfl⟩))
  go_ret2
  exact ⟨rfl, HB4.out⟩
set_option maxRecDepth 100000 in
set_option maxHeartbeats 4000000 in
theorem decode_end (A : Option Addr) (c : Nat) (l : List Int) (hl : Bytes l) (w : World) (hR : Ri .u8 w A l) (hlc : l.length ≤ c) (h64 : l.length ≤ 64) (h0 : 0 < l.length) (hk : 1 ≤ dk l ∧ dk l ≤ 6) (hs : (l.length : Int) = tot (dk l) + 3) (hg : goes 65535 l = 0) (hnk : Nk (dk l) (dn l)) :
    Calls Try.prog 10 #[.slice A l.length c] w fun e w' => e = .returned (if (flds (dk l) (dn l)).all Fld.ok = true then .tuple #[frm (dk l) (dn l), .int .i64 0] else .tuple #[.nilIface, .int .i64 3]) ∧ Below w.heap.size w w' := by
  have HR := Lib.hid hR
  have HL := Lib.hid hl
  have n1 : ¬ (64 : Int) < (l.length : Int) := by omega
  have CO := Lib.hid (of_ok A c l w HR.out (by omega))
  have HV := Lib.hid (dk_val hl h0).1
  obtain ⟨T, F, v, fs, KN, hbl, htt, hT, hfs⟩ := blank_kn hk
  have CB := Lib.hid hbl
  have hz := total_bd KN.sz
  have hz8 := KN.len
  have CS := Lib.hid (fun w => size_kn KN w)
  have CP := Lib.hid (fun (w' : World) (h : Ri .u8 w' A l) => open_yes A c l w' h hlc hl (by omega) (by rw [← htt] at hs; omega) hg)
  have hlen : 0 + 1 ≤ l.length := by omega
  have hnil := iface_not_nil T v
  have hm := KN.met
  have hc := KN.ent
  have HFL := Lib.hid KN.fld
  have HSZ := Lib.hid KN.sz
  have HT := Lib.hid hT
  have HFS := Lib.hid hfs
  rw [← htt] at hs
  have HTT := Lib.hid (show (l.length : Int) = total fs + 3 from hs)
  generalize total fs = tt at CS hs hz
  have hne : ((l.length : Int) != tt + 3) = false := by rw [hs]; simp
  have hwr : IntKind.i64.wrap (tt + 3) = tt + 3 := by rw [IntKind.wrap_i64]; omega
  have HSS := Lib.hid hs
  have HNK := Lib.hid hnk
  obtain ⟨RES, hRES⟩ : ∃ RES, (if (flds (dk l) (dn l)).all Fld.ok = true then Value.tuple #[frm (dk l) (dn l), .int .i64 0] else .tuple #[.nilIface, .int .i64 3]) = RES := ⟨_, rfl⟩
  rw [hRES]
  have HRS := Lib.hid hRES
  clear hRES
  clear hR hl hs hz hbl htt hT hfs hg hnk
  go_enter Try.func10, Try.ntmps10
  go_wp2_with (first
    | (go_at_call 20
       (with_reducible refine Calls.mono CO.out ?_)
       rintro e w1 ⟨p, A', c', rfl, he, hp, hA, hb1⟩
       have HE := Lib.hid he
       have HB1 := Lib.hid hb1
       have HAA := Lib.hid hA
       have hs1 := hb1.size
       have hpl := he.1.lt
       clear he hb1 hA)
    | (go_at_call 21
       (with_reducible refine Calls.mono (num_at p A' c' l 0 1 1 rfl _ HE.out HL.out (by decide) hlen) ?_)
       rintro e w2 ⟨rfl, he2, hk2⟩
       rw [HV.out]
       have HE2 := Lib.hid he2
       have hs2 := hk2.size
       have HB2 := Lib.hid (below_kp HB1.out hs1 hk2 (fun k e => by omega))
       clear hk2 he2)
    | (go_at_call 22
       (with_reducible refine Calls.mono (CB.out _) ?_)
       rintro e w3 ⟨rfl, rfl⟩)
    | (go_at_call 23
       (with_reducible refine Calls.mono (CS.out _) ?_)
       rintro e w4 ⟨rfl, hb4⟩
       have HB4 := Lib.hid (HB2.out.trans (hb4.mono HB2.out.size))
       have HE4 := Lib.hid (HE2.out.kp (S := fun _ => False) (Kp.of_below hb4) (fun h => h) (fun _ _ h => h))
       have hs4 := hb4.size
       clear hb4)
    | (go_at_call 24
       (with_reducible refine Calls.mono (CP.out _ (HR.out.below (HB4.out.mono (by omega)))) ?_)
       rintro e w5 ⟨vo, rfl, _, hb5⟩
       have hb5' : Below w4.heap.size w4 w5 := hb5
       have HB5 := Lib.hid (HB4.out.trans (hb5.mono HB4.out.size))
       have HE5 := Lib.hid (HE4.out.kp (S := fun _ => False) (Kp.of_below hb5) (fun h => h) (fun _ _ h => h))
       have hs5 := hb5.size
       clear hb5 hb5')
    | (with_reducible refine Calls.mono (HFL.out _) ?_
       rintro e w6 ⟨g, rfl, hg, hb, hw⟩
       have HBG := Lib.hid hb
       have HB6 := Lib.hid (HB5.out.trans (hw.mono HB5.out.size))
       have HE6 := Lib.hid (HE5.out.kp (S := fun _ => False) (Kp.of_below hw) (fun h => h) (fun _ _ h => h))
       have hs6 := hw.size
       clear hb hw))
  have HP6 := Lib.hid (show p < w6.heap.size by omega)
  have HG6 := Lib.hid HBG.out.lt
  have HA6 := Lib.hid (show ∀ ad, A' = some ad → ad.block < w6.heap.size from fun ad h => by have := HAA.out ad h; omega)
  clear HB1 HB2 HB4 HB5 HE HE2 HE4 HE5 HAA CO CB CS CP
  have hn8 : fs.length ≤ 8 := hz8
  go_loopw [10, 47] (fun s10 s47 wr => ∃ j : Nat, Aside (j ≤ fs.length ∧ s47 = .int .i64 j ∧ Oi .u64 55 wr w6.heap.size s10 (parts fs l j) ∧ Eye wr p A' c' l (1 + off fs j) ∧ Blk wr g 66 (fs.flatMap Fld.cs).toArray ∧ Below w.heap.size w wr ∧ w6.heap.size ≤ wr.heap.size)) (fun _ s47 _ => fs.length - (intOf s47).toNat)
  case atStart => exact ⟨0, Nat.zero_le _, rfl, Oi.nil _ _ _ _, HE6.out, HBG.out, HB6.out, Nat.le_refl _⟩
  case round =>
    obtain ⟨j, hX⟩ := hrel
    obtain ⟨hj, rfl, ho, he, hbg, hbw, hsr⟩ := hX.out
    have HOr := Lib.hid ho
    have HEr := Lib.hid he
    have HGr := Lib.hid hbg
    have HWr := Lib.hid hbw
    clear hX ho he hbg hbw HE6 HBG HB6
    by_cases hlt : j < fs.length
    · obtain ⟨f, hf⟩ : ∃ f, fs[j]? = some f := ⟨_, List.getElem?_eq_getElem hlt⟩
      obtain ⟨x0, x1, x2⟩ := fld_cells HGr.out hf
      obtain ⟨s, hs1, hs2⟩ := HSZ.out f (List.mem_of_getElem? hf)
      have htk := total_take fs j f hf
      have hle := total_le (m := j + 1) HSZ.out
      have hb0 := total_bd (fs := fs.take j) (fun f hf => HSZ.out f (List.mem_of_mem_take hf))
      have htt := HTT.out
      have hoff : off fs (j + 1) = off fs j + s := by unfold off; rw [htk, hs1]; omega
      have hfit : 1 + off fs j + s ≤ l.length := by
        rw [htk, hs1] at hle
        unfold off
        omega
      have hgd : fs.getD j ⟨0, 0, 0⟩ = f := by rw [List.getD_eq_getElem?_getD, hf]; rfl
      have hpart : part fs l j = val ((l.drop (1 + off fs j)).take s) := by unfold part; rw [hgd, hs1]; rfl
      have HPA := Lib.hid (show parts fs l (j + 1) = parts fs l j ++ [val ((l.drop (1 + off fs j)).take s)] by rw [parts_succ, hpart])
      have HOFF := Lib.hid (show 1 + off fs (j + 1) = 1 + off fs j + s by omega)
      have HEN := Lib.hid (HEr.out.kp (S := fun _ => False) ((Kp.refl _ _).alloc (.cells #[.int .i64 f.size, .int .i64 f.n, .int .i64 f.most] 66)) (fun h => h) (fun _ _ h => h))
      have HGN := Lib.hid (HGr.out.alloc (.cells #[.int .i64 f.size, .int .i64 f.n, .int .i64 f.most] 66))
      have HON := Lib.hid (HOr.out.alloc (.cells #[.int .i64 f.size, .int .i64 f.n, .int .i64 f.most] 66))
      have HWN := Lib.hid (HWr.out.alloc HWr.out.size (.cells #[.int .i64 f.size, .int .i64 f.n, .int .i64 f.most] 66))
      have hplen : (parts fs l j).length = j := by simp [parts]
      obtain ⟨fz, fn, fm⟩ := f
      simp only at x0 x1 x2 hs1 HEN HGN HON HWN
      subst hs1
      have CN := Lib.hid (num_at p A' c' l (1 + off fs j) s s rfl _ HEN.out HL.out hs2 hfit)
      have n2 : (j : Int) < (fs.length : Int) := by omega
      obtain ⟨y, hy⟩ : ∃ y, val ((l.drop (1 + off fs j)).take s) = y := ⟨_, rfl⟩
      rw [hy] at CN HPA
      obtain ⟨n, hn⟩ : ∃ n, 1 + off fs j = n := ⟨_, rfl⟩
      rw [hn] at CN HOFF
      clear hf htk hle hb0 htt hoff hfit hgd hpart hy hn
      go_wp2_with (first
        | (go_at_call 21
           (with_reducible refine Calls.mono CN.out ?_)
           rintro e w7 ⟨rfl, he7, hk7⟩
           have HE7 := Lib.hid he7
           have HG7 := Lib.hid (blk_kp HGN.out hk7 (fun e => Blk.ne_ HGN.out HEN.out.1 (by decide) e))
           have HO7 := Lib.hid (oi_kp HON.out hk7 (fun q hq e => by have := (HON.out.owner q hq).1; have := HP6.out; omega))
           have HW7 := Lib.hid (below_kp HWN.out HWN.out.size hk7 (fun k e => by have := HP6.out; omega))
           have hs7 := hk7.size
           have HO8 := Lib.hid (HO7.out.alloc (.cells #[.int .u64 y] 55))
           have HX8 := Lib.hid (Ri.lit .u64 55 w7 [y] (by simp [maxLen]) #[.int .u64 y] rfl (mk := (0, 0)))
           clear he7 hk7)
        | (at_builtin; refine wp_append .u64 55 _ w6.heap.size (.int .u64 0) 8 rfl _ _ 62 rfl Try.underlying62 (by kernel_rfl) rfl _ (parts fs l j) _ _ [y] 1 rfl rfl rfl HO8.out HX8.out ?_ ?_ ?_ ?_))
      · unfold maxLen; simp only [List.length_singleton]; omega
      · simp only [List.length_singleton]; omega
      · simp at hs7 ⊢; omega
      intro v9 w9 ho9 hg9 _
      have hown9 : ∀ q, Value.ownBlock _ = some q → w6.heap.size ≤ q := fun q hq => (HO8.out.owner q hq).1
      have hk9 : Kp (fun k => w6.heap.size ≤ k) w7 w9 := ((Kp.refl _ w7).alloc (.cells #[.int .u64 y] 55)).grown hg9 (fun q hq => .inl (hown9 q hq))
      have HE9 := Lib.hid (HE7.out.kp hk9 (fun h => by have := HP6.out; omega) (fun ad h h2 => by have := HA6.out ad h; omega))
      have HG9 := Lib.hid (blk_kp HG7.out hk9 (fun h => by have := HG6.out; omega))
      have HO9 := Lib.hid ho9
      have HW9 := Lib.hid (below_kp HW7.out HW7.out.size hk9 (fun k h => by omega))
      have hs9 := hk9.size
      clear ho9 hg9 hown9 hk9 HE7 HG7 HO7 HO8 HX8 HW7
      go_wp2
      go_roundw
      case rel => exact ⟨j + 1, by omega, by go_num, by rw [HPA.out]; exact HO9.out, by rw [HOFF.out]; exact HE9.out, HG9.out, HW9.out, by simp at hs7; omega⟩
      case measure => simp [intOf]; omega
    · have hjk : j = fs.length := by omega
      subst hjk
      obtain ⟨A9, c9, rfl, _, hri⟩ := HOr.out.ri
      have hplen : (parts fs l fs.length).length = fs.length := by simp [parts]
      have hml : (parts fs l fs.length).length = (spec (dk l)).length := by rw [hplen, HFS.out]; simp [zf, flds]
      have CM := Lib.hid (made_ok hk A9 c9 (parts fs l fs.length) hml v wr hri)
      rw [← HT.out, show mk (dk l) (parts fs l fs.length) = dn l by unfold dn; rw [HFS.out]] at CM
      have CG := Lib.hid (fun w => good_kn (kn_of hk HNK.out) w)
      change Hid (∀ w, Calls Try.prog 18 #[frm (dk l) (dn l)] w fun e w' => e = .returned (.bool ((flds (dk l) (dn l)).all Fld.ok)) ∧ Below w.heap.size w w') at CG
      generalize frm (dk l) (dn l) = ff at CM CG HRS
      generalize (flds (dk l) (dn l)).all Fld.ok = bb at CG HRS
      generalize (parts fs l fs.length).length = pl at CM
      clear hri hplen hml
      cases bb
      · go_wp2_with (first
          | (go_at_call 25
             (with_reducible refine Calls.mono CM.out ?_)
             rintro e w7 ⟨rfl, hb7⟩
             have HW7 := Lib.hid (HWr.out.trans (hb7.mono HWr.out.size))
             clear hb7)
          | (go_at_call 18
             (with_reducible refine Calls.mono (CG.out _) ?_)
             rintro e w8 ⟨rfl, hb8⟩))
        go_ret2
        exact ⟨by rw [← HRS.out]; rfl, HW7.out.trans (hb8.mono HW7.out.size)⟩
      · go_wp2_with (first
          | (go_at_call 25
             (with_reducible refine Calls.mono CM.out ?_)
             rintro e w7 ⟨rfl, hb7⟩
             have HW7 := Lib.hid (HWr.out.trans (hb7.mono HWr.out.size))
             clear hb7)
          | (go_at_call 18
             (with_reducible refine Calls.mono (CG.out _) ?_)
             rintro e w8 ⟨rfl, hb8⟩))
        go_ret2
        exact ⟨by rw [← HRS.out]; rfl, HW7.out.trans (hb8.mono HW7.out.size)⟩
theorem u16_bd (m : Int) : 0 ≤ IntKind.u16.wrap m ∧ IntKind.u16.wrap m ≤ 65535 := by rw [a_u16]; omega
theorem nk_mk {k : Nat} (_hk : 1 ≤ k ∧ k ≤ 6) {ms : List Int} (h : ms.length = (spec k).length) : Nk k (mk k ms) := by
  refine ⟨by simp [mk, h], fun f hf h2 => ?_⟩
  unfold flds mk at hf
  obtain ⟨i, hi, he⟩ := List.getElem_of_mem hf
  simp only [List.length_zipWith] at hi
  rw [List.getElem_zipWith, List.getElem_zipWith] at he
  subst he
  simp only at h2 ⊢
  unfold mkf
  rw [if_pos h2]
  exact u16_bd _
theorem nk_dn {l : List Int} (hk : 1 ≤ dk l ∧ dk l ≤ 6) : Nk (dk l) (dn l) := nk_mk hk (by simp [parts, zf, flds])
/-- Decode, of any bytes. -/
theorem decode_ok (A : Option Addr) (c : Nat) (l : List Int) (hl : Bytes l) (hn : l.length ≤ 1000) (hlc : l.length ≤ c) (w : World) (hR : Ri .u8 w A l) :
    Calls Try.prog 10 #[.slice A l.length c] w fun e w' => e = .returned (.tuple #[dv l, .int .i64 (de l)]) ∧ Below w.heap.size w w' := by
  by_cases h1 : 64 < l.length ∨ l.length = 0 ∨ ¬ (1 ≤ dk l ∧ dk l ≤ 6)
  · have hd : dv l = .nilIface := by
      unfold dv
      rw [if_neg]
      unfold de
      rcases h1 with h | h | h
      · rw [if_pos h]; decide
      · by_cases h64 : 64 < l.length
        · rw [if_pos h64]; decide
        · rw [if_neg h64, if_pos (.inl h)]; decide
      · by_cases h64 : 64 < l.length
        · rw [if_pos h64]; decide
        · rw [if_neg h64, if_pos (.inr (.inl h))]; decide
    rw [hd]
    exact decode_no A c l hl hn w hR h1
  · have h64 : ¬ 64 < l.length := fun h => h1 (.inl h)
    have h0 : ¬ l.length = 0 := fun h => h1 (.inr (.inl h))
    have hk : 1 ≤ dk l ∧ dk l ≤ 6 := Classical.byContradiction fun h => h1 (.inr (.inr h))
    by_cases hs : (l.length : Int) = tot (dk l) + 3
    · have hor : ¬ (l.length = 0 ∨ ¬ (1 ≤ dk l ∧ dk l ≤ 6) ∨ (l.length : Int) ≠ tot (dk l) + 3) := by
        rintro (h | h | h)
        · exact h0 h
        · exact h hk
        · exact h hs
      by_cases hg : goes 65535 l = 0
      · refine (decode_end A c l hl w hR hlc (by omega) (by omega) hk hs hg (nk_dn hk)).mono fun e w' ⟨h2, h3⟩ => ⟨?_, h3⟩
        have hd : de l = if (flds (dk l) (dn l)).all Fld.ok = true then 0 else 3 := by unfold de; rw [if_neg h64, if_neg hor, if_neg (fun h => h hg)]
        rw [h2]
        unfold dv
        rw [hd]
        cases (flds (dk l) (dn l)).all Fld.ok <;> simp
      · have hd : de l = 4 := by unfold de; rw [if_neg h64, if_neg hor, if_pos hg]
        have hv : dv l = .nilIface := by unfold dv; rw [hd, if_neg (by decide)]
        rw [hd, hv]
        exact decode_sum A c l hl w hR hlc (by omega) (by omega) hk hs hg
    · have hd : de l = 3 := by unfold de; rw [if_neg h64, if_pos (.inr (.inr hs))]
      have hv : dv l = .nilIface := by unfold dv; rw [hd, if_neg (by decide)]
      rw [hd, hv]
      exact decode_size A c l hl w hR (by omega) (by omega) hk hs
end Go.Proofs.Ytjkngcpmcmffmaa.Dc
