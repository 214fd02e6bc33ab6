/- The reference's Get; what Read answers (plain). -/
import Derived.Test.YtjkngcpmcmffmaaRe
namespace Go.Proofs.Ytjkngcpmcmffmaa.Ge
open Go.RowKit Go.Proofs.Ytjkngcpmcmffmaa.Bk Go.Proofs.Ytjkngcpmcmffmaa.Rw Go.Proofs.Ytjkngcpmcmffmaa.Ow Go.Proofs.Ytjkngcpmcmffmaa.Kp Go.Proofs.Ytjkngcpmcmffmaa.Sq Go.Proofs.Ytjkngcpmcmffmaa.Octet Go.Proofs.Ytjkngcpmcmffmaa.Fr Go.Proofs.Ytjkngcpmcmffmaa.Pn Go.Proofs.Ytjkngcpmcmffmaa.Crc Go.Proofs.Ytjkngcpmcmffmaa.Cr Go.Proofs.Ytjkngcpmcmffmaa.Gn Go.Proofs.Ytjkngcpmcmffmaa.Kd Go.Proofs.Ytjkngcpmcmffmaa.Dc Go.Proofs.Ytjkngcpmcmffmaa.De Go.Proofs.Ytjkngcpmcmffmaa.Pl Go.Proofs.Ytjkngcpmcmffmaa.Al Go.Proofs.Ytjkngcpmcmffmaa.Rd Go.Proofs.Ytjkngcpmcmffmaa.Re
theorem ri_drop {k : IntKind} {w : World} {A : Option Addr} {l : List Int} (h : Ri k w A l) {lo : Nat} (hlo : lo < l.length) : Ri k w (A.map fun x => x.add lo) (l.drop lo) := by
  refine ⟨by have := h.1; rw [List.length_drop]; omega, fun _ => ?_⟩
  obtain ⟨ad, rfl, hlt, hc⟩ := h.2 (by omega)
  refine ⟨ad.add lo, rfl, by rw [block_of_add]; exact hlt, fun j x hx => ?_⟩
  rw [add_of_add]
  rw [List.getElem?_drop] at hx
  exact hc _ x hx
theorem val_take_bd {m : List Int} (hb : Bytes m) (hm : m.length ≤ 8) {j : Nat} (hj : j < m.length) : 0 ≤ val (m.take j) ∧ 256 * val (m.take j) + m.getD j 0 < 18446744073709551616 ∧ val (m.take (j + 1)) = 256 * val (m.take j) + m.getD j 0 ∧ 0 ≤ m.getD j 0 := by
  have h1 := val_bd7 (m.take j) (fun x hx => hb x (List.mem_of_mem_take hx)) (by rw [List.length_take]; omega)
  have hx : 0 ≤ m.getD j 0 ∧ m.getD j 0 ≤ 255 := by
    rw [List.getD_eq_getElem?_getD, List.getElem?_eq_getElem hj]
    exact hb _ (List.getElem_mem hj)
  refine ⟨h1.1, by omega, ?_, hx.1⟩
  rw [List.take_add_one, List.getElem?_eq_getElem hj, Option.toList_some, val_snoc, List.getD_eq_getElem?_getD, List.getElem?_eq_getElem hj]
  rfl
set_option maxHeartbeats 2000000 in
theorem get_ok (A : Option Addr) (c : Nat) (m : List Int) (hb : Bytes m) (hm : m.length ≤ 8) (w : World) (hr : Ri .u8 w A m) : Calls Try.prog 27 #[.slice A m.length c] w fun e w' => e = .returned (.int .u64 (val m)) ∧ w = w' := by
  have HR := Lib.hid hr
  have HBD := Lib.hid (fun j (hj : j < m.length) => val_take_bd hb hm hj)
  obtain ⟨N, hN⟩ : ∃ N, m.length = N := ⟨_, rfl⟩
  rw [hN] at hm HBD ⊢
  have HN := Lib.hid hN
  clear hr hb hN
  go_enter Try.func27, Try.ntmps27
  go_wp2
  go_loopw [3, 5, 8] (fun n _ i wr => ∃ j : Nat, Aside (j ≤ N ∧ i = .int .i64 j ∧ n = .int .u64 (val (m.take j)) ∧ w = wr)) (fun _ _ i _ => N - (intOf i).toNat)
  case atStart => exact ⟨0, Nat.zero_le _, rfl, rfl, rfl⟩
  case round =>
    obtain ⟨j, hX⟩ := hrel
    obtain ⟨hj, rfl, rfl, hw⟩ := hX.out
    subst hw
    clear hX
    by_cases hlt : j < N
    · obtain ⟨ad, rfl, _, hc⟩ := HR.out.at_ (show j < m.length by rw [HN.out]; exact hlt)
      obtain ⟨h0, h1, h2, h3⟩ := HBD.out j hlt
      have HV := Lib.hid h2
      clear h2
      obtain ⟨x, hx⟩ : ∃ x, m.getD j 0 = x := ⟨_, rfl⟩
      obtain ⟨n, hn⟩ : ∃ n, val (m.take j) = n := ⟨_, rfl⟩
      rw [hx] at hc h1 h3 HV
      rw [hn] at h0 h1 HV ⊢
      have q1 : IntKind.u64.wrap (256 * n) = 256 * n := by rw [IntKind.wrap_u64]; omega
      have q2 : IntKind.u64.wrap (256 * n + x) = 256 * n + x := by rw [IntKind.wrap_u64]; omega
      have q3 : IntKind.u64.wrap x = x := by rw [IntKind.wrap_u64]; omega
      have n1 : (j : Int) < (N : Int) := by omega
      clear hx hn
      go_wp2
      go_roundw
      case rel => exact ⟨j + 1, by omega, by go_num, by rw [HV.out], trivial⟩
      case measure => simp [intOf]; omega
    · have HE := Lib.hid (show m.take j = m from List.take_of_length_le (by have := HN.out; omega))
      go_wp2
      go_ret
      exact ⟨by rw [HE.out]; rfl, rfl⟩
/-- The reference's frame of a kind alone. -/
def p0 (l : List Int) : Pl := { pl0 with kind := l.getD 0 0 }
theorem p0_oks (l : List Int) : Oks (p0 l) := by unfold Oks p0 pl0; simp only; omega
theorem p0_nums (l : List Int) : ∀ k, nums (p0 l) k = List.replicate (spec k).length 0
  | 0 | 1 | 2 | 3 | 4 | 5 | 6 => rfl
  | _ + 7 => rfl
theorem p0_in {l : List Int} (hl : Bytes l) (h0 : 0 < l.length) : inK (p0 l) ↔ (1 ≤ dk l ∧ dk l ≤ 6) := by
  have hx : 0 ≤ l.getD 0 0 := by
    rw [List.getD_eq_getElem?_getD, List.getElem?_eq_getElem h0]
    exact (hl _ (List.getElem_mem h0)).1
  unfold inK p0 dk
  simp only
  omega
theorem p0_rf {l : List Int} (hl : Bytes l) (h0 : 0 < l.length) : rf (p0 l) = if 1 ≤ dk l ∧ dk l ≤ 6 then zf (dk l) else [] := by
  unfold rf
  by_cases h : 1 ≤ dk l ∧ dk l ≤ 6
  · rw [if_pos h, if_pos ((p0_in hl h0).2 h), p0_nums]
    rfl
  · rw [if_neg h, if_neg (fun h2 => h ((p0_in hl h0).1 h2))]
/-- What Read answers. -/
def rpl (l : List Int) : Pl := if de l = 0 then pln (dk l) (dn l) else pl0
theorem part_val {l : List Int} (hl : Bytes l) (hk : 1 ≤ dk l ∧ dk l ≤ 6) (ht : (l.length : Int) = tot (dk l) + 3) {j : Nat} {f : Fld} (hf : (zf (dk l))[j]? = some f) :
    0 ≤ Dc.part (zf (dk l)) l j ∧ Dc.part (zf (dk l)) l j < 256 ^ f.size.toNat ∧ 1 + off (zf (dk l)) j + f.size.toNat ≤ l.length ∧ ((l.drop (1 + off (zf (dk l)) j)).take f.size.toNat).length = f.size.toNat ∧ Dc.part (zf (dk l)) l j = val ((l.drop (1 + off (zf (dk l)) j)).take f.size.toNat) := by
  have htk := total_take (zf (dk l)) j _ hf
  have hle : total ((zf (dk l)).take (j + 1)) ≤ total (zf (dk l)) := total_le (flds_sz hk)
  have hb0 := total_bd (fs := (zf (dk l)).take j) (fun f hf => flds_sz hk f (List.mem_of_mem_take hf))
  obtain ⟨s, hs1, _⟩ := flds_sz hk f (List.mem_of_getElem? hf)
  have hfit : 1 + off (zf (dk l)) j + f.size.toNat ≤ l.length := by
    unfold off
    unfold tot at ht
    omega
  have hpt : Dc.part (zf (dk l)) l j = val ((l.drop (1 + off (zf (dk l)) j)).take f.size.toNat) := by
    unfold Dc.part
    rw [List.getD_eq_getElem?_getD, hf]
    rfl
  have hlq : ((l.drop (1 + off (zf (dk l)) j)).take f.size.toNat).length = f.size.toNat := by
    rw [List.length_take, List.length_drop]
    omega
  have hvb := val_bd _ ((bytes_drop hl (1 + off (zf (dk l)) j)).take f.size.toNat)
  rw [hlq, ← hpt] at hvb
  exact ⟨hvb.1, hvb.2, hfit, hlq, hpt⟩
theorem zf_get {k : Nat} {j : Nat} {s : Int × Int} (hs : (spec k)[j]? = some s) : (zf k)[j]? = some ⟨s.1, 0, s.2⟩ := by
  have hj := (List.getElem?_eq_some_iff.1 hs).1
  unfold zf flds
  rw [List.getElem?_zipWith, hs, List.getElem?_replicate, if_pos hj]
theorem zf_spec {k j : Nat} {f : Fld} (hf : (zf k)[j]? = some f) : ∃ s, (spec k)[j]? = some s ∧ f = ⟨s.1, 0, s.2⟩ := by
  have hj := (List.getElem?_eq_some_iff.1 hf).1
  have hz : (zf k).length = (spec k).length := by simp [zf, flds]
  refine ⟨_, List.getElem?_eq_getElem (hz ▸ hj), ?_⟩
  rw [zf_get (List.getElem?_eq_getElem (hz ▸ hj))] at hf
  exact (Option.some.inj hf).symm
theorem mkf_ok {k : Nat} (hk : 1 ≤ k ∧ k ≤ 6) {s : Int × Int} (hs : s ∈ spec k) {v : Int} (h0 : 0 ≤ v) (h1 : v < 256 ^ s.1.toNat) : (Fld.ok ⟨s.1, mkf s v, s.2⟩ = true ↔ v ≤ s.2) ∧ (v ≤ s.2 → mkf s v = v) := by
  obtain ⟨sz, mo⟩ := s
  unfold Fld.ok
  rw [decide_eq_true_iff]
  simp only at h1 ⊢
  unfold mkf
  rcases spec_sz hk hs with ⟨e1, e2⟩ | ⟨e1, e2⟩ | ⟨e1, e2⟩ <;> simp only at e1 e2 <;> subst e1 e2
  · have h2 : v < 256 ^ 1 := h1
    rw [if_neg (by decide), w64 (by omega) (by omega)]
    exact ⟨⟨fun h => h.2, fun h => ⟨h0, h⟩⟩, fun _ => rfl⟩
  · have h2 : v < 256 ^ 2 := h1
    rw [if_pos rfl, a_u16]
    exact ⟨⟨fun h => by omega, fun h => by omega⟩, fun _ => by omega⟩
  · have h2 : v < 256 ^ 8 := h1
    rw [if_neg (by decide)]
    unfold wrap64
    exact ⟨⟨fun h => by omega, fun h => by omega⟩, fun _ => by omega⟩
/-- All fit: then the numbers are the parts. -/
theorem all_fit {l : List Int} (hl : Bytes l) (hk : 1 ≤ dk l ∧ dk l ≤ 6) (ht : (l.length : Int) = tot (dk l) + 3) (h : ∀ j f, (zf (dk l))[j]? = some f → Dc.part (zf (dk l)) l j ≤ f.most) :
    (flds (dk l) (dn l)).all Fld.ok = true ∧ dn l = parts (zf (dk l)) l (zf (dk l)).length := by
  have hz : (zf (dk l)).length = (spec (dk l)).length := by simp [zf, flds]
  constructor
  · rw [List.all_eq_true]
    intro f hf
    obtain ⟨j, hj⟩ := List.getElem?_of_mem hf
    have hj2 : j < (spec (dk l)).length := by
      have := (List.getElem?_eq_some_iff.1 hj).1
      unfold flds at this
      rw [List.length_zipWith] at this
      omega
    have hs := List.getElem?_eq_getElem hj2
    generalize (spec (dk l))[j] = s at hs
    have hf2 := zf_get hs
    obtain ⟨p1, p2, _⟩ := part_val hl hk ht hf2
    unfold flds at hj
    rw [List.getElem?_zipWith, hs, dn_get hs] at hj
    obtain rfl := Option.some.inj hj
    exact (mkf_ok hk (List.mem_of_getElem? hs) p1 p2).1.2 (h j _ hf2)
  · unfold dn mk
    apply List.ext_getElem?
    intro j
    rw [List.getElem?_zipWith]
    unfold parts
    rw [List.getElem?_map, hz]
    by_cases hj : j < (spec (dk l)).length
    · have hs := List.getElem?_eq_getElem hj
      generalize (spec (dk l))[j] = s at hs
      have hf2 := zf_get hs
      obtain ⟨p1, p2, _⟩ := part_val hl hk ht hf2
      rw [hs, List.getElem?_range hj]
      simp only [Option.map_some]
      rw [(mkf_ok hk (List.mem_of_getElem? hs) p1 p2).2 (h j _ hf2)]
    · rw [List.getElem?_eq_none (show (spec (dk l)).length ≤ j by omega), List.getElem?_eq_none (show (List.range (spec (dk l)).length).length ≤ j by simp; omega)]
      rfl
theorem one_over {l : List Int} (hl : Bytes l) (hk : 1 ≤ dk l ∧ dk l ≤ 6) (ht : (l.length : Int) = tot (dk l) + 3) {j : Nat} {f : Fld} (hf : (zf (dk l))[j]? = some f) (h : f.most < Dc.part (zf (dk l)) l j) : (flds (dk l) (dn l)).all Fld.ok = false := by
  obtain ⟨s, hs, rfl⟩ := zf_spec hf
  obtain ⟨p1, p2, _⟩ := part_val hl hk ht hf
  rw [List.all_eq_false]
  refine ⟨⟨s.1, mkf s (Dc.part (zf (dk l)) l j), s.2⟩, List.mem_of_getElem? (i := j) ?_, fun h2 => ?_⟩
  · unfold flds
    rw [List.getElem?_zipWith, hs, dn_get hs]
  · have := (mkf_ok hk (List.mem_of_getElem? hs) p1 p2).1.1 h2
    simp only at h
    omega
end Go.Proofs.Ytjkngcpmcmffmaa.Ge
