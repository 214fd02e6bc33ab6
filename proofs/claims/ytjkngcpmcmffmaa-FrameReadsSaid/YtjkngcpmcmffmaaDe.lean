/- What is encoded is decoded, what is decoded has these bytes (plain). -/
import Derived.Test.YtjkngcpmcmffmaaDc
import Derived.Test.YtjkngcpmcmffmaaBurst
namespace Go.Proofs.Ytjkngcpmcmffmaa.De
open Go.RowKit Go.Proofs.Ytjkngcpmcmffmaa.Bk Go.Proofs.Ytjkngcpmcmffmaa.Rw Go.Proofs.Ytjkngcpmcmffmaa.Ow Go.Proofs.Ytjkngcpmcmffmaa.Kp Go.Proofs.Ytjkngcpmcmffmaa.Sq Go.Proofs.Ytjkngcpmcmffmaa.Octet Go.Proofs.Ytjkngcpmcmffmaa.Fr Go.Proofs.Ytjkngcpmcmffmaa.Pn Go.Proofs.Ytjkngcpmcmffmaa.Crc Go.Proofs.Ytjkngcpmcmffmaa.Cr Go.Proofs.Ytjkngcpmcmffmaa.Gn Go.Proofs.Ytjkngcpmcmffmaa.Kd Go.Proofs.Ytjkngcpmcmffmaa.Dc
theorem val_from : ∀ (l : List Int) (v : Int), l.foldl (fun n x => 256 * n + x) v = v * 256 ^ l.length + val l
  | [], v => by simp [val]
  | x :: l, v => by
    unfold val
    rw [List.foldl_cons, List.foldl_cons, val_from l, val_from l (256 * 0 + x), List.length_cons, Int.pow_succ]
    generalize (256 : Int) ^ l.length = p
    rw [Int.add_mul, ← Int.mul_assoc v p 256, Int.mul_assoc 256 v p, show (256 * 0 + x) * p = x * p by rw [Int.mul_zero, Int.zero_add]]
    omega
theorem val_cons (x : Int) (l : List Int) : val (x :: l) = x * 256 ^ l.length + val l := by
  show List.foldl (fun n x => 256 * n + x) 0 (x :: l) = _
  rw [List.foldl_cons, val_from, Int.mul_zero, Int.zero_add]
theorem pw (k : Nat) : (0 : Int) < 256 ^ k := Int.pow_pos (by decide)
theorem val_be : ∀ (s : Nat) (n : Int), val (be s n) = n % 256 ^ s
  | 0, n => by simp [be, val]
  | s + 1, n => by
    rw [be, val_cons, be_length, val_be s n, Int.pow_succ]
    have hp := pw s
    generalize (256 : Int) ^ s = p at hp
    have h1 := Int.mul_ediv_add_emod n p
    have h2 := Int.mul_ediv_add_emod (n / p) 256
    have h3 := Int.emod_nonneg n (Int.ne_of_gt hp)
    have h4 := Int.emod_lt_of_pos n hp
    have h5 := Int.emod_nonneg (n / p) (show (256 : Int) ≠ 0 by decide)
    have h6 := Int.emod_lt_of_pos (n / p) (show (0 : Int) < 256 by decide)
    generalize n % p = r at *
    generalize n / p % 256 = d at *
    generalize n / p / 256 = q at *
    generalize n / p = t at *
    subst h2
    have h7 : n = (d * p + r) + p * 256 * q := by
      rw [← h1, Int.mul_add, Int.mul_comm p d, ← Int.mul_assoc]
      omega
    have h8 : d * p ≤ 255 * p := Int.mul_le_mul_of_nonneg_right (by omega) (Int.le_of_lt hp)
    have h9 : 0 ≤ d * p := Int.mul_nonneg h5 (Int.le_of_lt hp)
    rw [h7, Int.add_mul_emod_self_left, Int.emod_eq_of_lt (by omega) (by omega)]
theorem be_add : ∀ (k d : Nat) (v x : Int), be k (v + x * 256 ^ (k + d)) = be k v
  | 0, _, _, _ => rfl
  | k + 1, d, v, x => by
    have h1 : x * 256 ^ (k + 1 + d) = x * 256 ^ (k + (d + 1)) := by rw [show k + 1 + d = k + (d + 1) by omega]
    rw [be, be, h1, be_add k (d + 1) v x]
    congr 1
    have hp := pw k
    rw [show x * 256 ^ (k + (d + 1)) = (x * 256 ^ (d + 1)) * 256 ^ k by rw [Int.pow_add, Int.mul_comm (256 ^ k), Int.mul_assoc], Int.add_mul_ediv_right _ _ (Int.ne_of_gt hp), Int.pow_succ, ← Int.mul_assoc, Int.add_mul_emod_self_right]
theorem be_val : ∀ (l : List Int), Bytes l → be l.length (val l) = l
  | [], _ => rfl
  | x :: l, hl => by
    have hx := hl x (by simp)
    have hb : Bytes l := fun y hy => hl y (by simp [hy])
    obtain ⟨v0, v1⟩ := val_bd l hb
    have hp := pw l.length
    rw [val_cons, List.length_cons, be]
    rw [show x * 256 ^ l.length + val l = val l + x * 256 ^ l.length by omega, Int.add_mul_ediv_right _ _ (Int.ne_of_gt hp), Int.ediv_eq_zero_of_lt v0 v1]
    rw [show be l.length (val l + x * 256 ^ l.length) = be l.length (val l) from be_add l.length 0 _ _, be_val l hb]
    congr 1
    omega
/-- The fields' bytes. -/
def flat (fs : List Fld) : List Int := fs.flatMap fun f => be f.size.toNat f.n
theorem off_cons (f : Fld) (fs : List Fld) (j s : Nat) (hs : f.size = s) (h : 0 ≤ total (fs.take j)) : off (f :: fs) (j + 1) = s + off fs j := by
  unfold off total
  rw [List.take_succ_cons, List.map_cons, List.sum_cons, hs]
  unfold total at h
  omega
theorem flat_part : ∀ (fs : List Fld) (_h : ∀ f ∈ fs, ∃ s : Nat, f.size = s ∧ s ≤ 8) (rest : List Int) (j : Nat) (f : Fld), fs[j]? = some f → ((flat fs ++ rest).drop (off fs j)).take f.size.toNat = be f.size.toNat f.n
  | [], _, _, _, _, e => by simp at e
  | f :: fs, h, rest, 0, g, e => by
    obtain rfl : f = g := by simpa using e
    have : off (f :: fs) 0 = 0 := by simp [off, total]
    rw [this, List.drop_zero, flat, List.flatMap_cons, List.append_assoc, List.take_append_of_le_length (by rw [be_length]; omega)]
    rw [List.take_of_length_le (by rw [be_length]; omega)]
  | f :: fs, h, rest, j + 1, g, e => by
    obtain ⟨s, h1, h2⟩ := h f (by simp)
    have ht : ∀ g ∈ fs, ∃ s : Nat, g.size = s ∧ s ≤ 8 := fun g hg => h g (by simp [hg])
    rw [off_cons f fs j s h1 (total_bd fun g hg => ht g (List.mem_of_mem_take hg)).1, flat, List.flatMap_cons, List.append_assoc, show s + off fs j = (be f.size.toNat f.n).length + off fs j by rw [be_length, h1]; rfl, ← List.drop_drop, List.drop_left]
    exact flat_part fs ht rest j g (by simpa using e)
theorem flat_length : ∀ (fs : List Fld) (_h : ∀ f ∈ fs, ∃ s : Nat, f.size = s ∧ s ≤ 8), ((flat fs).length : Int) = total fs
  | [], _ => rfl
  | f :: fs, h => by
    obtain ⟨s, h1, h2⟩ := h f (by simp)
    have := flat_length fs fun g hg => h g (by simp [hg])
    rw [flat, List.flatMap_cons, List.length_append, be_length]
    rw [flat] at this
    simp only [total, List.map_cons, List.sum_cons] at this ⊢
    rw [h1]
    omega
/-- Fields of as many bytes. -/
theorem off_like {fs gs : List Fld} (h : fs.map (·.size) = gs.map (·.size)) (j : Nat) : off fs j = off gs j := by
  unfold off total
  rw [List.map_take, List.map_take, h]
theorem total_like {fs gs : List Fld} (h : fs.map (·.size) = gs.map (·.size)) : total fs = total gs := by unfold total; rw [h]
theorem flds_sizes {k : Nat} {ns : List Int} (h : ns.length = (spec k).length) : (flds k ns).map (·.size) = (spec k).map Prod.fst := by
  unfold flds
  rw [List.map_zipWith]
  apply List.ext_getElem?
  intro i
  rw [List.getElem?_zipWith, List.getElem?_map]
  cases hs : (spec k)[i]? with
  | none => rfl
  | some s =>
    have hi : i < (spec k).length := (List.getElem?_eq_some_iff.1 hs).1
    rw [List.getElem?_eq_getElem (h ▸ hi)]
    rfl
theorem zf_sizes (k : Nat) : (zf k).map (·.size) = (spec k).map Prod.fst := flds_sizes (by simp)
theorem spec_sz {k : Nat} (hk : 1 ≤ k ∧ k ≤ 6) {s : Int × Int} (h : s ∈ spec k) : (s.1 = 1 ∧ s.2 = 63) ∨ (s.1 = 2 ∧ s.2 = 65535) ∨ (s.1 = 8 ∧ s.2 = 1125899906842624) := by
  rcases (by omega : k = 1 ∨ k = 2 ∨ k = 3 ∨ k = 4 ∨ k = 5 ∨ k = 6) with rfl | rfl | rfl | rfl | rfl | rfl <;>
  · revert s; decide
theorem tot_le {k : Nat} (hk : 1 ≤ k ∧ k ≤ 6) : 1 ≤ tot k ∧ tot k ≤ 40 := by
  rcases (by omega : k = 1 ∨ k = 2 ∨ k = 3 ∨ k = 4 ∨ k = 5 ∨ k = 6) with rfl | rfl | rfl | rfl | rfl | rfl <;> decide
theorem flds_sz {k : Nat} (hk : 1 ≤ k ∧ k ≤ 6) {ns : List Int} : ∀ f ∈ flds k ns, ∃ s : Nat, f.size = s ∧ s ≤ 8 := fun f hf => by
  unfold flds at hf
  obtain ⟨i, hi, he⟩ := List.getElem_of_mem hf
  rw [List.getElem_zipWith] at he
  simp only [List.length_zipWith] at hi
  subst he
  rcases spec_sz hk (List.getElem_mem (show i < (spec k).length by omega)) with h | h | h
  · exact ⟨1, h.1, by decide⟩
  · exact ⟨2, h.1, by decide⟩
  · exact ⟨8, h.1, by decide⟩
theorem flds_most {k : Nat} (hk : 1 ≤ k ∧ k ≤ 6) {ns : List Int} : ∀ f ∈ flds k ns, f.most < 18446744073709551616 := fun f hf => by
  unfold flds at hf
  obtain ⟨i, hi, he⟩ := List.getElem_of_mem hf
  rw [List.getElem_zipWith] at he
  simp only [List.length_zipWith] at hi
  subst he
  rcases spec_sz hk (List.getElem_mem (show i < (spec k).length by omega)) with h | h | h <;> (simp only; omega)
theorem tot_is {k : Nat} {ns : List Int} (h : ns.length = (spec k).length) : total (flds k ns) = tot k := total_like ((flds_sizes h).trans (zf_sizes k).symm)
theorem flds_get {k : Nat} {ns : List Int} (h : ns.length = (spec k).length) {j : Nat} (hj : j < ns.length) : (flds k ns)[j]? = some ⟨((spec k)[j]'(h ▸ hj)).1, ns[j], ((spec k)[j]'(h ▸ hj)).2⟩ := by
  unfold flds
  rw [List.getElem?_zipWith, List.getElem?_eq_getElem hj, List.getElem?_eq_getElem (h ▸ hj)]
theorem bytes_length {k : Nat} (hk : 1 ≤ k ∧ k ≤ 6) {ns : List Int} (h : ns.length = (spec k).length) : ((Gn.bytes k (flds k ns)).length : Int) = tot k + 3 := by
  unfold Gn.bytes body
  have := flat_length (flds k ns) (flds_sz hk)
  rw [flat, tot_is h] at this
  rw [List.length_append, List.length_cons]
  simp only [two, List.length_cons, List.length_nil]
  omega
theorem bytes_bytes {k : Nat} (hk : k ≤ 255) (fs : List Fld) : Bytes (Gn.bytes k fs) := (body_bytes hk fs).app (Bytes.two (goes_bd _ _))
theorem bytes_zero (k : Nat) (fs : List Fld) : goes 65535 (Gn.bytes k fs) = 0 := seal_zero _ _
theorem bytes_dk (k : Nat) (fs : List Fld) : dk (Gn.bytes k fs) = k := by simp [dk, Gn.bytes, body]
/-- A field's number is read again. -/
theorem part_is {k : Nat} (hk : 1 ≤ k ∧ k ≤ 6) {ns : List Int} (h : ns.length = (spec k).length) (hok : (flds k ns).all Fld.ok = true) {j : Nat} (hj : j < ns.length) :
    Dc.part (zf k) (Gn.bytes k (flds k ns)) j = ns[j] ∧ mkf ((spec k)[j]'(h ▸ hj)) ns[j] = ns[j] := by
  have hf := flds_get h hj
  have hs : (zf k)[j]? = some ⟨((spec k)[j]'(h ▸ hj)).1, 0, ((spec k)[j]'(h ▸ hj)).2⟩ := by
    have := flds_get (k := k) (ns := List.replicate (spec k).length 0) (by simp) (j := j) (by simp; omega)
    rw [zf, this]; simp
  have ho := List.all_eq_true.1 hok _ (List.mem_of_getElem? hf)
  have hbd : 0 ≤ ns[j] ∧ ns[j] ≤ ((spec k)[j]'(h ▸ hj)).2 := of_decide_eq_true ho
  have hsp := spec_sz hk (List.getElem_mem (show j < (spec k).length by omega))
  have hpt := flat_part (flds k ns) (flds_sz hk) (two (goes 65535 (body k (flds k ns)))) j _ hf
  generalize (spec k)[j]'(h ▸ hj) = s at *
  obtain ⟨sz, mo⟩ := s
  simp only at *
  refine ⟨?_, ?_⟩
  · unfold Dc.part
    rw [off_like (gs := flds k ns) ((zf_sizes k).trans (flds_sizes h).symm), List.getD_eq_getElem?_getD, hs]
    show val (((Gn.bytes k (flds k ns)).drop (1 + off (flds k ns) j)).take sz.toNat) = _
    rw [Nat.add_comm 1, show Gn.bytes k (flds k ns) = (k : Int) :: (flat (flds k ns) ++ two (goes 65535 (body k (flds k ns)))) from rfl, List.drop_succ_cons, hpt, val_be]
    rcases hsp with ⟨rfl, rfl⟩ | ⟨rfl, rfl⟩ | ⟨rfl, rfl⟩
    · exact Int.emod_eq_of_lt hbd.1 (by show _ < (256 : Int) ^ 1; omega)
    · exact Int.emod_eq_of_lt hbd.1 (by show _ < (256 : Int) ^ 2; omega)
    · exact Int.emod_eq_of_lt hbd.1 (by show _ < (256 : Int) ^ 8; omega)
  · unfold mkf
    rcases hsp with ⟨rfl, rfl⟩ | ⟨rfl, rfl⟩ | ⟨rfl, rfl⟩
    · rw [if_neg (by decide), w64 (by omega) (by omega)]
    · rw [if_pos rfl, a_u16]; omega
    · rw [if_neg (by decide), w64 (by omega) (by omega)]
theorem dn_is {k : Nat} (hk : 1 ≤ k ∧ k ≤ 6) {ns : List Int} (h : ns.length = (spec k).length) (hok : (flds k ns).all Fld.ok = true) : dn (Gn.bytes k (flds k ns)) = ns := by
  unfold dn
  rw [bytes_dk]
  unfold mk parts
  apply List.ext_getElem?
  intro j
  have hz : (zf k).length = (spec k).length := by simp [zf, flds]
  rw [List.getElem?_zipWith, List.getElem?_map, hz]
  by_cases hj : j < ns.length
  · obtain ⟨h1, h2⟩ := part_is hk h hok hj
    rw [List.getElem?_eq_getElem (show j < (spec k).length by omega), List.getElem?_range (show j < (spec k).length by omega), List.getElem?_eq_getElem hj]
    simp only [Option.map_some, h1, h2]
  · rw [List.getElem?_eq_none (show (spec k).length ≤ j by omega), List.getElem?_eq_none (show ns.length ≤ j by omega)]
/-- What is encoded is decoded. -/
theorem round {k : Nat} (hk : 1 ≤ k ∧ k ≤ 6) {ns : List Int} (h : ns.length = (spec k).length) (hok : (flds k ns).all Fld.ok = true) : de (Gn.bytes k (flds k ns)) = 0 ∧ dv (Gn.bytes k (flds k ns)) = frm k ns := by
  have hl := bytes_length hk h
  have ht := tot_le hk
  have e : de (Gn.bytes k (flds k ns)) = 0 := by
    unfold de
    rw [bytes_dk, dn_is hk h hok, if_neg (by omega), if_neg (by rintro (h | h | h) <;> omega), if_neg (fun h => h (bytes_zero _ _)), if_pos hok]
  refine ⟨e, ?_⟩
  unfold dv
  rw [if_pos e, bytes_dk, dn_is hk h hok]
open Go.Proofs.Ytjkngcpmcmffmaa.CrcM
theorem zero_iff (s : Int) (P : List Int) (u v : Int) (hu : 0 ≤ u ∧ u ≤ 255) (hv : 0 ≤ v ∧ v ≤ 255) : goes s (P ++ [u, v]) = 0 ↔ goes s P = u * 256 + v := by
  have hb := goes_bd s P
  rw [← goes_append]
  generalize goes s P = x at hb
  constructor
  · intro h
    unfold goes allBits at h
    obtain ⟨n, rfl⟩ := Int.eq_ofNat_of_zero_le hb.1
    obtain ⟨a, rfl⟩ := Int.eq_ofNat_of_zero_le hu.1
    obtain ⟨b, rfl⟩ := Int.eq_ofNat_of_zero_le hv.1
    simp only [List.flatMap_cons, List.flatMap_nil, List.append_nil, Int.toNat_natCast] at h
    have h1 := crc_back (bitsOf a ++ bitsOf b) (BitVec.ofNat 16 n) (by simp [bitsOf]) (BitVec.eq_of_toNat_eq (by simp; omega))
    have h2 := own_bits (BitVec.ofNat 16 (a * 256 + b))
    rw [BitVec.toNat_ofNat, Nat.mod_eq_of_lt (show a * 256 + b < 2 ^ 16 by omega), show (a * 256 + b) / 256 = a by omega, show (a * 256 + b) % 256 = b by omega] at h2
    have h3 := crc_back (bitsOf a ++ bitsOf b) _ (by simp [bitsOf]) h2
    rw [← h3] at h1
    have h4 := congrArg BitVec.toNat h1
    rw [BitVec.toNat_ofNat, BitVec.toNat_ofNat, Nat.mod_eq_of_lt (show n < 2 ^ 16 by omega), Nat.mod_eq_of_lt (show a * 256 + b < 2 ^ 16 by omega)] at h4
    omega
  · rintro rfl
    have h := seal_zero (u * 256 + v) []
    have h0 : goes (u * 256 + v) [] = u * 256 + v := by
      unfold goes allBits
      simp only [List.flatMap_nil, crc_nil, BitVec.toNat_ofNat]
      omega
    rw [h0, List.nil_append] at h
    unfold two at h
    rwa [show (u * 256 + v) / 256 = u by omega, show (u * 256 + v) % 256 = v by omega] at h
/-- What de says of bytes that are decoded. -/
theorem de_zero {l : List Int} (h : de l = 0) : l.length ≤ 64 ∧ 0 < l.length ∧ (1 ≤ dk l ∧ dk l ≤ 6) ∧ (l.length : Int) = tot (dk l) + 3 ∧ goes 65535 l = 0 ∧ (flds (dk l) (dn l)).all Fld.ok = true := by
  unfold de at h
  by_cases h1 : 64 < l.length
  · rw [if_pos h1] at h; omega
  rw [if_neg h1] at h
  by_cases h2 : l.length = 0 ∨ ¬ (1 ≤ dk l ∧ dk l ≤ 6) ∨ (l.length : Int) ≠ tot (dk l) + 3
  · rw [if_pos h2] at h; omega
  rw [if_neg h2] at h
  by_cases h3 : goes 65535 l ≠ 0
  · rw [if_pos h3] at h; omega
  rw [if_neg h3] at h
  by_cases h4 : (flds (dk l) (dn l)).all Fld.ok = true
  · refine ⟨by omega, by omega, ?_, by omega, by omega, h4⟩
    by_cases hk : 1 ≤ dk l ∧ dk l ≤ 6
    · exact hk
    · exact absurd (.inr (.inl hk)) h2
  · rw [if_neg h4] at h; omega
theorem bytes_drop {l : List Int} (h : Bytes l) (n : Nat) : Bytes (l.drop n) := fun x hx => h x (List.mem_of_mem_drop hx)
theorem dn_length (l : List Int) : (dn l).length = (spec (dk l)).length := by simp [dn, mk, parts, zf, flds]
theorem dn_get {l : List Int} {j : Nat} {s : Int × Int} (hs : (spec (dk l))[j]? = some s) : (dn l)[j]? = some (mkf s (Dc.part (zf (dk l)) l j)) := by
  have hz : (zf (dk l)).length = (spec (dk l)).length := by simp [zf, flds]
  have hj := (List.getElem?_eq_some_iff.1 hs).1
  unfold dn mk parts
  rw [List.getElem?_zipWith, List.getElem?_map, hz, hs, List.getElem?_range hj]
  rfl
/-- A field that is decoded has just these bytes. -/
theorem part_back {l : List Int} (hl : Bytes l) (hk : 1 ≤ dk l ∧ dk l ≤ 6) (ht : (l.length : Int) = tot (dk l) + 3) (hok : (flds (dk l) (dn l)).all Fld.ok = true) {j : Nat} {f : Fld} (hf : (flds (dk l) (dn l))[j]? = some f) :
    be f.size.toNat f.n = (l.drop (1 + off (flds (dk l) (dn l)) j)).take f.size.toNat := by
  have hlen := dn_length l
  have hj : j < (dn l).length := by
    have := (List.getElem?_eq_some_iff.1 hf).1
    unfold flds at this
    rw [List.length_zipWith] at this
    omega
  have hg := flds_get hlen hj
  rw [hg] at hf
  obtain rfl : _ = f := by injection hf
  have ho : 0 ≤ (dn l)[j] ∧ (dn l)[j] ≤ ((spec (dk l))[j]'(hlen ▸ hj)).2 := of_decide_eq_true (List.all_eq_true.1 hok _ (List.mem_of_getElem? hg))
  have hsp := spec_sz hk (List.getElem_mem (show j < (spec (dk l)).length by omega))
  have hz : (zf (dk l)).length = (spec (dk l)).length := by simp [zf, flds]
  have hd : (dn l)[j] = mkf ((spec (dk l))[j]'(hlen ▸ hj)) (Dc.part (zf (dk l)) l j) := by
    have : (dn l)[j]? = some (mkf ((spec (dk l))[j]'(hlen ▸ hj)) (Dc.part (zf (dk l)) l j)) := by
      exact dn_get (List.getElem?_eq_getElem _)
    rw [List.getElem?_eq_getElem hj] at this
    exact Option.some.inj this
  have hs : (zf (dk l))[j]? = some ⟨((spec (dk l))[j]'(hlen ▸ hj)).1, 0, ((spec (dk l))[j]'(hlen ▸ hj)).2⟩ := by
    have := flds_get (k := dk l) (ns := List.replicate (spec (dk l)).length 0) (by simp) (j := j) (by simp; omega)
    rw [zf, this]; simp
  have htk := total_take (zf (dk l)) j _ hs
  have hle : total ((zf (dk l)).take (j + 1)) ≤ total (zf (dk l)) := total_le (flds_sz hk)
  have hb0 := total_bd (fs := (zf (dk l)).take j) (fun f hf => flds_sz hk f (List.mem_of_mem_take hf))
  rw [off_like (gs := zf (dk l)) ((flds_sizes hlen).trans (zf_sizes _).symm)]
  have hpt : Dc.part (zf (dk l)) l j = val ((l.drop (1 + off (zf (dk l)) j)).take ((spec (dk l))[j]'(hlen ▸ hj)).1.toNat) := by
    unfold Dc.part
    rw [List.getD_eq_getElem?_getD, hs]
    rfl
  have hlq : ((l.drop (1 + off (zf (dk l)) j)).take ((spec (dk l))[j]'(hlen ▸ hj)).1.toNat).length = ((spec (dk l))[j]'(hlen ▸ hj)).1.toNat := by
    rw [List.length_take, List.length_drop]
    unfold off
    unfold tot at ht
    simp only at htk
    omega
  have hbq : Bytes ((l.drop (1 + off (zf (dk l)) j)).take ((spec (dk l))[j]'(hlen ▸ hj)).1.toNat) := (bytes_drop hl _).take _
  generalize (l.drop (1 + off (zf (dk l)) j)).take ((spec (dk l))[j]'(hlen ▸ hj)).1.toNat = Q at hpt hlq hbq
  have hv := be_val Q hbq
  have hvb := val_bd Q hbq
  rw [hpt] at hd
  simp only
  rw [hd]
  rw [hd] at ho
  generalize (spec (dk l))[j]'(hlen ▸ hj) = s at *
  obtain ⟨sz, mo⟩ := s
  simp only at *
  have hm : mkf (sz, mo) (val Q) = val Q := by
    rw [hlq] at hvb
    revert ho
    unfold mkf
    rcases hsp with ⟨rfl, rfl⟩ | ⟨rfl, rfl⟩ | ⟨rfl, rfl⟩
    · have h2 : val Q < 256 ^ 1 := hvb.2
      rw [if_neg (by decide), w64 (by omega) (by omega)]
      intro _; rfl
    · have h2 : val Q < 256 ^ 2 := hvb.2
      rw [if_pos rfl, a_u16]
      intro _; omega
    · have h2 : val Q < 256 ^ 8 := hvb.2
      rw [if_neg (by decide)]
      unfold wrap64
      omega
  rw [hm, ← hlq, hv]
theorem flat_take {l : List Int} (hl : Bytes l) (hk : 1 ≤ dk l ∧ dk l ≤ 6) (ht : (l.length : Int) = tot (dk l) + 3) (hok : (flds (dk l) (dn l)).all Fld.ok = true) : ∀ j, j ≤ (flds (dk l) (dn l)).length → flat ((flds (dk l) (dn l)).take j) = (l.drop 1).take (off (flds (dk l) (dn l)) j)
  | 0, _ => by simp [flat, off, total]
  | j + 1, h => by
    obtain ⟨f, hf⟩ : ∃ f, (flds (dk l) (dn l))[j]? = some f := ⟨_, List.getElem?_eq_getElem (by omega)⟩
    have hp := part_back hl hk ht hok hf
    have hi := flat_take hl hk ht hok j (by omega)
    obtain ⟨s, hs, _⟩ := flds_sz hk f (List.mem_of_getElem? hf)
    have htk := total_take _ j _ hf
    have hb0 := total_bd (fs := (flds (dk l) (dn l)).take j) (fun f hf => flds_sz hk f (List.mem_of_mem_take hf))
    have ho : off (flds (dk l) (dn l)) (j + 1) = off (flds (dk l) (dn l)) j + f.size.toNat := by
      unfold off
      rw [htk]
      omega
    unfold flat at hi ⊢
    rw [List.take_add_one, hf, Option.toList_some, List.flatMap_append, hi, List.flatMap_singleton, hp, ho, List.take_add, List.drop_drop]
/-- What is decoded has just these bytes. -/
theorem back {l : List Int} (hl : Bytes l) (h : de l = 0) : Gn.bytes (dk l) (flds (dk l) (dn l)) = l := by
  obtain ⟨_, h0, hk, ht, hg, hok⟩ := de_zero h
  have hlen := dn_length l
  have hf := flat_take hl hk ht hok _ (Nat.le_refl _)
  rw [List.take_of_length_le (Nat.le_refl _)] at hf
  have ho : off (flds (dk l) (dn l)) (flds (dk l) (dn l)).length = l.length - 3 := by
    unfold off
    rw [List.take_of_length_le (Nat.le_refl _), tot_is hlen]
    omega
  rw [ho] at hf
  obtain ⟨x, r, rfl⟩ : ∃ x r, l = x :: r := by
    cases l with
    | nil => exact absurd h0 (by simp)
    | cons x r => exact ⟨x, r, rfl⟩
  have hx := hl x (by simp)
  have hxk : ((dk (x :: r) : Nat) : Int) = x := by
    unfold dk
    simp only [List.getD_eq_getElem?_getD, List.getElem?_cons_zero, Option.getD_some]
    omega
  have hrl : 2 ≤ r.length := by
    have := tot_le hk
    simp only [List.length_cons] at ht
    omega
  obtain ⟨u, v, huv⟩ : ∃ u v, r.drop (r.length - 2) = [u, v] := by
    have h2 : (r.drop (r.length - 2)).length = 2 := by rw [List.length_drop]; omega
    match r.drop (r.length - 2), h2 with
    | [u, v], _ => exact ⟨u, v, rfl⟩
  have hsplit := List.take_append_drop (r.length - 2) r
  rw [huv] at hsplit
  have hbody : body (dk (x :: r)) (flds (dk (x :: r)) (dn (x :: r))) = x :: r.take (r.length - 2) := by
    unfold body
    rw [hxk]
    exact congrArg (x :: ·) hf
  have hu := hl u (by rw [← hsplit]; simp)
  have hv := hl v (by rw [← hsplit]; simp)
  have hz : goes 65535 (x :: r.take (r.length - 2)) = u * 256 + v := (zero_iff 65535 (x :: r.take (r.length - 2)) u v hu hv).1 (by rw [List.cons_append, hsplit]; exact hg)
  unfold Gn.bytes
  rw [hbody, hz, List.cons_append]
  unfold two
  rw [show (u * 256 + v) / 256 = u by omega, show (u * 256 + v) % 256 = v by omega, hsplit]
end Go.Proofs.Ytjkngcpmcmffmaa.De
