/- A frame as the laws have it: Encode of it; equal frames; alive. -/
import Derived.Test.YtjkngcpmcmffmaaPl
import Derived.Test.YtjkngcpmcmffmaaDe
namespace Go.Proofs.Ytjkngcpmcmffmaa.Al
open Go.RowKit Go.Proofs.Ytjkngcpmcmffmaa.Bk Go.Proofs.Ytjkngcpmcmffmaa.Rw Go.Proofs.Ytjkngcpmcmffmaa.Ow Go.Proofs.Ytjkngcpmcmffmaa.Kp Go.Proofs.Ytjkngcpmcmffmaa.Sq Go.Proofs.Ytjkngcpmcmffmaa.Octet Go.Proofs.Ytjkngcpmcmffmaa.Fr Go.Proofs.Ytjkngcpmcmffmaa.Pn Go.Proofs.Ytjkngcpmcmffmaa.Crc Go.Proofs.Ytjkngcpmcmffmaa.Cr Go.Proofs.Ytjkngcpmcmffmaa.Gn Go.Proofs.Ytjkngcpmcmffmaa.Kd Go.Proofs.Ytjkngcpmcmffmaa.Dc Go.Proofs.Ytjkngcpmcmffmaa.De Go.Proofs.Ytjkngcpmcmffmaa.Pl
deriving instance DecidableEq for Pl
theorem reads14 {w : World} {b : Nat} {kind from_ to_ root boot seq hops time level sent got back glob tai : Int} (hb : Blk w b 31 #[.int .i64 kind, .int .i64 from_, .int .i64 to_, .int .i64 root, .int .u16 boot, .int .u16 seq, .int .i64 hops, .int .i64 time, .int .i64 level, .int .i64 sent, .int .i64 got, .int .i64 back, .int .i64 glob, .int .i64 tai]) : w.cell? ⟨b, 0, none⟩ = some (.int .i64 kind) ∧ w.cell? ⟨b, 1, none⟩ = some (.int .i64 from_) ∧ w.cell? ⟨b, 2, none⟩ = some (.int .i64 to_) ∧ w.cell? ⟨b, 3, none⟩ = some (.int .i64 root) ∧ w.cell? ⟨b, 4, none⟩ = some (.int .u16 boot) ∧ w.cell? ⟨b, 5, none⟩ = some (.int .u16 seq) ∧ w.cell? ⟨b, 6, none⟩ = some (.int .i64 hops) ∧ w.cell? ⟨b, 7, none⟩ = some (.int .i64 time) ∧ w.cell? ⟨b, 8, none⟩ = some (.int .i64 level) ∧ w.cell? ⟨b, 9, none⟩ = some (.int .i64 sent) ∧ w.cell? ⟨b, 10, none⟩ = some (.int .i64 got) ∧ w.cell? ⟨b, 11, none⟩ = some (.int .i64 back) ∧ w.cell? ⟨b, 12, none⟩ = some (.int .i64 glob) ∧ w.cell? ⟨b, 13, none⟩ = some (.int .i64 tai) :=
  ⟨hb.cell 0, hb.cell 1, hb.cell 2, hb.cell 3, hb.cell 4, hb.cell 5, hb.cell 6, hb.cell 7, hb.cell 8, hb.cell 9, hb.cell 10, hb.cell 11, hb.cell 12, hb.cell 13⟩
/-- What is known of a frame's short numbers. -/
def Oks (p : Pl) : Prop := (0 ≤ p.boot ∧ p.boot ≤ 65535) ∧ 0 ≤ p.seq ∧ p.seq ≤ 65535
theorem oks_wf {p : Pl} (h4 : (Lit.int .u16 p.boot).wf = true) (h5 : (Lit.int .u16 p.seq).wf = true) : Oks p := by
  simp [Lit.wf, IntKind.min, IntKind.max, IntKind.bits, IntKind.signed] at h4 h5
  exact ⟨by omega, by omega⟩
theorem nums_length {p : Pl} {k : Nat} : (nums p k).length = (spec k).length := by
  match k with
  | 0 | 1 | 2 | 3 | 4 | 5 | 6 => rfl
  | k + 7 => rfl
theorem nk_nums {p : Pl} (hp : Oks p) {k : Nat} (hk : 1 ≤ k ∧ k ≤ 6) : Nk k (nums p k) := by
  refine ⟨nums_length, ?_⟩
  obtain ⟨h1, h2⟩ := hp
  rcases (by omega : k = 1 ∨ k = 2 ∨ k = 3 ∨ k = 4 ∨ k = 5 ∨ k = 6) with rfl | rfl | rfl | rfl | rfl | rfl <;>
  · intro f hf hs
    simp [flds, spec, nums] at hf
    rcases hf with rfl | rfl | rfl | rfl | rfl | rfl | rfl | rfl <;> first | exact h1 | exact h2 | (simp at hs)
/-- Can it be? -/
def inK (p : Pl) : Prop := 1 ≤ p.kind ∧ p.kind ≤ 6
instance (p : Pl) : Decidable (inK p) := inferInstanceAs (Decidable (_ ∧ _))
def kn (p : Pl) : Nat := p.kind.toNat
def good (p : Pl) : Bool := decide (inK p) && (flds (kn p) (nums p (kn p))).all Fld.ok
def eb (p : Pl) : List Int := if good p = true then Gn.bytes (kn p) (flds (kn p) (nums p (kn p))) else []
def ee (p : Pl) : Int := if good p = true then 0 else 1
theorem kn_in {p : Pl} (h : inK p) : 1 ≤ kn p ∧ kn p ≤ 6 := by unfold kn; unfold inK at h; omega
theorem ofv_in {p : Pl} (h : inK p) : ofv p = frm (kn p) (nums p (kn p)) := if_pos h
theorem ofv_out {p : Pl} (h : ¬ inK p) : ofv p = .nilIface := if_neg h
theorem good_in {p : Pl} (h : good p = true) : inK p ∧ (flds (kn p) (nums p (kn p))).all Fld.ok = true := by
  unfold good at h
  rw [Bool.and_eq_true] at h
  exact ⟨of_decide_eq_true h.1, h.2⟩
/-- Encode, of whatever frame. -/
theorem enc_ok (p : Pl) (hp : Oks p) (w : World) : Calls Try.prog 13 #[ofv p] w fun e w' => (∃ v', e = .returned (.tuple #[v', .int .i64 (ee p)]) ∧ Oi .u8 5 w' w.heap.size v' (eb p)) ∧ Below w.heap.size w w' := by
  by_cases hi : inK p
  · have hk := kn_in hi
    have KN := kn_of hk (nk_nums hp hk)
    rw [ofv_in hi]
    by_cases ha : (flds (kn p) (nums p (kn p))).all Fld.ok = true
    · have hg : good p = true := by unfold good; rw [ha, decide_eq_true hi]; rfl
      rw [show ee p = 0 from if_pos hg, show eb p = _ from if_pos hg]
      exact encode_yes KN ha (flds_most hk) w
    · have hf : (flds (kn p) (nums p (kn p))).all Fld.ok = false := by simpa using ha
      have hg : ¬ good p = true := by unfold good; rw [hf, Bool.and_false]; decide
      rw [show ee p = 1 from if_neg hg, show eb p = _ from if_neg hg]
      exact (encode_no KN hf w).mono fun e w' ⟨h1, h2⟩ => ⟨⟨_, h1, Oi.nil _ _ _ _⟩, h2⟩
  · have hg : ¬ good p = true := by unfold good; rw [decide_eq_false hi, Bool.false_and]; decide
    rw [ofv_out hi, show ee p = 1 from if_neg hg, show eb p = _ from if_neg hg]
    exact (encode_nil w).mono fun e w' ⟨h1, h2⟩ => ⟨⟨_, h1, Oi.nil _ _ _ _⟩, h2 ▸ Below.refl _ _⟩
theorem gd_ok (p : Pl) (hp : Oks p) (w : World) : Calls Try.prog 18 #[ofv p] w fun e w' => e = .returned (.bool (good p)) ∧ Below w.heap.size w w' := by
  by_cases hi : inK p
  · have hk := kn_in hi
    rw [ofv_in hi, show good p = (flds (kn p) (nums p (kn p))).all Fld.ok by unfold good; rw [decide_eq_true hi]; rfl]
    exact good_kn (kn_of hk (nk_nums hp hk)) w
  · rw [ofv_out hi, show good p = false by unfold good; rw [decide_eq_false hi]; rfl]
    exact (good_nil w).mono fun e w' ⟨h1, h2⟩ => ⟨h1, h2 ▸ Below.refl _ _⟩
theorem eb_bytes (p : Pl) : Bytes (eb p) := by
  unfold eb
  split
  · rename_i h
    exact bytes_bytes (by have := kn_in (good_in h).1; omega) _
  · exact fun x hx => by cases hx
theorem eb_length (p : Pl) : (eb p).length ≤ 43 := by
  unfold eb
  split
  · rename_i h
    have h1 := kn_in (good_in h).1
    have := bytes_length h1 (nums_length (p := p))
    have := tot_le h1
    omega
  · simp
/-- What is encoded is decoded. -/
theorem eb_round {p : Pl} (h : good p = true) : de (eb p) = 0 ∧ dv (eb p) = frm (kn p) (nums p (kn p)) ∧ dk (eb p) = kn p ∧ dn (eb p) = nums p (kn p) := by
  obtain ⟨h1, h2⟩ := good_in h
  have hk := kn_in h1
  rw [show eb p = _ from if_pos h]
  exact ⟨(round hk nums_length h2).1, (round hk nums_length h2).2, bytes_dk _ _, dn_is hk nums_length h2⟩
theorem ee_zero {p : Pl} : ee p = 0 ↔ good p = true := by
  unfold ee
  split <;> simp_all
theorem ite_ok (c : Prop) [Decidable c] (b : Bool) (w : World) : (if c then (Result.ok (Value.bool b) w : Result Value) else .ok (.bool false) w) = .ok (.bool (decide c && b)) w := by
  by_cases h : c <;> simp [h]
theorem ite_no (c : Prop) [Decidable c] (b : Bool) (w : World) : (if c then (Result.ok (Value.bool (!b)) w : Result Value) else .ok (.bool true) w) = .ok (.bool (!(decide c && b))) w := by
  by_cases h : c <;> simp [h]
theorem ite_no1 (c : Prop) [Decidable c] (w : World) : (if c then (Result.ok (Value.bool false) w : Result Value) else .ok (.bool true) w) = .ok (.bool (!(decide c))) w := by
  by_cases h : c <;> simp [h]
theorem eq_pl (p q : Pl) (w : World) : (binOp .eql 31 p.v q.v).run Try.prog w = .ok (.bool (decide (p = q))) w := by
  obtain ⟨p0, p1, p2, p3, p4, p5, p6, p7, p8, p9, p10, p11, p12, p13⟩ := p
  obtain ⟨q0, q1, q2, q3, q4, q5, q6, q7, q8, q9, q10, q11, q12, q13⟩ := q
  unfold Pl.v Pl.cs
  rw [run_eql_struct, run_equalIn_agg _ _ _ _ _ (by kernel_rfl) (by kernel_rfl)]
  simp [Program.fieldsOf, Op.eqFields, go_sem]
  simp only [ite_ok, Bool.and_true]
theorem neq_pl (p q : Pl) (w : World) : (binOp .neq 31 p.v q.v).run Try.prog w = .ok (.bool (!decide (p = q))) w := by
  obtain ⟨p0, p1, p2, p3, p4, p5, p6, p7, p8, p9, p10, p11, p12, p13⟩ := p
  obtain ⟨q0, q1, q2, q3, q4, q5, q6, q7, q8, q9, q10, q11, q12, q13⟩ := q
  unfold Pl.v Pl.cs
  rw [run_neq_struct, run_equalIn_agg _ _ _ _ _ (by kernel_rfl) (by kernel_rfl)]
  simp [Program.fieldsOf, Op.eqFields, go_sem, -Bool.not_and]
  simp only [ite_no, ite_no1]
/-- What the document tells. -/
theorem want5 : ∃ L, L = Gn.bytes 3 (flds 3 [5]) ∧ L.length = 4 ∧ L.getD 0 0 = 3 ∧ L.getD 1 0 = 5 ∧ de L = 0 ∧ dv L = frm 3 [5] ∧ Bytes L := by
  have hk : 1 ≤ 3 ∧ 3 ≤ 6 := by decide
  have h := bytes_length hk (ns := [5]) rfl
  have hr := round hk (ns := [5]) rfl (by decide)
  refine ⟨_, rfl, ?_, rfl, rfl, hr.1, hr.2, bytes_bytes (by decide) _⟩
  rw [show tot 3 = 1 by decide] at h
  omega
theorem enc_want {L : List Int} (hL : L = Gn.bytes 3 (flds 3 [5])) (w : World) : Calls Try.prog 13 #[.iface 51 (.agg #[.int .i64 5])] w fun e w' => (∃ g c, e = .returned (.tuple #[.slice (some ⟨g, 0, none⟩) L.length c, .int .i64 0]) ∧ L.length ≤ c ∧ Ri .u8 w' (some ⟨g, 0, none⟩) L) ∧ Below w.heap.size w w' := by
  subst hL
  have hk : 1 ≤ 3 ∧ 3 ≤ 6 := by decide
  have KN := kn_of hk (ns := [5]) ⟨rfl, by intro f hf hs; simp [flds, spec] at hf; subst hf; simp at hs⟩
  refine Calls.mono (encode_yes KN (by decide) (flds_most hk) w) fun e w' ⟨⟨v', h1, h2⟩, h3⟩ => ⟨?_, h3⟩
  rcases h2.form with ⟨_, h4⟩ | ⟨g, c, rfl, _, _, h4, _⟩
  · have := congrArg List.length h4; simp [Gn.bytes, two] at this
  · obtain ⟨A, c2, h5, _, h6⟩ := h2.ri
    obtain ⟨rfl, rfl⟩ : some (⟨g, 0, none⟩ : Addr) = A ∧ c = c2 := by simpa using h5
    exact ⟨g, c, h1, h4, h6⟩
theorem as_want5 (w : World) : (Instr.typeAssert (frm 3 [5]) 25 51 true).run Try.prog w = .ok (.tuple #[.agg #[.int .i64 5], .bool true]) w := as_want_want _ w
set_option maxHeartbeats 2000000 in
theorem alive_ok (w : World) : Calls Try.prog 9 #[] w fun e w' => e = .returned (.bool true) ∧ Below w.heap.size w w' := by
  obtain ⟨L, hL, h4, hx0, hx1, hde, hdv, hb⟩ := want5
  have HB := Lib.hid hb
  have CE := Lib.hid (enc_want hL w)
  rw [h4] at CE
  have CD := Lib.hid (fun (A : Option Addr) (c : Nat) (hc : 4 ≤ c) (w1 : World) (hr : Ri .u8 w1 A L) => decode_ok A c L hb (by omega) (by omega) w1 hr)
  rw [hde, hdv, h4] at CD
  have HA := Lib.hid (show ∀ (w : World) (g : Nat), Ri .u8 w (some ⟨g, 0, none⟩) L → w.cell? ⟨g, 0, none⟩ = some (.int .u8 3) ∧ w.cell? ⟨g, 1, none⟩ = some (.int .u8 5) from fun w g h => by
    obtain ⟨ad, h1, _, h2⟩ := h.at_ (j := 0) (by omega)
    obtain ⟨ad', h3, _, h4⟩ := h.at_ (j := 1) (by omega)
    obtain rfl := Option.some.inj h1
    obtain rfl := Option.some.inj h3
    rw [hx0] at h2
    rw [hx1] at h4
    exact ⟨h2, h4⟩)
  have ha := as_want5
  clear hL h4 hx0 hx1 hde hdv hb
  generalize frm 3 [5] = FF at CD ha
  go_enter Try.func9, Try.ntmps9
  go_wp2_with (first
    | (go_at_call 13
       (with_reducible refine Calls.mono CE.out ?_)
       rintro e w1 ⟨⟨g, c, rfl, hc, hr⟩, hb1⟩
       have HR1 := Lib.hid hr
       have HB1 := Lib.hid hb1
       have HC := Lib.hid (show 4 ≤ c from hc)
       clear hr hb1 hc)
    | (go_at_call 10
       (with_reducible refine Calls.mono (CD.out (some ⟨g, 0, none⟩) c HC.out _ HR1.out) ?_)
       rintro e w2 ⟨rfl, hb2⟩
       obtain ⟨y0, y1⟩ := HA.out _ _ ((HR1.out.below hb2).alloc (.cells #[.int .i64 5] 51))
       have HB2 := Lib.hid ((HB1.out.trans (hb2.mono HB1.out.size)).alloc (by have := HB1.out.size; have := hb2.size; omega) (.cells #[.int .i64 5] 51))
       have y2 : (w2.alloc (.cells #[.int .i64 5] 51)).cell? ⟨w2.heap.size, 0, none⟩ = some (.int .i64 5) := (Blk.new w2 51 _).cell 0
       clear hb2))
  go_ret
  exact ⟨rfl, HB2.out⟩
end Go.Proofs.Ytjkngcpmcmffmaa.Al
