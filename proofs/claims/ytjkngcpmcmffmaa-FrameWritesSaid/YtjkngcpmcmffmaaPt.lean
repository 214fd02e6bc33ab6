/- The reference's bytes: Put, Bytes. -/
import Derived.Test.YtjkngcpmcmffmaaRd
namespace Go.Proofs.Ytjkngcpmcmffmaa.Pt
open Go.RowKit Go.Proofs.Ytjkngcpmcmffmaa.Bk Go.Proofs.Ytjkngcpmcmffmaa.Rw Go.Proofs.Ytjkngcpmcmffmaa.Ow Go.Proofs.Ytjkngcpmcmffmaa.Kp Go.Proofs.Ytjkngcpmcmffmaa.Sq Go.Proofs.Ytjkngcpmcmffmaa.Octet Go.Proofs.Ytjkngcpmcmffmaa.Fr Go.Proofs.Ytjkngcpmcmffmaa.Pn Go.Proofs.Ytjkngcpmcmffmaa.Crc Go.Proofs.Ytjkngcpmcmffmaa.Cr Go.Proofs.Ytjkngcpmcmffmaa.Gn Go.Proofs.Ytjkngcpmcmffmaa.Kd Go.Proofs.Ytjkngcpmcmffmaa.Dc Go.Proofs.Ytjkngcpmcmffmaa.De Go.Proofs.Ytjkngcpmcmffmaa.Pl Go.Proofs.Ytjkngcpmcmffmaa.Al Go.Proofs.Ytjkngcpmcmffmaa.Rd
theorem ediv_step (n : Int) (k : Nat) : n / 256 ^ k / 256 = n / 256 ^ (k + 1) := by
  rw [Int.ediv_ediv, if_neg (fun h => absurd h.1 (by have := pw k; omega)), Int.sub_zero, Int.pow_succ]
theorem ediv_bd {n : Int} (h : 0 ≤ n ∧ n < 18446744073709551616) (k : Nat) : 0 ≤ n / 256 ^ k ∧ n / 256 ^ k < 18446744073709551616 := by
  have h1 := Int.ediv_nonneg h.1 (Int.le_of_lt (pw k))
  have h2 : n / 256 ^ k ≤ n := Int.ediv_le_self _ h.1
  omega
set_option maxHeartbeats 2000000 in
theorem put_ok (s : Nat) (hs : s ≤ 8) (n : Int) (hn : 0 ≤ n ∧ n < 18446744073709551616) (w : World) : Calls Try.prog 33 #[.int .i64 s, .int .u64 n] w fun e w' => ∃ v, e = .returned v ∧ Oi .u8 5 w' w.heap.size v (be s n) ∧ Below w.heap.size w w' := by
  have HN := Lib.hid hn
  clear hn
  go_enter Try.func33, Try.ntmps33
  go_wp2
  go_loopw [1, 5, 6] (fun x v i wr => ∃ k : Nat, Aside (k ≤ s ∧ i = .int .i64 k ∧ x = .int .u64 (n / 256 ^ k) ∧ Oi .u8 5 wr w.heap.size v (be k n) ∧ Below w.heap.size w wr)) (fun _ _ i _ => s - (intOf i).toNat)
  case atStart => exact ⟨0, Nat.zero_le _, rfl, by simp, Oi.nil _ _ _ _, Below.refl _ _⟩
  case round =>
    obtain ⟨k, hX⟩ := hrel
    obtain ⟨hk, rfl, rfl, ho, hb⟩ := hX.out
    have HO := Lib.hid ho
    have HB := Lib.hid hb
    have hsz := hb.size
    obtain ⟨A, c, rfl, hc, hr⟩ := ho.ri
    have HR := Lib.hid hr
    clear hX ho hb hr
    by_cases hlt : k < s
    · have n1 : (k : Int) < (s : Int) := by omega
      have n2 : (k : Int) < 8 := by omega
      obtain ⟨h0, h1⟩ := ediv_bd HN.out k
      have HD := Lib.hid (ediv_step n k)
      have HE := Lib.hid (show be (k + 1) n = n / 256 ^ k % 256 :: be k n from rfl)
      have hlen : (be k n).length = k := be_length k n
      obtain ⟨x, hx⟩ : ∃ x, n / 256 ^ k = x := ⟨_, rfl⟩
      rw [hx] at HD HE h0 h1 ⊢
      obtain ⟨l, hl⟩ : ∃ l, be k n = l := ⟨_, rfl⟩
      rw [hl] at HE HR HO hlen hc ⊢
      have hu : IntKind.u8.wrap (x % 256) = x % 256 := IntWalk.u8_in _ ⟨by omega, by omega⟩
      clear hx hl
      go_wp2_with (at_builtin; refine wp_append .u8 5 _ w.heap.size (.int .u8 0) 1 rfl _ _ 22 rfl Try.underlying22 (by kernel_rfl) rfl (.slice (some ⟨wr.heap.size, 0, none⟩) 1 1) [x % 256] _ _ l _ rfl rfl rfl (Oi.lit .u8 5 wr w.heap.size hsz [x % 256] (by unfold maxLen; simp) #[.int .u8 (x % 256)] rfl) (HR.out.alloc _) ?_ ?_ ?_ ?_)
      · unfold maxLen; simp; omega
      · simp; omega
      · simp; omega
      intro v2 w2 ho hg _
      have HB2 := Lib.hid (Below.of_owned (v := .slice (some ⟨wr.heap.size, 0, none⟩) 1 1) (HB.out.alloc HB.out.size _) (by simp; omega) hg (fun q hq => by simp [Value.ownBlock] at hq; subst hq; exact hsz))
      have HO2 := Lib.hid ho
      clear ho hg
      go_wp2
      go_roundw
      case rel => exact ⟨k + 1, by omega, by go_num, by rw [← HD.out], by rw [HE.out]; exact HO2.out, HB2.out⟩
      case measure => simp [intOf]; omega
    · have hk2 : k = s := by omega
      subst hk2
      go_wp2
      go_ret
      exact ⟨_, rfl, HO.out, HB.out⟩
theorem rf_grown {w w2 : World} {A : Option Addr} {fs : List Fld} {base : Nat} {v : Value} {l : List Int} (h : Rf w A fs) (ho : Oi .u8 5 w base v l) (hg : w.grownBy w2 v.ownBlock) : Rf w2 A fs := by
  rcases h with h | ⟨g, h1, hb⟩
  · exact .inl h
  · refine .inr ⟨g, h1, hb.grown hg (fun e => ?_)⟩
    rcases ho.2 with ⟨rfl, _⟩ | ⟨q, c, cur, rfl, _, hq, _⟩
    · cases e
    · injection e with e
      exact Blk.ne_ hb (show Blk w q 5 cur from hq) (by decide) e
set_option maxRecDepth 100000 in
set_option maxHeartbeats 4000000 in
theorem bytesr_ok (p : Pl) (hp : Oks p) (hg : good p = true) (w : World) : Calls Try.prog 19 #[p.v] w fun e w' => (∃ v, e = .returned v ∧ Oi .u8 5 w' w.heap.size v (eb p)) ∧ Below w.heap.size w w' := by
  have CF := Lib.hid (fields_ok p hp)
  obtain ⟨hin, hall⟩ := good_in hg
  rw [show eb p = _ from if_pos hg]
  rw [rf_in hin] at CF
  have hk := kn_in hin
  have HS := Lib.hid (flds_sz hk (ns := nums p (kn p)))
  have HM := Lib.hid (flds_most hk (ns := nums p (kn p)))
  have hlen : (flds (kn p) (nums p (kn p))).length ≤ 8 := by have := rf_le p; rwa [rf_in hin] at this
  have HG := Lib.hid (List.all_eq_true.1 hall)
  have hkn : p.kind = (kn p : Int) := by unfold kn; have := hin.1; omega
  have HX := Lib.hid (Blk.new w 31 p.cs)
  have HB0 := Lib.hid ((Below.refl w.heap.size w).alloc (Nat.le_refl _) (.cells p.cs 31))
  obtain ⟨k, hkk⟩ : ∃ k, kn p = k := ⟨_, rfl⟩
  rw [hkk] at CF HS HM hlen HG hkn hk ⊢
  obtain ⟨fs, hfs⟩ : ∃ fs, flds k (nums p k) = fs := ⟨_, rfl⟩
  rw [hfs] at CF HS HM hlen HG ⊢
  clear hkk hfs hg hin hall hp
  obtain ⟨kind, from_, to_, root, boot, seq, hops, time, level, sent, got, back, glob, tai⟩ := p
  simp only [Pl.v, Pl.cs] at *
  subst hkn
  have hu : IntKind.u8.wrap (k : Int) = k := IntWalk.u8_in _ ⟨by omega, by omega⟩
  have HX1 := Lib.hid (HX.out.alloc (.cells #[.int .u8 k] 5))
  obtain ⟨c0, -⟩ := reads14 HX.out
  obtain ⟨d0, d1, d2, d3, d4, d5, d6, d7, d8, d9, d10, d11, d12, d13⟩ := reads14 HX1.out
  go_enter Try.func19, Try.ntmps19
  go_wp2_with (go_at_call 26; (with_reducible refine Calls.mono (CF.out _) ?_); rintro e w1 ⟨⟨A, rfl, hr⟩, hb⟩; have HR := Lib.hid hr; have HBX := Lib.hid hb; clear hr hb)
  have HO0 := Lib.hid (show Oi .u8 5 ((w.alloc (.cells #[.int .i64 k, .int .i64 from_, .int .i64 to_, .int .i64 root, .int .u16 boot, .int .u16 seq, .int .i64 hops, .int .i64 time, .int .i64 level, .int .i64 sent, .int .i64 got, .int .i64 back, .int .i64 glob, .int .i64 tai] 31)).alloc (.cells #[.int .u8 k] 5)) w.heap.size (.slice (some ⟨w.heap.size + 1, 0, none⟩) 1 1) [(k : Int)] from by
    have h := Oi.lit .u8 5 (w.alloc (.cells #[.int .i64 k, .int .i64 from_, .int .i64 to_, .int .i64 root, .int .u16 boot, .int .u16 seq, .int .i64 hops, .int .i64 time, .int .i64 level, .int .i64 sent, .int .i64 got, .int .i64 back, .int .i64 glob, .int .i64 tai] 31)) w.heap.size (by simp) [(k : Int)] (by unfold maxLen; simp) #[.int .u8 k] rfl
    rw [World.size_alloc] at h
    exact h)
  have HO1 := Lib.hid (HO0.out.below HBX.out)
  have HB1 := Lib.hid ((HB0.out.alloc HB0.out.size (.cells #[.int .u8 k] 5)).trans (HBX.out.mono (by simp; omega)))
  clear HO0 HBX HB0 HX1 HX c0 d0 d1 d2 d3 d4 d5 d6 d7 d8 d9 d10 d11 d12 d13 CF
  go_loopw [3, 5, 14] (fun v _ i wr => ∃ j : Nat, Aside (j ≤ fs.length ∧ i = .int .i64 j ∧ Oi .u8 5 wr w.heap.size v (body k (fs.take j)) ∧ Rf wr A fs ∧ Below w.heap.size w wr)) (fun _ _ i _ => fs.length - (intOf i).toNat)
  case atStart => exact ⟨0, Nat.zero_le _, rfl, HO1.out, HR.out, HB1.out⟩
  case round =>
    obtain ⟨j, hX⟩ := hrel
    obtain ⟨hj, rfl, ho, hr, hb⟩ := hX.out
    have HO := Lib.hid ho
    have HR1 := Lib.hid hr
    have HB := Lib.hid hb
    have hsz := hb.size
    have hbl := body_length k (fs := fs.take j) (fun f hf => HS.out f (List.mem_of_mem_take hf))
    have hl2 : (fs.take j).length ≤ 8 := by rw [List.length_take]; omega
    clear hX ho hb hr HO1 HB1 HR
    by_cases hlt : j < fs.length
    · obtain ⟨g, f, rfl, hf, hbk, x0, x1, x2⟩ := HR1.out.at_ hlt
      have HT := Lib.hid (body_take k fs j f hf)
      have hmem := List.mem_of_getElem? hf
      obtain ⟨s, hs1, hs2⟩ := HS.out f hmem
      have hok := HG.out f hmem
      have hmo := HM.out f hmem
      have HRN := Lib.hid (HR1.out.below ((Below.refl _ wr).alloc (Nat.le_refl _) (.cells #[.int .i64 f.size, .int .i64 f.n, .int .i64 f.most] 71)))
      have HBN := Lib.hid (HB.out.alloc hsz (.cells #[.int .i64 f.size, .int .i64 f.n, .int .i64 f.most] 71))
      have HON := Lib.hid (HO.out.alloc (.cells #[.int .i64 f.size, .int .i64 f.n, .int .i64 f.most] 71))
      obtain ⟨fz, fn, fm⟩ := f
      have hok2 : 0 ≤ fn ∧ fn ≤ fm := of_decide_eq_true hok
      simp only at x0 x1 x2 hs1 hmo HRN HBN HON HT
      subst hs1
      have CP := Lib.hid (fun w => put_ok s hs2 fn ⟨hok2.1, by omega⟩ w)
      have hwr : IntKind.u64.wrap fn = fn := by rw [IntKind.wrap_u64]; omega
      have n1 : (j : Int) < (fs.length : Int) := by omega
      obtain ⟨l, hl⟩ : ∃ l, body k (fs.take j) = l := ⟨_, rfl⟩
      rw [hl] at HT HON hbl
      clear hf hok hmem hl hbk HO HR1 HB
      have hbe : (be s fn).length ≤ 8 := by rw [be_length]; exact hs2
      go_wp2_with (first
        | (go_at_call 33
           (with_reducible refine Calls.mono (CP.out _) ?_)
           rintro e w2 ⟨v2, rfl, ho2, hb2⟩
           obtain ⟨A2, c2, rfl, _, hr2⟩ := ho2.ri
           have HR2 := Lib.hid hr2
           have HRF2 := Lib.hid (HRN.out.below hb2)
           have HO2 := Lib.hid (HON.out.below hb2)
           have HB2 := Lib.hid (HBN.out.trans (hb2.mono HBN.out.size))
           clear ho2 hb2 hr2)
        | (at_builtin; refine wp_append .u8 5 _ w.heap.size (.int .u8 0) 1 rfl _ _ 22 rfl Try.underlying22 (by kernel_rfl) rfl _ l _ _ (be s fn) _ rfl rfl rfl HO2.out HR2.out ?_ ?_ ?_ ?_))
      · unfold maxLen; omega
      · omega
      · exact HB2.out.size
      intro v3 w3 ho hg _
      have HRF3 := Lib.hid (rf_grown HRF2.out HO2.out hg)
      have HB3 := Lib.hid (Below.of_owned HB2.out HB2.out.size hg (fun q hq => (HO2.out.owner q hq).1))
      have HO3 := Lib.hid ho
      clear ho hg
      go_wp2
      go_roundw
      case rel => exact ⟨j + 1, by omega, by go_num, by rw [HT.out]; exact HO3.out, HRF3.out, HB3.out⟩
      case measure => simp [intOf]; omega
    · have HE := Lib.hid (show fs.take j = fs from List.take_of_length_le (by omega))
      have HBB := Lib.hid (body_bytes (k := k) (by omega) fs)
      have HW := Lib.hid (show Gn.bytes k fs = body k fs ++ two (goes 65535 (body k fs)) from rfl)
      have hgb := goes_bd 65535 (body k fs)
      rw [HE.out] at HO hbl
      generalize body k fs = l at HO hbl HBB HW hgb
      obtain ⟨A4, c4, rfl, hc4, hr4⟩ := HO.out.ri
      have CS := Lib.hid (refsum_ok A4 c4 l HBB.out wr hr4)
      have h2l : (two (goes 65535 l)).length = 2 := rfl
      have hx0 : goes 65535 l / 256 ≤ 255 := by omega
      have hx1 : IntKind.u16.wrap ((goes 65535 l).tdiv 256) = goes 65535 l / 256 := by rw [Int.tdiv_eq_ediv_of_nonneg (by omega), a_u16]; omega
      have hx2 : goes 65535 l / 256 % 256 = goes 65535 l / 256 := by omega
      clear hr4
      go_wp2_with (first
        | (go_at_call 16; (with_reducible refine Calls.mono CS.out ?_); rintro e w4 ⟨rfl, rfl⟩)
        | (at_builtin; refine wp_append .u8 5 _ w.heap.size (.int .u8 0) 1 rfl _ _ 22 rfl Try.underlying22 (by kernel_rfl) rfl _ l _ _ (two (goes 65535 l)) _ rfl rfl rfl (HO.out.alloc _) (Ri.lit .u8 5 _ (two (goes 65535 l)) (by unfold maxLen two; simp) _ rfl) ?_ ?_ ?_ ?_))
      · unfold maxLen; omega
      · omega
      · simp; omega
      intro v5 w5 ho hg _
      have HB5 := Lib.hid (Below.of_owned (HB.out.alloc HB.out.size _) (by simp; omega) hg (fun q hq => (HO.out.owner q hq).1))
      have HO5 := Lib.hid ho
      clear ho hg
      go_wp2
      go_ret
      exact ⟨⟨_, rfl, by rw [HW.out]; exact HO5.out⟩, HB5.out⟩
end Go.Proofs.Ytjkngcpmcmffmaa.Pt
