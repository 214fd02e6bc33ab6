/- The reference's Wide answers as the links' own. -/
import Derived.Test.YtfmkamkbbeahgaaDoorRh
import Derived.Test.YtfmkamkbbeahgaaDoorWp
namespace Go.Proofs.YtfmkamkbbeahgaaDoor.Rd
open Go.RowKit Go.Proofs.YtfmkamkbbeahgaaDoor.Bk Go.Proofs.YtfmkamkbbeahgaaDoor.Rw Go.Proofs.YtfmkamkbbeahgaaDoor.Ow Go.Proofs.YtfmkamkbbeahgaaDoor.Kp Go.Proofs.YtfmkamkbbeahgaaDoor.Bl Go.Proofs.YtfmkamkbbeahgaaDoor.Lk Go.Proofs.YtfmkamkbbeahgaaDoor.Hm Go.Proofs.YtfmkamkbbeahgaaDoor.Ho Go.Proofs.YtfmkamkbbeahgaaDoor.Bm Go.Proofs.YtfmkamkbbeahgaaDoor.Sc Go.Proofs.YtfmkamkbbeahgaaDoor.Rf Go.Proofs.YtfmkamkbbeahgaaDoor.Rm Go.Proofs.YtfmkamkbbeahgaaDoor.Rp Go.Proofs.YtfmkamkbbeahgaaDoor.Rh Go.Proofs.YtfmkamkbbeahgaaDoor.Wi Go.Proofs.YtfmkamkbbeahgaaDoor.Wp
/-- The bits under i. -/
def lo (x i : Nat) : List Nat := (List.range' 0 i).filter fun j => x.testBit j
theorem lo_succ (x i : Nat) : lo x (i + 1) = if x.testBit i then lo x i ++ [i] else lo x i := by
  unfold lo
  rw [List.range'_concat, List.filter_append]
  cases h : x.testBit i <;> simp [h]
theorem lo_all {x n : Nat} (hn : n ≤ 64) (hx : ∀ i, x.testBit i = true → i < n) : lo x n = bl x := by
  unfold lo bl
  rw [show (64 : Nat) = n + (64 - n) by omega, ← List.range'_append_1, List.filter_append]
  have h1 : (List.filter (fun i => x.testBit i) (List.range' (0 + n) (64 - n))) = [] := by
    rw [List.filter_eq_nil_iff]
    intro j hj hb
    rw [List.mem_range'_1] at hj
    have := hx j hb
    omega
  rw [h1, List.append_nil]
theorem lo_mem {x i j : Nat} (h : j ∈ lo x i) : j < i ∧ x.testBit j = true := by
  unfold lo at h
  simp at h
  exact h
theorem mx_snoc (H : List Int) (m : Int) (l : List Nat) (k : Nat) : mx H m (l ++ [k]) = max (mx H m l) (H.getD k (-1)) := by
  unfold mx
  rw [List.foldl_append]
  rfl
theorem mo_snoc (a : List Nat) (s : Nat) (E : List Nat) (m : Int) (l : List Nat) (k : Nat) : mo a s E m (l ++ [k]) = mx (hops a (k : Nat) s) (mo a s E m l) E := by
  unfold mo
  rw [List.foldl_append]
  rfl
theorem wd_one {a : List Nat} {s : Nat} {v v' : Int} {o o' : Bool} (h : Wd a s v o) (h' : Wd a s v' o') : v = v' ∧ o = o' := by
  unfold Wd at h h'
  split at h
  · rename_i hz
    rw [if_pos hz] at h'
    exact ⟨h.1.trans h'.1.symm, h.2.trans h'.2.symm⟩
  · rename_i hz
    rw [if_neg hz] at h'
    rcases h with ⟨h1, h2, h3⟩ | ⟨h1, h2, h3⟩ <;> rcases h' with ⟨g1, g2, g3⟩ | ⟨g1, g2, g3⟩
    · exact ⟨h3.trans g3.symm, h1.trans g1.symm⟩
    · exact absurd h2 g3
    · exact absurd g2 h3
    · exact ⟨h2.trans g2.symm, h1.trans g1.symm⟩
set_option maxRecDepth 100000 in
set_option maxHeartbeats 4000000 in
theorem rwide_ok (m : Nat) (a : List Nat) (s : Nat) (w : World) (h : Re w m a) (h1 : 1 ≤ a.length) (hl : a.length ≤ 64) :
    Calls Tryd.prog 19 #[.pointer (some ⟨m, 0, none⟩), .int .u64 s] w fun e w' => WdE a s e ∧ Below w.heap.size w w' := by
  have HR := Lib.hid h
  have hm := Cs.lt h
  have HWD := Lib.hid (show ∀ v o, Wd a s v o → WdE a s (.returned (.tuple #[.int .i64 v, .bool o])) from fun v o hh => ⟨v, o, rfl, hh⟩)
  have HSL : ∀ i, (s &&& (2 ^ a.length - 1)).testBit i = true → i < a.length := fun i hi => by
    rw [Nat.testBit_and, Nat.testBit_two_pow_sub_one, Bool.and_eq_true] at hi
    simpa using hi.2
  have HSB := Lib.hid (show ∀ i, i < a.length → s.testBit i = (s &&& (2 ^ a.length - 1)).testBit i from fun i hi => by
    rw [Nat.testBit_and, Nat.testBit_two_pow_sub_one]
    simp [hi])
  have HW2 := Lib.hid (show ∀ v o, (if s &&& (2 ^ a.length - 1) = 0 then v = 0 ∧ o = false else (o = true ∧ good a s (bl (s &&& (2 ^ a.length - 1))) (bl (s &&& (2 ^ a.length - 1))) ∧ v = mo a s (bl (s &&& (2 ^ a.length - 1))) 0 (bl (s &&& (2 ^ a.length - 1)))) ∨ (o = false ∧ v = 0 ∧ ¬ good a s (bl (s &&& (2 ^ a.length - 1))) (bl (s &&& (2 ^ a.length - 1))))) → Wd a s v o from fun v o hh => hh)
  generalize (s &&& (2 ^ a.length - 1)) = S at HSL HSB HW2
  have HLA := Lib.hid (lo_all hl HSL)
  obtain ⟨E, hE⟩ : ∃ E, bl S = E := ⟨_, rfl⟩
  rw [hE] at HLA HW2
  have HZE := Lib.hid (show lo S a.length = [] ↔ S = 0 from by
    constructor
    · intro hn
      refine Classical.byContradiction fun h0 => ?_
      obtain ⟨j, hj⟩ := Nat.exists_testBit_of_ne_zero h0
      have hm : j ∈ lo S a.length := by unfold lo; simp [hj, HSL j hj]
      rw [hn] at hm
      cases hm
    · intro h0
      rw [h0]
      unfold lo
      simp)
  have HEM := Lib.hid (show ∀ i, i < a.length → S.testBit i = true → i ∈ E from fun i hi hb => by rw [← HLA.out]; unfold lo; simp [hi, hb])
  obtain ⟨N, hN⟩ : ∃ N, a.length = N := ⟨_, rfl⟩
  clear h HSL hE
  go_enter Tryd.func19, Tryd.ntmps19
  go_wp2
  go_loopw [6, 7, 8] (fun b c i wr => ∃ x : Nat, x ≤ N ∧ i = .int .i64 x ∧ b = .int .i64 (mo a s E 0 (lo S x)) ∧ c = .bool (!(lo S x).isEmpty) ∧ good a s E (lo S x) ∧ Re wr m a ∧ Below w.heap.size w wr) (fun _ _ i _ => N - (intOf i).toNat)
  case atStart => exact ⟨0, Nat.zero_le _, rfl, rfl, rfl, (fun i hi => nomatch hi), HR.out, Below.refl _ _⟩
  case round =>
    obtain ⟨x, hx, rfl, rfl, rfl, hg, hR, hW⟩ := hrel
    have c0 := hR.len
    rw [hN] at c0
    by_cases hxn : x < N
    · have n1 : (x : Int) < (N : Int) := by omega
      have CI := Lib.hid (in_ok s x wr)
      rw [inb_nat s x (by omega), HSB.out x (by omega)] at CI
      have CH := Lib.hid (show Calls Tryd.prog 20 #[.pointer (some ⟨m, 0, none⟩), .int .i64 x, .int .u64 s] wr fun e w' => (∃ b, e = .returned (.slice (some ⟨b, 0, none⟩) N N) ∧ Blk w' b 3 ((hops a x s).map (Value.int .i64)).toArray ∧ wr.heap.size ≤ b) ∧ Below wr.heap.size wr w' by rw [← hN]; exact rhops_ok m a x s wr hR h1 hl)
      have HG := Lib.hid hg
      have HRr := Lib.hid hR
      have HWr := Lib.hid hW
      clear hg hR hW HR
      cases hb : S.testBit x with
      | false =>
        rw [hb] at CI
        have hls := lo_succ S x
        rw [if_neg (by rw [hb]; decide)] at hls
        have HLS := Lib.hid hls
        clear hb CH hls
        go_wp2_with (go_at_call 11; (with_reducible refine Calls.mono CI.out ?_); rintro e w8 ⟨rfl, rfl⟩)
        go_roundw
        case rel => exact ⟨x + 1, by omega, by go_num, by rw [HLS.out], by rw [HLS.out], by rw [HLS.out]; exact HG.out, HRr.out, HWr.out⟩
        case measure => simp [intOf]; omega
      | true =>
        rw [hb] at CI
        have hls := lo_succ S x
        rw [if_pos hb] at hls
        have HLS := Lib.hid hls
        have HXE := Lib.hid (HEM.out x (by omega) hb)
        have HSN := Lib.hid (show ¬ S = 0 from fun h => by rw [h] at hb; simp at hb)
        clear hb hls
        obtain ⟨m0, hm0⟩ : ∃ m0, mo a s E 0 (lo S x) = m0 := ⟨_, rfl⟩
        rw [hm0]
        have HM0 := Lib.hid hm0
        clear hm0
        go_wp2_with (first
          | (go_at_call 11; (with_reducible refine Calls.mono CI.out ?_); rintro e w8 ⟨rfl, rfl⟩)
          | (go_at_call 20; (with_reducible refine Calls.mono CH.out ?_); rintro e w5 ⟨⟨b, rfl, hbk, hbn⟩, hb5⟩))
        obtain ⟨H, hH⟩ : ∃ H, hops a (x : Nat) s = H := ⟨_, rfl⟩
        have hHl : H.length = N := by rw [← hH, hops_length, hN]
        rw [hH] at hbk
        have HB5 := Lib.hid hbk
        have HR5 := Lib.hid (Re.below HRr.out hb5 (Cs.lt HRr.out))
        have HW5 := Lib.hid (HWr.out.trans (hb5.mono HWr.out.size))
        clear hbk hb5 CH HRr HWr CI
        go_loopw [6, 10] (fun b' i wr => ∃ y : Nat, y ≤ N ∧ i = .int .i64 y ∧ b' = .int .i64 (mx H m0 (lo S y)) ∧ (∀ j ∈ lo S y, 0 ≤ H.getD j (-1)) ∧ Blk wr b 3 (H.map (Value.int .i64)).toArray ∧ Re wr m a ∧ Below w.heap.size w wr) (fun _ i _ => N - (intOf i).toNat)
        case atStart => exact ⟨0, Nat.zero_le _, rfl, rfl, (fun j hj => nomatch hj), HB5.out, HR5.out, HW5.out⟩
        case round =>
          obtain ⟨y, hy, rfl, rfl, hnn, hB, hR, hW⟩ := hrel
          have c0 := hR.len
          rw [hN] at c0
          by_cases hyn : y < N
          · have n2 : (y : Int) < (N : Int) := by omega
            have CI := Lib.hid (in_ok s y wr)
            rw [inb_nat s y (by omega), HSB.out y (by omega)] at CI
            have cy : wr.cell? ⟨b, y, none⟩ = some (.int .i64 (H.getD y (-1))) := by
              rw [hB.cell y]
              simp [List.getD_eq_getElem?_getD, List.getElem?_eq_getElem (show y < H.length by omega)]
            have HNN := Lib.hid hnn
            have HB6 := Lib.hid hB
            have HR6 := Lib.hid hR
            have HW6 := Lib.hid hW
            clear hnn hB hR hW HB5 HR5 HW5
            cases hb : S.testBit y with
            | false =>
              rw [hb] at CI
              have hls := lo_succ S y
              rw [if_neg (by rw [hb]; decide)] at hls
              have HLY := Lib.hid hls
              clear hb hls
              go_wp2_with (go_at_call 11; (with_reducible refine Calls.mono CI.out ?_); rintro e w8 ⟨rfl, rfl⟩)
              go_roundw
              case rel => exact ⟨y + 1, by omega, by go_num, by rw [HLY.out], by rw [HLY.out]; exact HNN.out, HB6.out, HR6.out, HW6.out⟩
              case measure => simp [intOf]; omega
            | true =>
              rw [hb] at CI
              have hls := lo_succ S y
              rw [if_pos hb] at hls
              have HLY := Lib.hid hls
              have HYE := Lib.hid (HEM.out y (by omega) hb)
              have HMX := Lib.hid (mx_snoc H m0 (lo S y) y)
              have HNB := Lib.hid (show H.getD y (-1) < 0 → ¬ good a s E E from fun hlt hgd => by
                have := hgd x HXE.out y HYE.out
                rw [hH] at this
                omega)
              have HNP := Lib.hid (show 0 ≤ H.getD y (-1) → ∀ j ∈ lo S y ++ [y], 0 ≤ H.getD j (-1) from fun h0 j hj => by
                rcases List.mem_append.1 hj with h | h
                · exact HNN.out j h
                · rw [List.mem_singleton.1 h]
                  exact h0)
              generalize mx H m0 (lo S y) = mm at HMX ⊢
              generalize H.getD y (-1) = hv at cy HMX HNB HNP
              clear hb hls
              by_cases hneg : hv < 0
              · have HF := Lib.hid (HW2.out 0 false (by rw [if_neg HSN.out]; exact .inr ⟨rfl, rfl, HNB.out hneg⟩))
                go_wp2_with (go_at_call 11; (with_reducible refine Calls.mono CI.out ?_); rintro e w8 ⟨rfl, rfl⟩)
                go_ret2
                exact ⟨HWD.out _ _ HF.out, HW6.out⟩
              · have g1 : 0 ≤ hv := by omega
                by_cases hm1 : mm < hv
                · have hmx : mx H m0 (lo S (y + 1)) = hv := by rw [HLY.out, HMX.out]; omega
                  have HMY := Lib.hid hmx
                  have hmm : max mm hv = hv := by omega
                  clear hmx
                  go_wp2_with (go_at_call 11; (with_reducible refine Calls.mono CI.out ?_); rintro e w8 ⟨rfl, rfl⟩)
                  go_roundw
                  case rel => exact ⟨y + 1, by omega, by go_num, by rw [HMY.out], by rw [HLY.out]; exact HNP.out g1, HB6.out, HR6.out, HW6.out⟩
                  case measure => simp [intOf]; omega
                · have hmx : mx H m0 (lo S (y + 1)) = mm := by rw [HLY.out, HMX.out]; omega
                  have HMY := Lib.hid hmx
                  have hmm : max mm hv = mm := by omega
                  clear hmx
                  go_wp2_with (go_at_call 11; (with_reducible refine Calls.mono CI.out ?_); rintro e w8 ⟨rfl, rfl⟩)
                  go_roundw
                  case rel => exact ⟨y + 1, by omega, by go_num, by rw [HMY.out], by rw [HLY.out]; exact HNP.out g1, HB6.out, HR6.out, HW6.out⟩
                  case measure => simp [intOf]; omega
          · have hye : y = a.length := by omega
            have hly : lo S y = E := by rw [hye]; exact HLA.out
            rw [hly] at hnn ⊢
            have HMO := Lib.hid (show mo a s E 0 (lo S (x + 1)) = mx H m0 E by rw [HLS.out, mo_snoc, HM0.out, hH])
            have HGO := Lib.hid (show good a s E (lo S (x + 1)) from fun i hi k hk => by
              rw [HLS.out] at hi
              rcases List.mem_append.1 hi with h | h
              · exact HG.out i h k hk
              · rw [List.mem_singleton.1 h, hH]
                exact hnn k hk)
            have HR6 := Lib.hid hR
            have HW6 := Lib.hid hW
            clear hnn hB hR hW HB5 HR5 HW5 hye hly
            go_wp2
            go_roundw
            case rel => exact ⟨x + 1, by omega, by go_num, by rw [HMO.out], by rw [HLS.out]; simp, HGO.out, HR6.out, HW6.out⟩
            case measure => simp [intOf]; omega
    · have hxe : x = a.length := by omega
      have hla : lo S x = E := by rw [hxe]; exact HLA.out
      have hze : lo S x = [] ↔ S = 0 := by rw [hxe]; exact HZE.out
      have HWf := Lib.hid hW
      rw [hla] at hg hze ⊢
      have hfin : Wd a s (mo a s E 0 E) (!E.isEmpty) := HW2.out _ _ (by
        by_cases hz : S = 0
        · rw [if_pos hz, hze.2 hz]
          exact ⟨rfl, rfl⟩
        · rw [if_neg hz]
          refine .inl ⟨?_, hg, rfl⟩
          cases E with
          | nil => exact absurd (hze.1 rfl) hz
          | cons => rfl)
      have HF := Lib.hid hfin
      generalize mo a s E 0 E = v at HF ⊢
      generalize (!E.isEmpty) = o at HF ⊢
      clear hg hR hW hfin hxe hla hze HR
      go_wp2
      go_ret2
      exact ⟨HWD.out _ _ HF.out, HWf.out⟩
end Go.Proofs.YtfmkamkbbeahgaaDoor.Rd
