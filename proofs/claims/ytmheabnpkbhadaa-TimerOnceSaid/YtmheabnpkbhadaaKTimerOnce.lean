/- Proves: the law TimerOnce's function answers true at every input, and changes nothing that was there. -/
import Derived.Test.YtmheabnpkbhadaaLw
import Derived.Test.YtmheabnpkbhadaaLf
import Derived.Test.YtmheabnpkbhadaaSq
namespace Go.Proofs.Ytmheabnpkbhadaa.TimerOnceW
open Go.RowKit Go.Proofs.Ytmheabnpkbhadaa.Sq Go.Proofs.Ytmheabnpkbhadaa.Bk Go.Proofs.Ytmheabnpkbhadaa.Kp Go.Proofs.Ytmheabnpkbhadaa.Rw Go.Proofs.Ytmheabnpkbhadaa.Ow Go.Proofs.Ytmheabnpkbhadaa.In Go.Proofs.Ytmheabnpkbhadaa.Tp Go.Proofs.Ytmheabnpkbhadaa.Tl Go.Proofs.Ytmheabnpkbhadaa.Tq Go.Proofs.Ytmheabnpkbhadaa.Is Go.Proofs.Ytmheabnpkbhadaa.Se Go.Proofs.Ytmheabnpkbhadaa.Du Go.Proofs.Ytmheabnpkbhadaa.Al Go.Proofs.Ytmheabnpkbhadaa.Lw
theorem dues_at : ∀ (l : List One) (t : Int) (j : Nat), j < (dues l t).length → (dues l t).getD j 0 = (l.getD j (0, 0)).2 ∧ (l.getD j (0, 0)).1 ≤ t
  | [], _, j, h => absurd h (by simp [dues])
  | x :: l, t, j, h => by
    rw [dues_cons] at h ⊢
    by_cases hx : x.1 ≤ t
    · rw [if_pos hx] at h ⊢
      rcases j with _ | j
      · exact ⟨rfl, hx⟩
      · exact dues_at l t j (by simpa using h)
    · rw [if_neg hx] at h
      simp at h
theorem left_drop : ∀ (l : List One) (t : Int), left l t = l.drop (dues l t).length
  | [], _ => rfl
  | x :: l, t => by
    rw [left_cons, dues_cons]
    by_cases hx : x.1 ≤ t
    · rw [if_pos hx, if_pos hx, List.length_cons, List.drop_succ_cons, left_drop l t]
    · rw [if_neg hx, if_neg hx]
      rfl
theorem left_all : ∀ (l : List One) (t : Int), (∀ x ∈ l, x.1 ≤ t) → left l t = []
  | [], _, _ => rfl
  | x :: l, t, h => by
    rw [left_cons, if_pos (h x (by simp)), left_all l t fun y hy => h y (by simp [hy])]
/-- What was seen, as cells. -/
def Sa (s : Nat → Bool) : Array Value := ((List.range 16).map fun i => Value.bool (s i)).toArray
theorem sa_at (s : Nat → Bool) (i : Nat) (hi : i < 16) : (Sa s)[i]? = some (.bool (s i)) := by simp [Sa, hi]
theorem sa_set (s : Nat → Bool) (i : Nat) : (Sa s).setIfInBounds i (.bool true) = Sa fun k => if k = i then true else s k := by
  apply Array.ext_getElem?
  intro k
  by_cases hk : k < 16
  · rw [sa_at _ k hk]
    by_cases e : i = k
    · subst e
      rw [Array.getElem?_setIfInBounds_self_of_lt (by simp [Sa, hk]), if_pos rfl]
    · rw [Array.getElem?_setIfInBounds_ne e, sa_at s k hk, if_neg (fun h => e h.symm)]
  · rw [Array.getElem?_eq_none (by simp [Sa]; omega), Array.getElem?_eq_none (by simp [Sa]; omega)]
/-- The one row and what was seen. -/
structure St (w0 w : World) (A q : Nat) (L : List One) (B : Nat) (s : Nat → Bool) (T : TypeId) : Prop where
  row : RB w A q L
  seen : Blk w B T (Sa s)
  n1 : A ≠ B
  n2 : q ≠ B
  m1 : w0.heap.size ≤ A
  m2 : w0.heap.size ≤ B
  bel : Below w0.heap.size w0 w
theorem St.due {w0 w : World} {A q : Nat} {L : List One} {B : Nat} {s : Nat → Bool} {T : TypeId} (h : St w0 w A q L B s T) (hO : Ok L) (t : Int) :
    Calls Try.prog 9 #[.pointer (some ⟨A, 0, none⟩), .int .i64 t] w fun e w' => (∃ v, e = .returned v ∧ Oi .i64 3 w' w.heap.size v (dues L t)) ∧ St w0 w' A q (left L t) B s T ∧ w.heap.size ≤ w'.heap.size := by
  refine (due_ok A q L t w h.row hO.len).mono fun e w' ⟨h1, h2, h3⟩ => ⟨h1, ⟨h2, blk_kp h.seen h3 (fun e => h.n1 e.symm), h.n1, h.n2, h.m1, h.m2, below_k h.bel h.bel.size h3 (fun k hk => ?_)⟩, h3.size⟩
  have := h.m1
  omega
/-- What is left in the row. -/
structure Iv (la : List Int) (N : Nat) (L : List One) (s : Nat → Bool) (c : Nat) : Prop where
  nd : Nd L
  mem : ∀ x ∈ L, ∃ i : Nat, i < N ∧ x = (la.getD i 0, (i : Int)) ∧ s i = false
  cnt : c + L.length = N
theorem iv_tail {la : List Int} {N : Nat} {x : One} {L : List One} {s : Nat → Bool} {c : Nat} (h : Iv la N (x :: L) s c) {i : Nat} (hi : x.2 = (i : Int)) : Iv la N L (fun k => if k = i then true else s k) (c + 1) := by
  obtain ⟨h1, h2⟩ := List.nodup_cons.1 h.nd
  refine ⟨h2, fun y hy => ?_, by have := h.cnt; simp at this; omega⟩
  obtain ⟨k, hk, he, hs⟩ := h.mem y (by simp [hy])
  refine ⟨k, hk, he, ?_⟩
  show (if k = i then true else s k) = false
  rw [if_neg, hs]
  rintro rfl
  exact h1 (List.mem_map.2 ⟨y, hy, by rw [he]; exact hi.symm⟩)
theorem drop_cons {L : List One} {j : Nat} (hj : j < L.length) : L.drop j = L.getD j (0, 0) :: L.drop (j + 1) := by
  rw [List.drop_eq_getElem_cons hj, List.getD_eq_getElem?_getD, List.getElem?_eq_getElem hj]
  rfl
set_option maxRecDepth 100000 in
set_option maxHeartbeats 4000000 in
theorem walk (a0 : Option Addr) (len0 cap0 : Nat) (z0 : List Int) (a1 : Option Addr) (len1 cap1 : Nat) (z1 : List Int) (W : World) (w0 : Lf.IsRow .i64 W a0 len0 cap0 z0) (y0 : len0 * 8 ≤ 140737488351232) (w1 : Lf.IsRow .i64 W a1 len1 cap1 z1) (y1 : len1 * 8 ≤ 140737488351232) :
    Calls Try.prog 3 #[.slice a0 len0 cap0, .slice a1 len1 cap1] W fun e w' => e = .returned (.bool true) ∧ Below W.heap.size W w' := by
  have CA := Lib.hid (alive_ok W)
  obtain ⟨la, rfl, _, _, hRa, hwa⟩ := row_ints w0
  obtain ⟨ln, rfl, _, _, hRn, _⟩ := row_ints w1
  have HRa := Lib.hid hRa
  have HRn := Lib.hid hRn
  have HWF := Lib.hid hwa
  clear w0 hRa hwa y0 w1 hRn y1
  obtain ⟨N, hN⟩ : ∃ N, la.length = N := ⟨_, rfl⟩
  obtain ⟨K, hK⟩ : ∃ K, ln.length = K := ⟨_, rfl⟩
  rw [hN, hK]
  by_cases h1 : 16 < N
  · have h2 : (16 : Int) < (N : Int) := by omega
    go_enter Try.func3, Try.ntmps3
    go_wp2_with (go_at_call 7; (with_reducible refine Calls.mono CA.out ?_); rintro e w1 ⟨rfl, hb1⟩; have HB1 := Lib.hid hb1; clear hb1 CA)
    go_ret
    exact ⟨rfl, HB1.out⟩
  have h2 : ¬ (16 : Int) < (N : Int) := by omega
  by_cases h3 : 100 < K
  · have h4 : (100 : Int) < (K : Int) := by omega
    go_enter Try.func3, Try.ntmps3
    go_wp2_with (go_at_call 7; (with_reducible refine Calls.mono CA.out ?_); rintro e w1 ⟨rfl, hb1⟩; have HB1 := Lib.hid hb1; clear hb1 CA)
    go_ret
    exact ⟨rfl, HB1.out⟩
  have h4 : ¬ (100 : Int) < (K : Int) := by omega
  go_enter Try.func3, Try.ntmps3
  go_wp2_with (go_at_call 7; (with_reducible refine Calls.mono CA.out ?_); rintro e w1 ⟨rfl, hb1⟩; have HB1 := Lib.hid hb1; have hge := hb1.size; clear hb1 CA)
  have HS := Lib.hid (RB.new w1)
  have HB2 := Lib.hid (HB1.out.alloc HB1.out.size (.cells #[.slice none 0 0] 26))
  have hA0 : w1.heap.size < (w1.alloc (.cells #[.slice none 0 0] 26)).heap.size := by simp
  generalize hA : w1.heap.size = A at HS hA0 hge ⊢
  generalize w1.alloc (.cells #[.slice none 0 0] 26) = w2 at HS HB2 hA0 ⊢
  clear hA HB1
  go_loopw [26] (fun s26 wr => ∃ k q, Aside (k ≤ N ∧ s26 = .int .i64 (k : Nat) ∧ RB wr A q (bl la k) ∧ W.heap.size ≤ q ∧ Below W.heap.size W wr)) (fun s26 _ => N - (intOf s26).toNat)
  case atStart => exact ⟨0, A, Nat.zero_le _, rfl, HS.out, hge, HB2.out⟩
  case round =>
    obtain ⟨k, q, hX⟩ := hrel
    obtain ⟨hk, rfl, hS, hqg, hB⟩ := hX.out
    have HSr := Lib.hid hS
    have HBr := Lib.hid hB
    clear hX hS HS HB2 hB
    by_cases hlt : k < N
    · have n1 : (k : Int) < (N : Int) := by omega
      obtain ⟨ad, rfl, hadlt, hc⟩ := HRa.out.at_ (show k < la.length by omega)
      have c0 : wr.cell? (ad.add k) = some (.int .i64 (la.getD k 0)) := (HBr.out.cell (by rw [block_of_add]; exact hadlt)).trans hc
      obtain ⟨t, ht⟩ : ∃ t, la.getD k 0 = t := ⟨_, rfl⟩
      rw [ht] at c0
      have HT := Lib.hid ht
      have hcode := (bl_step la k (bl_length la k (by omega)) (by omega)).2
      have HCO := Lib.hid hcode
      clear ht hc hcode
      go_wp2_with (go_at_call 8; (with_reducible refine Calls.mono (set_new W A q (bl la k) t k wr HBr.out hge hqg HSr.out (bl_ok la k)) ?_); rintro e w3 ⟨rfl, ⟨q', hS3, hq3⟩, hB3⟩; have HS3 := Lib.hid hS3; have HB3 := Lib.hid hB3; rw [HCO.out]; clear hS3 hB3 HSr)
      go_roundw
      case rel => exact ⟨k + 1, q', by omega, by go_num, by rw [bl, HT.out]; exact HS3.out, hq3, HB3.out⟩
      case measure => simp [intOf]; omega
    · have hk : k = N := by omega
      subst hk
      have HIV : Hid (Iv la k (bl la k) (fun _ => false) 0) := ⟨(bl_ok la k).nd, fun x hx => by
        obtain ⟨i, hi, hx⟩ := bl_mem la k x hx
        exact ⟨i, hi, hx, rfl⟩, by rw [bl_length la k (by omega)]; omega⟩
      have hbok := bl_ok la k
      have hAlt := HSr.out.ltr
      have hqlt := HSr.out.ltq
      generalize bl la k = L0 at HSr HIV hbok
      have HBOK := Lib.hid hbok
      clear hbok
      go_wp2
      obtain ⟨B, hBe⟩ : ∃ B, wr.heap.size = B := ⟨_, rfl⟩
      have HST : Hid (St W (wr.alloc (.cells (Sa fun _ => false) 29)) A q L0 wr.heap.size (fun _ => false) 29) := ⟨HSr.out.alloc _, Blk.new _ _ _, by omega, by omega, hge, HBr.out.size, HBr.out.alloc HBr.out.size _⟩
      rw [show Sa (fun _ => false) = #[.bool false, .bool false, .bool false, .bool false, .bool false, .bool false, .bool false, .bool false, .bool false, .bool false, .bool false, .bool false, .bool false, .bool false, .bool false, .bool false] from rfl, hBe] at HST
      rw [hBe]
      generalize wr.alloc (.cells #[.bool false, .bool false, .bool false, .bool false, .bool false, .bool false, .bool false, .bool false, .bool false, .bool false, .bool false, .bool false, .bool false, .bool false, .bool false, .bool false] 29) = w3 at HST ⊢
      clear HSr HBr hBe hAlt hqlt
      go_loopw [9, 10] (fun s9 s10 wr => ∃ j q L s c, Aside (j ≤ K + 1 ∧ s10 = .int .i64 (j : Nat) ∧ s9 = .int .i64 (c : Nat) ∧ St W wr A q L B s 29 ∧ Ok L ∧ Iv la k L s c ∧ (j = K + 1 → L = []))) (fun _ s10 _ => K + 1 - (intOf s10).toNat)
      case atStart => exact ⟨0, q, L0, fun _ => false, 0, Nat.zero_le _, rfl, rfl, HST.out, HBOK.out, HIV.out, fun h => by omega⟩
      case round =>
        obtain ⟨j, q, L, s, c, hX⟩ := hrel
        obtain ⟨hj, rfl, rfl, hST, hok, hiv, hend⟩ := hX.out
        have HST := Lib.hid hST
        have HOKL := Lib.hid hok
        have HIVL := Lib.hid hiv
        have HEND := Lib.hid hend
        clear hX hST hok hiv hend HIV HBOK
        by_cases hjK : j ≤ K
        · have hjK1 : (j : Int) ≤ (K : Int) := by omega
          by_cases hjlt : j < K
          · have n1 : (j : Int) < (K : Int) := by omega
            obtain ⟨ad, rfl, hadlt, hc⟩ := HRn.out.at_ (show j < ln.length by omega)
            have c0 : wr.cell? (ad.add j) = some (.int .i64 (ln.getD j 0)) := (HST.out.bel.cell (by rw [block_of_add]; exact hadlt)).trans hc
            obtain ⟨t, ht⟩ : ∃ t, ln.getD j 0 = t := ⟨_, rfl⟩
            rw [ht] at c0
            clear hc ht
            have HDUE := Lib.hid (HST.out.due HOKL.out t)
            have hl16 := HOKL.out.len
            have hBlt := HST.out.seen.lt
            have hdl := dues_length L t
            have HOKT := Lib.hid (ok_left HOKL.out t)
            have HDA := Lib.hid (dues_at L t)
            have HLD := Lib.hid (left_drop L t)
            go_wp2_with (go_at_call 9; (with_reducible refine Calls.mono HDUE.out ?_); rintro e w5 ⟨⟨v1, rfl, ho1⟩, hS5, hs5⟩; have hfo := ho1.owner; obtain ⟨AV, cV, rfl, _, hri⟩ := ho1.ri; have HRI := Lib.hid hri; have HS5 := Lib.hid hS5; have HFO := Lib.hid (show ∀ ad, AV = some ad → ad.block ≠ B from fun ad e => by (have := hfo ad.block (by rw [e]; rfl)); omega); clear ho1 hS5 hri hfo HDUE HST)
            obtain ⟨M, hM⟩ : ∃ M, (dues L t).length = M := ⟨_, rfl⟩
            rw [hM]
            go_loopw [9, 53] (fun s9 s53 wr => ∃ i c s, Aside (i ≤ M ∧ s53 = .int .i64 (i : Nat) ∧ s9 = .int .i64 (c : Nat) ∧ St W wr A q (left L t) B s 29 ∧ Iv la k (L.drop i) s c ∧ Ri .i64 wr AV (dues L t))) (fun _ s53 _ => M - (intOf s53).toNat)
            case atStart => exact ⟨0, c, s, Nat.zero_le _, rfl, rfl, HS5.out, HIVL.out, HRI.out⟩
            case round =>
              obtain ⟨i, c, s, hX⟩ := hrel
              obtain ⟨hi, rfl, rfl, hST, hiv, hri⟩ := hX.out
              have HST := Lib.hid hST
              have HIVX := Lib.hid hiv
              have HRX := Lib.hid hri
              clear hX hST hiv hri HS5 HRI HIVL
              by_cases hlti : i < M
              · have n2 : (i : Int) < (M : Int) := by omega
                obtain ⟨ae, rfl, _, hc1⟩ := HRX.out.at_ (show i < (dues L t).length by omega)
                obtain ⟨hd1, hd2⟩ := HDA.out i (by omega)
                rw [hd1] at hc1
                have HIV2 := HIVX
                rw [drop_cons (show i < L.length by omega)] at HIV2
                obtain ⟨m, hmk, hx, hsm⟩ := HIV2.out.mem (L.getD i (0, 0)) (by simp)
                have HIV3 := Lib.hid (iv_tail HIV2.out (i := m) (by rw [hx]))
                have hcnt := HIV2.out.cnt
                rw [hx] at hc1 hd2
                obtain ⟨ad, rfl, hadlt, hc⟩ := HRa.out.at_ (show m < la.length by omega)
                have a0 : wr.cell? (ad.add m) = some (.int .i64 (la.getD m 0)) := (HST.out.bel.cell (by rw [block_of_add]; exact hadlt)).trans hc
                have s0 : wr.cell? ⟨B, m, none⟩ = some (.bool false) := by rw [HST.out.seen.cell, sa_at s m (by omega), hsm]
                have f0 : wr.frozen? ⟨B, m, none⟩ = false := HST.out.seen.frozen m
                obtain ⟨d, hd⟩ : ∃ d, la.getD m 0 = d := ⟨_, rfl⟩
                rw [hd] at a0 hd2
                have hd2 : d ≤ t := hd2
                have hc1 : wr.cell? (ae.add i) = some (.int .i64 (m : Int)) := hc1
                have hm16 : (m : Int) < 16 := by omega
                have hmk' : ¬ (k : Int) ≤ (m : Int) := by omega
                have hw : IntKind.i64.wrap ((c : Int) + 1) = (c : Int) + 1 := by rw [IntKind.wrap_i64]; omega
                have HB9 := Lib.hid (show Blk (wr.setCell ⟨B, m, none⟩ (.bool true)) B 29 (Sa fun k => if k = m then true else s k) by rw [← sa_set]; exact HST.out.seen.set_ m _)
                have HK9 := Lib.hid (Kp.set_ (S := (· = B)) (Kp.refl _ wr) ⟨B, m, none⟩ (.inl rfl) (.bool true))
                clear hd hx hsm hc hcnt hd1 HIV2
                go_wp2
                go_roundw
                case rel => exact ⟨i + 1, c + 1, _, by omega, by go_num, by rfl, ⟨HST.out.row.kp HK9.out HST.out.n1 HST.out.n2, HB9.out, HST.out.n1, HST.out.n2, HST.out.m1, HST.out.m2, below_k HST.out.bel HST.out.bel.size HK9.out (fun k e => by subst e; exact HST.out.m2)⟩, HIV3.out, ri_kp HRX.out HK9.out (fun ad e => HFO.out ad e)⟩
                case measure => simp [intOf]; omega
              · have hi : i = M := by omega
                subst hi
                have HIV4 := HIVX
                rw [← hM, ← HLD.out] at HIV4
                go_wp2
                go_roundw
                case rel => exact ⟨j + 1, q, left L t, s, c, by omega, by go_num, rfl, HST.out, HOKT.out, HIV4.out, fun h => by omega⟩
                case measure => simp [intOf]; omega
          · have n1 : ¬ (j : Int) < (K : Int) := by omega
            have hall : left L 9223372036854775807 = [] := left_all L _ fun x hx => by
              obtain ⟨i, hi, rfl, _⟩ := HIVL.out.mem x hx
              have := HWF.out (la.getD i 0) (by rw [List.getD_eq_getElem?_getD, List.getElem?_eq_getElem (by omega)]; exact List.getElem_mem _)
              show la.getD i 0 ≤ _
              generalize la.getD i 0 = x at this ⊢
              simp [Lit.wf, IntKind.min, IntKind.max, IntKind.bits, IntKind.signed] at this
              omega
            have HALL := Lib.hid hall
            clear hall
            obtain ⟨t, ht⟩ : ∃ t : Int, 9223372036854775807 = t := ⟨_, rfl⟩
            rw [ht] at HALL
            go_upto_region 20 with fail
            rw [ht]
            clear ht
            have HDUE := Lib.hid (HST.out.due HOKL.out t)
            have hl16 := HOKL.out.len
            have hBlt := HST.out.seen.lt
            have hdl := dues_length L t
            have HOKT := Lib.hid (ok_left HOKL.out t)
            have HDA := Lib.hid (dues_at L t)
            have HLD := Lib.hid (left_drop L t)
            go_wp2_with (go_at_call 9; (with_reducible refine Calls.mono HDUE.out ?_); rintro e w5 ⟨⟨v1, rfl, ho1⟩, hS5, hs5⟩; have hfo := ho1.owner; obtain ⟨AV, cV, rfl, _, hri⟩ := ho1.ri; have HRI := Lib.hid hri; have HS5 := Lib.hid hS5; have HFO := Lib.hid (show ∀ ad, AV = some ad → ad.block ≠ B from fun ad e => by (have := hfo ad.block (by rw [e]; rfl)); omega); clear ho1 hS5 hri hfo HDUE HST)
            obtain ⟨M, hM⟩ : ∃ M, (dues L t).length = M := ⟨_, rfl⟩
            rw [hM]
            go_loopw [9, 53] (fun s9 s53 wr => ∃ i c s, Aside (i ≤ M ∧ s53 = .int .i64 (i : Nat) ∧ s9 = .int .i64 (c : Nat) ∧ St W wr A q (left L t) B s 29 ∧ Iv la k (L.drop i) s c ∧ Ri .i64 wr AV (dues L t))) (fun _ s53 _ => M - (intOf s53).toNat)
            case atStart => exact ⟨0, c, s, Nat.zero_le _, rfl, rfl, HS5.out, HIVL.out, HRI.out⟩
            case round =>
              obtain ⟨i, c, s, hX⟩ := hrel
              obtain ⟨hi, rfl, rfl, hST, hiv, hri⟩ := hX.out
              have HST := Lib.hid hST
              have HIVX := Lib.hid hiv
              have HRX := Lib.hid hri
              clear hX hST hiv hri HS5 HRI HIVL
              by_cases hlti : i < M
              · have n2 : (i : Int) < (M : Int) := by omega
                obtain ⟨ae, rfl, _, hc1⟩ := HRX.out.at_ (show i < (dues L t).length by omega)
                obtain ⟨hd1, hd2⟩ := HDA.out i (by omega)
                rw [hd1] at hc1
                have HIV2 := HIVX
                rw [drop_cons (show i < L.length by omega)] at HIV2
                obtain ⟨m, hmk, hx, hsm⟩ := HIV2.out.mem (L.getD i (0, 0)) (by simp)
                have HIV3 := Lib.hid (iv_tail HIV2.out (i := m) (by rw [hx]))
                have hcnt := HIV2.out.cnt
                rw [hx] at hc1 hd2
                obtain ⟨ad, rfl, hadlt, hc⟩ := HRa.out.at_ (show m < la.length by omega)
                have a0 : wr.cell? (ad.add m) = some (.int .i64 (la.getD m 0)) := (HST.out.bel.cell (by rw [block_of_add]; exact hadlt)).trans hc
                have s0 : wr.cell? ⟨B, m, none⟩ = some (.bool false) := by rw [HST.out.seen.cell, sa_at s m (by omega), hsm]
                have f0 : wr.frozen? ⟨B, m, none⟩ = false := HST.out.seen.frozen m
                obtain ⟨d, hd⟩ : ∃ d, la.getD m 0 = d := ⟨_, rfl⟩
                rw [hd] at a0 hd2
                have hd2 : d ≤ t := hd2
                have hc1 : wr.cell? (ae.add i) = some (.int .i64 (m : Int)) := hc1
                have hm16 : (m : Int) < 16 := by omega
                have hmk' : ¬ (k : Int) ≤ (m : Int) := by omega
                have hw : IntKind.i64.wrap ((c : Int) + 1) = (c : Int) + 1 := by rw [IntKind.wrap_i64]; omega
                have HB9 := Lib.hid (show Blk (wr.setCell ⟨B, m, none⟩ (.bool true)) B 29 (Sa fun k => if k = m then true else s k) by rw [← sa_set]; exact HST.out.seen.set_ m _)
                have HK9 := Lib.hid (Kp.set_ (S := (· = B)) (Kp.refl _ wr) ⟨B, m, none⟩ (.inl rfl) (.bool true))
                clear hd hx hsm hc hcnt hd1 HIV2
                go_wp2
                go_roundw
                case rel => exact ⟨i + 1, c + 1, _, by omega, by go_num, by rfl, ⟨HST.out.row.kp HK9.out HST.out.n1 HST.out.n2, HB9.out, HST.out.n1, HST.out.n2, HST.out.m1, HST.out.m2, below_k HST.out.bel HST.out.bel.size HK9.out (fun k e => by subst e; exact HST.out.m2)⟩, HIV3.out, ri_kp HRX.out HK9.out (fun ad e => HFO.out ad e)⟩
                case measure => simp [intOf]; omega
              · have hi : i = M := by omega
                subst hi
                have HIV4 := HIVX
                rw [← hM, ← HLD.out] at HIV4
                go_wp2
                go_roundw
                case rel => exact ⟨j + 1, q, left L t, s, c, by omega, by go_num, rfl, HST.out, HOKT.out, HIV4.out, fun h => HALL.out⟩
                case measure => simp [intOf]; omega
        · have hjK1 : ¬ (j : Int) ≤ (K : Int) := by omega
          have hL := HEND.out (by omega)
          subst hL
          have hc : c = k := by have := HIVL.out.cnt; simpa using this
          subst hc
          go_wp2_with (go_at_call 10; (with_reducible refine Calls.mono (len_ok _ _ _ _ HST.out.row) ?_); rintro e w9 ⟨rfl, rfl⟩)
          go_ret
          exact ⟨rfl, HST.out.bel⟩
end Go.Proofs.Ytmheabnpkbhadaa.TimerOnceW
