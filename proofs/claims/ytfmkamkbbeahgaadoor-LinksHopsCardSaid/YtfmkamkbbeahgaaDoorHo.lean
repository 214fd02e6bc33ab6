/- Hops. -/
import Derived.Test.YtfmkamkbbeahgaaDoorEa
import Derived.Test.YtfmkamkbbeahgaaDoorNw
import Derived.Test.YtfmkamkbbeahgaaDoorHm
import Derived.Test.YtfmkamkbbeahgaaDoorMk
import Derived.Test.YtfmkamkbbeahgaaDoorFu
import Derived.Laws.BitsAllLaws
namespace Go.Proofs.YtfmkamkbbeahgaaDoor.Ho
open Go.RowKit Go.Shelf Go.Proofs.YtfmkamkbbeahgaaDoor.Si Go.Proofs.YtfmkamkbbeahgaaDoor.Bk Go.Proofs.YtfmkamkbbeahgaaDoor.Rw Go.Proofs.YtfmkamkbbeahgaaDoor.Ow Go.Proofs.YtfmkamkbbeahgaaDoor.Kp Go.Proofs.YtfmkamkbbeahgaaDoor.Rb Go.Proofs.YtfmkamkbbeahgaaDoor.Bl Go.Proofs.YtfmkamkbbeahgaaDoor.Tz Go.Proofs.YtfmkamkbbeahgaaDoor.Ea Go.Proofs.YtfmkamkbbeahgaaDoor.Lk Go.Proofs.YtfmkamkbbeahgaaDoor.Hm Go.Proofs.YtfmkamkbbeahgaaDoor.Mk Go.Proofs.YtfmkamkbbeahgaaDoor.Fu
attribute [local go_sem] Oper.semAt_some

theorem fill_cell (x y : Value) {k n : Nat} (h : k < n) : ((List.replicate k x ++ List.replicate (n - k) y).toArray)[k]? = some y := by
  rw [List.getElem?_toArray, List.getElem?_append_right (by rw [List.length_replicate]; exact Nat.le_refl _), List.length_replicate, Nat.sub_self, List.getElem?_replicate, if_pos (by omega)]
theorem fill_set (x y : Value) {k n : Nat} (h : k < n) : ((List.replicate k x ++ List.replicate (n - k) y).toArray).setIfInBounds k x = (List.replicate (k + 1) x ++ List.replicate (n - (k + 1)) y).toArray := by
  rw [List.setIfInBounds_toArray]
  congr 1
  apply List.ext_getElem?
  intro j
  rw [List.getElem?_set, List.getElem?_append, List.getElem?_append, List.length_append, List.length_replicate, List.length_replicate, List.length_replicate]
  simp only [List.getElem?_replicate]
  by_cases h1 : k = j
  · subst h1
    simp only [if_true]
    rw [if_pos (show k < k + (n - k) by omega), if_pos (show k < k + 1 by omega), if_pos (show k < k + 1 by omega)]
  · rw [if_neg h1]
    by_cases h2 : j < k
    · rw [if_pos h2, if_pos h2, if_pos (show j < k + 1 by omega), if_pos (show j < k + 1 by omega)]
    · rw [if_neg h2, if_neg (show ¬ j < k + 1 by omega)]
      by_cases h3 : j - k < n - k
      · rw [if_pos h3, if_pos (show j - (k + 1) < n - (k + 1) by omega)]
      · rw [if_neg h3, if_neg (show ¬ j - (k + 1) < n - (k + 1) by omega)]
theorem keeps_drew (X : World) : KeepsOthers X X.drew := ⟨Nat.le_refl _, fun _ _ h _ => h⟩
theorem ab_kp {β : Type} {Bn B : Nat} {S : Nat → Prop} {w₀ : World} (hS : ∀ k, k = Bn ∨ B ≤ k → S k) (o' : Obj → Prop) : Ab Bn B o' (fun (_ : β) W => Kp S w₀ W) :=
  fun _ _ _ _ hs hg hr => hs.grown hg (fun q e => .inl (by
    rcases hr q e with h | h
    · exact hS q (.inl h)
    · exact hS q (.inr h.1)))
theorem ab_defs {β : Type} {Bn B : Nat} {Ds : List Nat} (hD : ∀ D ∈ Ds, D ≠ Bn ∧ D < B) (o' : Obj → Prop) : Ab Bn B o' (fun (_ : β) W => ∀ D ∈ Ds, W.heap[D]? = some (.deferred (some []))) :=
  fun _ W _ _ hs hg hr D hm => (hg.block D (Array.getElem?_eq_some_iff.1 (hs D hm)).1 (fun e => by
    have := hD D hm
    rcases hr D e.symm with h | h
    · exact this.1 h
    · have := h.1
      omega)).trans (hs D hm)
set_option maxRecDepth 100000 in
theorem hops_nil (fr : Int) (s : Nat) (w : World) : Calls Tryd.prog 15 #[.pointer none, .int .i64 fr, .int .u64 s] w fun e w' => e = .returned (.slice none 0 0) ∧ Below w.heap.size w w' := by
  go_enter Tryd.func15, Tryd.ntmps15
  go_wp2
  go_ret
  exact ⟨rfl, (Below.refl _ _).alloc (Nat.le_refl _) _⟩
set_option maxRecDepth 100000 in
set_option maxHeartbeats 4000000 in
theorem hops_ok (p g : Nat) (a : List Nat) (fr : Int) (s : Nat) (w : World) (h : Ln w p g a) (hs : s < 2 ^ 64) (hT : Tab w) :
    Calls Tryd.prog 15 #[.pointer (some ⟨p, 0, none⟩), .int .i64 fr, .int .u64 s] w fun e w' => (∃ b, e = .returned (.slice (some ⟨b, 0, none⟩) a.length a.length) ∧ Blk w' b 3 ((hops a fr s).map (Value.int .i64)).toArray ∧ w.heap.size ≤ b) ∧ Below w.heap.size w w' := by
  refine callsIn_wide (n := 3).1 ?_
  have hfn : Fence.wide.fn 15 := trivial
  have h1 : 1 ≤ 3 := by decide
  refine callsIn_of_wp_marks Tryd.func15 rfl hfn ?_ rfl
  simp only [Tryd.ntmps15, List.size_toArray, List.length_cons, List.length_nil, Nat.reduceAdd, Nat.reduceSub, Array.replicate_succ, Array.replicate_zero, List.push_toArray, List.append_toArray, List.nil_append, List.cons_append]
  have HL := Lib.hid h
  have HT := Lib.hid hT
  have hhi := h.hi
  have hlo := h.lo
  have c0 := (h.box.alloc (.cells #[.pointer (some ⟨p, 0, none⟩)] 29)).cell 0
  clear h hT
  gi_wp2_with (gi_at_make; refine wpi_full .i64 3 _ rfl 24 _ _ rfl Tryd.underlying24 (by kernel_rfl) .i64 .i64 a.length rfl rfl (by omega) ?_)
  intro w2 hb2 hg2
  have hK2 : Kp (fun _ => False) w w2 := ((Kp.refl _ w).alloc _).grown hg2 (fun q hq => nomatch hq)
  have HL2 := Lib.hid (HL.out.kp hK2 (fun h => h) (fun h => h))
  have HT2 := Lib.hid (HT.out.kp hK2 (fun h => h))
  have hbl : Blk w2 w.heap.size 29 #[.pointer (some ⟨p, 0, none⟩)] := (Blk.new w 29 #[.pointer (some ⟨p, 0, none⟩)]).grown hg2 (fun e => nomatch e)
  have HBL := Lib.hid (hbl.alloc (.cells #[.slice (some ⟨w.heap.size + 1, 0, none⟩) a.length a.length] 24))
  have HBO := Lib.hid (Blk.new w2 24 #[.slice (some ⟨w.heap.size + 1, 0, none⟩) a.length a.length])
  have HBR := Lib.hid (hb2.alloc (.cells #[.slice (some ⟨w.heap.size + 1, 0, none⟩) a.length a.length] 24))
  have HK3 := Lib.hid (hK2.alloc (.cells #[.slice (some ⟨w.heap.size + 1, 0, none⟩) a.length a.length] 24))
  have HL3 := Lib.hid (HL2.out.below ((Below.refl _ _).alloc (Nat.le_refl _) (.cells #[.slice (some ⟨w.heap.size + 1, 0, none⟩) a.length a.length] 24)))
  have HT3 := Lib.hid (HT2.out.below ((Below.refl _ _).alloc (Nat.le_refl _) (.cells #[.slice (some ⟨w.heap.size + 1, 0, none⟩) a.length a.length] 24)) HT2.out.1)
  have hRO : w.heap.size + 1 < w2.heap.size := hb2.lt
  have hpg := HL.out.lt
  clear hb2 hg2 hK2 hbl HL HT HL2 HT2 c0
  gi_wp2_with fail
  generalize w2.alloc (.cells #[.slice (some ⟨w.heap.size + 1, 0, none⟩) a.length a.length] 24) = w3 at HBL HBO HBR HK3 HL3 HT3 ⊢
  generalize hbo : w2.heap.size = bo at HBO hRO ⊢
  clear hbo
  have c3 := HBO.out.cell 0
  gi_loopw [23] (fun i wr => ∃ k : Nat, k ≤ a.length ∧ i = .int .i64 k ∧ Blk wr (w.heap.size + 1) 3 ((List.replicate k (Value.int .i64 (-1)) ++ List.replicate (a.length - k) (Value.int .i64 0)).toArray) ∧ Kp (fun b => b = w.heap.size + 1) w3 wr) (fun i _ => a.length - (intOf i).toNat)
  case atStart => exact ⟨0, Nat.zero_le _, rfl, by simpa using HBR.out, Kp.refl _ _⟩
  case round =>
    obtain ⟨k, hk, rfl, hbr, hkp⟩ := hrel
    have hbo3 := blk_kp HBO.out hkp (by omega)
    have m0 := hbo3.cell 0
    by_cases hlt : k < a.length
    · have n1 : (k : Int) < (a.length : Int) := by omega
      have ck : wr.cell? ⟨w.heap.size + 1, k, none⟩ = some (.int .i64 0) := by
        rw [hbr.cell k]
        exact fill_cell _ _ hlt
      have fk := hbr.frozen k
      have HBR2 := Lib.hid hbr
      have HKP := Lib.hid hkp
      clear hbr hkp hbo3
      gi_wp2
      go_roundw
      case rel =>
        refine ⟨k + 1, by omega, by go_num, ?_, HKP.out.set_ ⟨w.heap.size + 1, k, none⟩ (.inl rfl) _⟩
        have h5 := HBR2.out.set_ k (.int .i64 (-1))
        rw [fill_set _ _ hlt] at h5
        exact h5
      case measure => simp [intOf]; omega
    · have hke : k = a.length := by omega
      subst hke
      rw [Nat.sub_self, List.replicate_zero, List.append_nil] at hbr
      have HBR2 := Lib.hid hbr
      have HBO2 := Lib.hid hbo3
      have HL4 := Lib.hid (HL3.out.kp hkp (by omega) (by omega))
      have HT4 := Lib.hid (HT3.out.kp hkp (by have := HT3.out.1; omega))
      have HBL2 := Lib.hid (blk_kp HBL.out hkp (by omega))
      have HK4 := Lib.hid (show Kp (fun _ => False) w wr from ⟨hkp.os.trans HK3.out.os, hkp.tape.trans HK3.out.tape, hkp.output.trans HK3.out.output, Nat.le_trans HK3.out.size hkp.size, fun b hb hn => (hkp.block b (Nat.lt_of_lt_of_le hb HK3.out.size) (by omega)).trans (HK3.out.block b hb hn)⟩)
      have CA := Lib.hid (all_any (some ⟨p, 0, none⟩) a wr (.inr ⟨p, g, rfl, HL4.out⟩) hhi)
      have CI := Lib.hid (in_any (some ⟨p, 0, none⟩) a fr wr (.inr ⟨p, g, rfl, HL4.out⟩))
      have y3 := HBL2.out.cell 0
      clear hbr hbo3 hkp HBR HBO HL3 HT3 HBL HK3 c3
      have hpn : 2 ^ a.length ≤ 2 ^ 64 := Nat.pow_le_pow_right (by decide) hhi
      have hE : bits BinOp.and IntKind.u64 (s : Int) ((2 ^ a.length - 1 : Nat) : Int) = ((s &&& (2 ^ a.length - 1) : Nat) : Int) := bits_and_u64_nat s _ hs (by have := Nat.two_pow_pos a.length; omega)
      obtain ⟨M, hM⟩ : ∃ M, 2 ^ a.length - 1 = M := ⟨_, rfl⟩
      have hop : hops a fr s = if 0 ≤ fr ∧ fr < a.length ∧ (s &&& M).testBit fr.toNat = true then rounds a (List.replicate a.length (-1)) (2 ^ fr.toNat) (s &&& M) 0 else List.replicate a.length (-1) := by rw [← hM]; rfl
      rw [hM] at CA hE
      have he64 : s &&& M < 2 ^ 64 := Nat.lt_of_le_of_lt Nat.and_le_left hs
      obtain ⟨e0, he0⟩ : ∃ e0, s &&& M = e0 := ⟨_, rfl⟩
      rw [he0] at hE hop he64
      have HOP := Lib.hid hop
      have HE64 := Lib.hid he64
      have HE2 := Lib.hid (show e0 < 2 ^ a.length by
        have := Nat.two_pow_pos a.length
        rw [← he0]; exact Nat.lt_of_le_of_lt Nat.and_le_right (by omega))
      clear hop he64 hpn hM he0
      have minus : hops a fr s = List.replicate a.length (-1) → (hops a fr s).map (Value.int .i64) = List.replicate a.length (Value.int .i64 (-1)) := fun h => by rw [h, List.map_replicate]
      have HMI := Lib.hid minus
      clear minus
      have CI2 := Lib.hid (show Calls Tryd.prog 26 #[.pointer (some ⟨p, 0, none⟩), .int .i64 fr] wr fun e w' => e = .returned (.bool (isn a fr)) ∧ wr = w' from CI.out)
      clear CI
      by_cases hin : isn a fr = true
      · rw [hin] at CI2
        simp only [isn, Bool.and_eq_true, decide_eq_true_eq] at hin
        obtain ⟨j, rfl⟩ : ∃ j : Nat, fr = j := ⟨fr.toNat, by omega⟩
        have j2 : ¬ ((j : Int) < 0) := by omega
        have bz : (bits BinOp.and IntKind.u64 ((e0 : Int) / 2 ^ j) 1 == 0) = !e0.testBit j := by
          have b1 := bit_is e0 j HE64.out
          have e1 : (e0 : Int) / 2 ^ j = ((e0 / 2 ^ j : Nat) : Int) := by simp
          have hl : e0 / 2 ^ j < 2 ^ 64 := Nat.lt_of_le_of_lt (Nat.div_le_self _ _) HE64.out
          rw [e1, show (1 : Int) = ((1 : Nat) : Int) from rfl, bits_and_u64_nat _ 1 hl (by decide), Nat.and_one_is_mod] at b1 ⊢
          rw [← b1]
          have : e0 / 2 ^ j % 2 = 0 ∨ e0 / 2 ^ j % 2 = 1 := by omega
          rcases this with h | h <;> simp [h]
        by_cases hbit : e0.testBit j = true
        · rw [hbit] at bz
          gi_wp2_with (first
            | (refine ⟨trivial, ?_⟩; gi_at_call 25; refine (callsIn_wide.2 CA.out).mono ?_; rintro e w4 ⟨rfl, rfl⟩)
            | (refine ⟨trivial, ?_⟩; gi_at_call 26; refine (callsIn_wide.2 CI2.out).mono ?_; rintro e w4 ⟨rfl, rfl⟩))
          have hw2j : IntKind.u64.wrap (2 ^ j) = ((2 ^ j : Nat) : Int) := by
            have : 2 ^ j < 2 ^ 64 := Nat.pow_lt_pow_right (by decide) (by omega)
            rw [IntKind.wrap_u64]
            have e : ((2 : Int) ^ j) = ((2 ^ j : Nat) : Int) := by simp
            rw [e]
            generalize 2 ^ j = m at this ⊢
            omega
          simp only [hw2j]
          obtain ⟨RES, hRES⟩ : ∃ RES, rounds a (List.replicate a.length (-1)) (2 ^ j) e0 0 = RES := ⟨_, rfl⟩
          have hHR : hops a (j : Int) s = RES := by rw [HOP.out, if_pos ⟨hin.1, hin.2, by rw [Int.toNat_natCast]; exact hbit⟩, Int.toNat_natCast, hRES]
          have hbs := HBO2.out.lt
          have hls := HBL2.out.lt
          have hrs := HBR2.out.lt
          obtain ⟨I, hI⟩ : ∃ I : Act → World → Prop, I = fun a' W' => ∃ (e r nb : Nat) (n : Int) (o : List Int) (Ds : List Nat) (x0 x1 x2 x4 x5 x8 x12 x13 x14 x15 x16 x17 x18 x19 x20 x21 x22 x23 x24 x25 x26 x27 x28 x29 x30 x31 x32 x33 x34 x35 x36 x37 x38 x39 x40 x41 x42 x43 x44 x45 x46 x47 x48 x49 x50 x51 x52 x53 x54 x55 x56 x57 x58 x59 x60 x61 x62 x63 x64 x65 x66 x67 x68 x69 x70 x71 x72 x73 x74 x75 x76 : Value), a' = { tmps := #[x0, x1, x2, .pointer (some ⟨w.heap.size, 0, none⟩), x4, x5, .slice none 0 0, .pointer (some ⟨bo, 0, none⟩), x8, .int .u64 (e : Int), .int .u64 (r : Int), .pointer (some ⟨nb, 0, none⟩), x12, x13, x14, x15, x16, x17, x18, x19, x20, x21, x22, x23, x24, x25, x26, x27, x28, x29, x30, x31, x32, x33, x34, x35, x36, x37, x38, x39, x40, x41, x42, x43, x44, x45, x46, x47, x48, x49, x50, x51, x52, x53, x54, x55, x56, x57, x58, x59, x60, x61, x62, x63, x64, x65, x66, x67, x68, x69, x70, x71, x72, x73, x74, x75, x76], defers := Ds.map Mk.mark } ∧
            (e &&& r = e ∧ r < 2 ^ a.length ∧ rounds a o e r n = RES ∧ o.length = a.length ∧ 0 ≤ n ∧ n + (bl r).length ≤ 64) ∧ wr.heap.size ≤ nb ∧ Blk W' nb 3 #[.int .i64 n] ∧ Blk W' (w.heap.size + 1) 3 (o.map (Value.int .i64)).toArray ∧
            Kp (fun k => k = w.heap.size + 1 ∨ wr.heap.size ≤ k) wr W' ∧ Ds.Nodup ∧ ∀ D ∈ Ds, wr.heap.size ≤ D ∧ W'.heap[D]? = some (.deferred (some [])) := ⟨_, rfl⟩
          have HI := Lib.hid hI
          refine wpIn_loop I (fun a' _ => (intOf (a'.tmps.getD 10 undef)).toNat) ?start (fun a' W hinv => ?_)
          case start =>
            rw [hI]
            refine ⟨2 ^ j, e0, wr.heap.size, 0, List.replicate a.length (-1), [], _, _, _, _, _, _, _, _, _, _, _, _, _, _, _, _, _, _, _, _, _, _, _, _, _, _, _, _, _, _, _, _, _, _, _, _, _, _, _, _, _, _, _, _, _, _, _, _, _, _, _, _, _, _, _, _, _, _, _, _, _, _, _, _, _, _, _, _, _, _, _, rfl, ⟨two_in hbit, HE2.out, hRES, List.length_replicate, by omega, by have := bl_length e0; omega⟩, Nat.le_refl _, Blk.new _ _ _, ?_, (Kp.refl _ _).alloc _, List.nodup_nil, fun D hD => nomatch hD⟩
            rw [List.map_replicate]
            exact HBR2.out.alloc _
          rw [hI] at hinv
          clear hI
          obtain ⟨e, r, nb, n, o, Ds, x0, x1, x2, x4, x5, x8, x12, x13, x14, x15, x16, x17, x18, x19, x20, x21, x22, x23, x24, x25, x26, x27, x28, x29, x30, x31, x32, x33, x34, x35, x36, x37, x38, x39, x40, x41, x42, x43, x44, x45, x46, x47, x48, x49, x50, x51, x52, x53, x54, x55, x56, x57, x58, x59, x60, x61, x62, x63, x64, x65, x66, x67, x68, x69, x70, x71, x72, x73, x74, x75, x76, rfl, ⟨hsub, hr, hres, hol, hn0, hn64⟩, hnb, hbn, hbr, hkp, hnd, hds⟩ := hinv
          have hr64 : r < 2 ^ 64 := Nat.lt_of_lt_of_le hr (Nat.pow_le_pow_right (by decide) hhi)
          have he64 : e < 2 ^ 64 := by rw [← hsub]; exact Nat.lt_of_le_of_lt Nat.and_le_right hr64
          have hL : Ln W p g a := HL4.out.kp hkp (by omega) (by omega)
          have hT : Tab W := HT4.out.kp hkp (by have := HT4.out.1; omega)
          have hblW : Blk W w.heap.size 29 #[.pointer (some ⟨p, 0, none⟩)] := blk_kp HBL2.out hkp (by omega)
          have hboW : Blk W bo 24 #[.slice (some ⟨w.heap.size + 1, 0, none⟩) a.length a.length] := blk_kp HBO2.out hkp (by omega)
          by_cases he0 : e = 0
          · subst he0
            rw [rounds_end] at hres
            have k0 := hboW.cell 0
            have HBR3 := Lib.hid hbr
            have HKP := Lib.hid hkp
            have HND := Lib.hid hnd
            have HDS := Lib.hid hds
            clear hbr hkp hnd hds hbn hL hT hblW hboW
            gi_wp2
            refine leaves_marks _ Ds W HND.out (fun D hD => (HDS.out D hD).2) (fun W' hk => ⟨results_tmp rfl _ _ _, ⟨w.heap.size + 1, rfl, ?_, by omega⟩, ?_⟩)
            · rw [← hres]
              exact blk_kp HBR3.out hk (fun hD => by have := (HDS.out _ hD).1; omega)
            · refine below_kp (S := fun k => k ∈ Ds) (below_kp (S := fun k => k = w.heap.size + 1 ∨ wr.heap.size ≤ k) (below_kp (Below.refl w.heap.size w) (Nat.le_refl _) HK4.out (fun k hk => hk.elim)) (by omega) HKP.out (fun k hk => by omega)) (by have := HKP.out.size; omega) hk (fun k hk => by have := (HDS.out _ hk).1; omega)
          · have q1 : ((e : Int) == 0) = false := by simpa using he0
            have q2 : ((e : Int) != 0) = true := by simpa using he0
            have q3 : ¬ ((e : Int) = 0) := by omega
            have hC : bits BinOp.andNot IntKind.u64 (r : Int) (e : Int) = (cut r e : Nat) := u64_andNot_nat _ _ hr64 he64
            have hws : W.heap.size + 1 = (W.alloc (.cells #[.int .u64 0] 22)).heap.size := by simp
            have CE := Lib.hid (each_ok e (W.alloc (.cells #[.int .u64 0] 22)))
            rw [← hws] at CE
            have HL5 := Lib.hid hL
            have HT5 := Lib.hid hT
            have HBN := Lib.hid hbn
            have HBR3 := Lib.hid hbr
            have HKP := Lib.hid hkp
            have HND := Lib.hid hnd
            have HDS := Lib.hid hds
            have HRES := Lib.hid hres
            have HSUB := Lib.hid hsub
            have HN := Lib.hid hn64
            clear hbr hkp hnd hds hbn hL hT hblW hboW hres hsub hws hn64
            gi_wp2_with (refine ⟨trivial, ?_⟩; gi_at_call 24; refine (callsIn_wide.2 CE.out).mono ?_; rintro e' w4 ⟨rfl, rfl⟩)
            obtain ⟨W1, hW1⟩ : ∃ W1, (W.alloc (.cells #[.int .u64 0] 22)).alloc (.cells #[.int .u64 (e : Int)] 22) = W1 := ⟨_, rfl⟩
            have hs1 : W1.heap.size = W.heap.size + 2 := by rw [← hW1]; simp
            have hWs := HKP.out.size
            have p1 : Blk W1 (W.heap.size + 1) 22 #[.int .u64 (e : Int)] := by
              have h := Blk.new (W.alloc (.cells #[.int .u64 0] 22)) 22 #[.int .u64 (e : Int)]
              rw [World.size_alloc, hW1] at h
              exact h
            have p2 : Blk W1 W.heap.size 22 #[.int .u64 0] := by rw [← hW1]; exact (Blk.new W _ _).alloc _
            have p3 : Blk W1 (w.heap.size + 1) 3 (o.map (Value.int .i64)).toArray := by rw [← hW1]; exact (HBR3.out.alloc _).alloc _
            have p4 : Blk W1 nb 3 #[.int .i64 n] := by rw [← hW1]; exact (HBN.out.alloc _).alloc _
            have p5 : Kp (fun k => k = w.heap.size + 1 ∨ wr.heap.size ≤ k) wr W1 := by rw [← hW1]; exact (HKP.out.alloc _).alloc _
            have p6 : Tab W1 := HT4.out.kp p5 (by have := HT4.out.1; omega)
            have p7 : ∀ D ∈ Ds, W1.heap[D]? = some (.deferred (some [])) := fun D hD => by
              have h0 := (HDS.out D hD).2
              have h1 := (Array.getElem?_eq_some_iff.1 h0).1
              rw [← hW1]
              exact (Below.heap_alloc _ _ _ (by rw [World.size_alloc]; omega)).trans ((Below.heap_alloc _ _ _ h1).trans h0)
            have p8 : ∀ D ∈ Ds, D < W.heap.size := fun D hD => (Array.getElem?_eq_some_iff.1 (HDS.out D hD).2).1
            have hnbl := HBN.out.lt
            rw [hW1]
            clear hW1
            have hT0 := HT4.out.1
            have hsq := each_seq 2 (by decide) (W.heap.size + 1) e (fun k => k = w.heap.size + 1 ∨ k = W.heap.size ∨ W.heap.size + 2 ≤ k) W1 he64 p1 (by omega) p6 (by omega) (by omega)
            refine wpIn_range_box rfl h1 (gf := 27) (lb := #[.pointer (some ⟨W.heap.size + 1, 0, none⟩)]) rfl trivial (enters_of Tryd.func27 (by kernel_rfl) rfl) hsq (by omega) (fun k hk => by omega) (fun _ => rfl)
              (fun pre W' => (Blk W' (w.heap.size + 1) 3 ((paint o n pre).map (Value.int .i64)).toArray ∧ Blk W' W.heap.size 22 #[.int .u64 (reach a 0 pre : Nat)] ∧ Blk W' nb 3 #[.int .i64 n]) ∧ Kp (fun k => k = w.heap.size + 1 ∨ wr.heap.size ≤ k) wr W' ∧ ∀ D ∈ Ds, W'.heap[D]? = some (.deferred (some [])))
              (fun _ _ _ => False)
              (Ab.and (Ab.and (ab_blk (by omega)) (Ab.and (ab_blk (by omega)) (ab_blk (by omega)))) (Ab.and (ab_kp (fun k hk => by omega) _) (ab_defs (fun D hD => by have := p8 D hD; omega) _)))
              (fun c => ab_pure _ _)
              ⟨⟨p3, p2, p4⟩, p5, p7⟩
              (fun i a' (_ : World) => a' = { tmps := #[x0, x1, x2, .pointer (some ⟨w.heap.size, 0, none⟩), x4, x5, .slice none 0 0, .pointer (some ⟨bo, 0, none⟩), x8, .int .u64 (e : Int), .int .u64 (cut r e : Nat), .pointer (some ⟨nb, 0, none⟩), .pointer (some ⟨W.heap.size, 0, none⟩), .int .i64 (i : Int), x14, x15, x16, x17, x18, x19, x20, x21, x22, x23, x24, x25, x26, x27, x28, x29, x30, x31, x32, x33, x34, x35, x36, x37, x38, x39, x40, x41, x42, x43, x44, x45, x46, x47, x48, .int .u64 (e : Int), .bool true, x51, x52, .int .u64 (r : Int), .int .u64 (e : Int), .int .u64 (cut r e : Nat), .int .u64 (e : Int), .func (.func 27) #[] #[.pointer (some ⟨W.heap.size + 1, 0, none⟩)], .int .i64 (i : Int), x59, x60, x61, x62, x63, x64, x65, x66, x67, x68, x69, x70, x71, x72, x73, x74, x75, x76], defers := [] })
              (fun _ _ => ab_pure _ _) ?assign ?body ?done ?stop
            case stop =>
              intro D c pre W' _ _ hf
              exact hf.elim
            case assign =>
              intro l pre i W' K hI' hK
              have HI' := Lib.hid hI'
              have HK := Lib.hid hK
              clear hI' hK
              gi_wp2
              exact HK.out _ _ (KeepsFrom.refl _ _) (Kp.refl _ _) HI'.out rfl
            case body =>
              rintro l pre i a' W' hl ⟨⟨b1, b2, b3⟩, b4, b5⟩ rfl hpre
              have hib : i ∈ bl e := hpre.subset (by simp)
              have hil : i < a.length := bit_len HSUB.out hr (bl_mem.1 hib).2
              have hL' : Ln W' p g a := HL4.out.kp b4 (by omega) (by omega)
              have s0 := (blk_kp HBO2.out b4 (by omega)).cell 0
              have s1 := b3.cell 0
              have f1 := b1.frozen i
              have hrl : reach a 0 pre < 2 ^ 64 := reach_lt hL'.small pre 0 (by decide)
              have hgl : a.getD i 0 < 2 ^ 64 := by
                rw [List.getD_eq_getElem?_getD, List.getElem?_eq_getElem hil]
                exact hL'.small _ (List.getElem_mem hil)
              have hor : bits BinOp.or IntKind.u64 ((reach a 0 pre : Nat) : Int) ((a.getD i 0 : Nat) : Int) = ((reach a 0 (pre ++ [i]) : Nat) : Int) := by
                rw [bits_or_u64_nat _ _ hrl hgl, reach_snoc]
              have hpl : (paint o n pre).length = a.length := by rw [paint_length, hol]
              have i0 : (i : Int) < (a.length : Int) := by omega
              obtain ⟨oldv, hold⟩ : ∃ v, W'.cell? ⟨w.heap.size + 1, i, none⟩ = some (.int .i64 v) := by
                rw [b1.cell i]
                exact ⟨(paint o n pre)[i]'(by omega), by simp [hpl, hil]⟩
              have t0 : (W'.setCell ⟨w.heap.size + 1, i, none⟩ (.int .i64 n)).drew.cell? ⟨W.heap.size, 0, none⟩ = some (.int .u64 (reach a 0 pre : Nat)) := (b2.far (p := ⟨w.heap.size + 1, i, none⟩) (by show W.heap.size ≠ w.heap.size + 1; omega) _).drew.cell 0
              have t1 : (W'.setCell ⟨w.heap.size + 1, i, none⟩ (.int .i64 n)).drew.cell? ⟨w.heap.size, 0, none⟩ = some (.pointer (some ⟨p, 0, none⟩)) := ((blk_kp HBL2.out b4 (by omega)).far (p := ⟨w.heap.size + 1, i, none⟩) (by show w.heap.size ≠ w.heap.size + 1; omega) _).drew.cell 0
              have t2 : (W'.setCell ⟨w.heap.size + 1, i, none⟩ (.int .i64 n)).drew.cell? ⟨p, 1, none⟩ = some (.slice (some ⟨g, 0, none⟩) a.length a.length) := (hL'.box.far (p := ⟨w.heap.size + 1, i, none⟩) (by show p ≠ w.heap.size + 1; omega) _).drew.cell 1
              have t3 : (W'.setCell ⟨w.heap.size + 1, i, none⟩ (.int .i64 n)).drew.cell? ⟨g, i, none⟩ = some (.int .u64 (a.getD i 0 : Nat)) := by
                rw [((hL'.row).far (p := ⟨w.heap.size + 1, i, none⟩) (by show g ≠ w.heap.size + 1; omega) _).drew.cell i, ← hL'.row.cell i]
                exact hL'.at_ hil
              have t4 : (W'.setCell ⟨w.heap.size + 1, i, none⟩ (.int .i64 n)).drew.frozen? ⟨W.heap.size, 0, none⟩ = false := (b2.far (p := ⟨w.heap.size + 1, i, none⟩) (by show W.heap.size ≠ w.heap.size + 1; omega) _).drew.frozen 0
              have hkt : Kp (fun k => k = w.heap.size + 1 ∨ k = W.heap.size ∨ W.heap.size + 2 ≤ k) W' ((W'.setCell ⟨w.heap.size + 1, i, none⟩ (.int .i64 n)).setCell ⟨W.heap.size, 0, none⟩ (.int .u64 (reach a 0 (pre ++ [i]) : Nat))).drew := (((Kp.refl _ W').set_ _ (.inl (.inl rfl)) _).set_ _ (.inl (.inr (.inl rfl))) _).drew
              have hend : (Blk ((W'.setCell ⟨w.heap.size + 1, i, none⟩ (.int .i64 n)).setCell ⟨W.heap.size, 0, none⟩ (.int .u64 (reach a 0 (pre ++ [i]) : Nat))).drew (w.heap.size + 1) 3 ((paint o n (pre ++ [i])).map (Value.int .i64)).toArray ∧ Blk ((W'.setCell ⟨w.heap.size + 1, i, none⟩ (.int .i64 n)).setCell ⟨W.heap.size, 0, none⟩ (.int .u64 (reach a 0 (pre ++ [i]) : Nat))).drew W.heap.size 22 #[.int .u64 (reach a 0 (pre ++ [i]) : Nat)] ∧ Blk ((W'.setCell ⟨w.heap.size + 1, i, none⟩ (.int .i64 n)).setCell ⟨W.heap.size, 0, none⟩ (.int .u64 (reach a 0 (pre ++ [i]) : Nat))).drew nb 3 #[.int .i64 n]) ∧ Kp (fun k => k = w.heap.size + 1 ∨ wr.heap.size ≤ k) wr ((W'.setCell ⟨w.heap.size + 1, i, none⟩ (.int .i64 n)).setCell ⟨W.heap.size, 0, none⟩ (.int .u64 (reach a 0 (pre ++ [i]) : Nat))).drew ∧ ∀ D ∈ Ds, ((W'.setCell ⟨w.heap.size + 1, i, none⟩ (.int .i64 n)).setCell ⟨W.heap.size, 0, none⟩ (.int .u64 (reach a 0 (pre ++ [i]) : Nat))).drew.heap[D]? = some (.deferred (some [])) := by
                refine ⟨⟨?_, ?_, ?_⟩, ?_, fun D hD => ?_⟩
                · rw [paint_snoc, List.map_set, ← List.setIfInBounds_toArray]
                  exact ((b1.set_ i (.int .i64 n)).far (p := ⟨W.heap.size, 0, none⟩) (by show w.heap.size + 1 ≠ W.heap.size; omega) _).drew
                · exact (b2.far (p := ⟨w.heap.size + 1, i, none⟩) (by show W.heap.size ≠ w.heap.size + 1; omega) _).set_ 0 _ |>.drew
                · exact ((b3.far (p := ⟨w.heap.size + 1, i, none⟩) (by show nb ≠ w.heap.size + 1; omega) _).far (p := ⟨W.heap.size, 0, none⟩) (by show nb ≠ W.heap.size; omega) _).drew
                · exact ((b4.set_ ⟨w.heap.size + 1, i, none⟩ (.inl (.inl rfl)) _).set_ ⟨W.heap.size, 0, none⟩ (.inl (.inr (by show wr.heap.size ≤ W.heap.size; omega))) _).drew
                · exact (((KeepsOthers.setCell W' ⟨w.heap.size + 1, i, none⟩ (.int .i64 n)).trans (KeepsOthers.setCell (W'.setCell ⟨w.heap.size + 1, i, none⟩ (.int .i64 n)) ⟨W.heap.size, 0, none⟩ (.int .u64 (reach a 0 (pre ++ [i]) : Nat)))).trans (keeps_drew _)).same D _ (b5 D hD) rfl
              have hkf := ((KeepsOthers.setCell W' ⟨w.heap.size + 1, i, none⟩ (.int .i64 n)).trans (KeepsOthers.setCell (W'.setCell ⟨w.heap.size + 1, i, none⟩ (.int .i64 n)) ⟨W.heap.size, 0, none⟩ (.int .u64 (reach a 0 (pre ++ [i]) : Nat)))).trans (keeps_drew _)
              obtain ⟨y, hy⟩ : ∃ y, a.getD i 0 = y := ⟨_, rfl⟩
              rw [hy] at hor t3 hgl
              have HKF := Lib.hid hkf
              have HEND := Lib.hid hend
              have HKT := Lib.hid hkt
              clear hy hkf hend hkt b1 b2 b3 b4 b5 hL' hib hpre p1 p2 p3 p4 p5 p6 p7 p8 hsq
              gi_wp2
              refine wpIn_region_seq [(0, true), (1, true), (2, true), (3, true), (4, true), (5, true), (6, true), (7, true), (8, true)] 9 [] (fun w' => w'.cell? ⟨W.heap.size, 0, none⟩ = some (.int .u64 (reach a 0 pre : Nat)) ∧ w'.cell? ⟨w.heap.size, 0, none⟩ = some (.pointer (some ⟨p, 0, none⟩)) ∧ w'.cell? ⟨p, 1, none⟩ = some (.slice (some ⟨g, 0, none⟩) a.length a.length) ∧ w'.cell? ⟨g, i, none⟩ = some (.int .u64 (y : Int))) (by kernel_rfl) (by kernel_rfl) ⟨t0, t1, t2, t3⟩ ?_
              simp only [List.map_cons, List.map_nil, List.getElem?_toArray, List.getElem?_cons_zero, List.getElem?_cons_succ]
              repeat (first | (refine si_skip (by rfl) (fun _ => rfl) ?_; try simp only [Act.put, List.setIfInBounds_toArray, List.set_cons_zero, List.set_cons_succ]) | (refine si_take (v := ?_) (by rfl) (fun _ => rfl) ?_ ?_; rotate_left; (focus ((intro w hSw; (try dsimp only at hSw); go_simp; (try with_reducible rfl)); done)); try simp only [Act.put, List.setIfInBounds_toArray, List.set_cons_zero, List.set_cons_succ]))
              refine si_round ?_
              refine si_do (fun K hK => ?_)
              go_simp
              refine hK.out _ _ ?_
              clear hK K
              refine si_done ?_
              gi_wp2
              exact ⟨HKF.out.from _, HKT.out, HEND.out⟩
            case done =>
              rintro D W' hD ⟨⟨b1, b2, b3⟩, b4, b5⟩ hK
              have hrl : reach a 0 (bl e) < 2 ^ 64 := reach_lt HL4.out.small _ 0 (by decide)
              have hcl : cut r e < 2 ^ 64 := Nat.lt_of_le_of_lt (cut_sub r e) hr64
              have han : bits BinOp.and IntKind.u64 ((reach a 0 (bl e) : Nat) : Int) ((cut r e : Nat) : Int) = ((reach a 0 (bl e) &&& cut r e : Nat) : Int) := bits_and_u64_nat _ _ hrl hcl
              have hbc := bl_cut he0 HSUB.out hr64
              have hclt := cut_lt he0 HSUB.out hr64
              have hWs2 := b4.size
              have hn := HN.out
              have hwn : IntKind.i64.wrap (n + 1) = n + 1 := by rw [IntKind.wrap_i64]; omega
              have s0 := b2.cell 0
              have s1 := b3.cell 0
              have B1 := Lib.hid b1
              have B4 := Lib.hid b4
              have B5 := Lib.hid b5
              have HD := Lib.hid hK
              clear b1 b2 b3 b4 b5 hK p1 p2 p3 p4 p5 p6 p7 hsq
              gi_wp2
              rw [HI.out]
              refine ⟨⟨reach a 0 (bl e) &&& cut r e, cut r e, _, n + 1, paint o n (bl e), D :: Ds, _, _, _, _, _, _, _, _, _, _, _, _, _, _, _, _, _, _, _, _, _, _, _, _, _, _, _, _, _, _, _, _, _, _, _, _, _, _, _, _, _, _, _, _, _, _, _, _, _, _, _, _, _, _, _, _, _, _, _, _, _, _, _, _, _, _, _, _, _, _, _, rfl, ⟨and_and _ _, Nat.lt_of_le_of_lt (cut_sub r e) hr, ?_, by rw [paint_length, hol], by omega, by omega⟩, ?_, ?_, ?_, ?_, ?_, ?_⟩, ?_⟩
              · rw [← rounds_go he0 HSUB.out hr64]
                exact HRES.out
              · exact hWs2
              · exact Blk.new _ _ _
              · exact B1.out.alloc _
              · exact B4.out.alloc _
              · exact List.nodup_cons.2 ⟨fun h => by have := p8 D h; omega, HND.out⟩
              · intro E hE
                rcases List.mem_cons.1 hE with rfl | hE
                · exact ⟨by omega, (Below.heap_alloc _ _ _ (Array.getElem?_eq_some_iff.1 HD.out).1).trans HD.out⟩
                · exact ⟨(HDS.out E hE).1, (Below.heap_alloc _ _ _ (Array.getElem?_eq_some_iff.1 (B5.out E hE)).1).trans (B5.out E hE)⟩
              · show ((cut r e : Nat) : Int).toNat < ((r : Nat) : Int).toNat
                omega
        · have hbf : e0.testBit j = false := by simpa using hbit
          rw [hbf] at bz
          gi_wp2_with (first
            | (refine ⟨trivial, ?_⟩; gi_at_call 25; refine (callsIn_wide.2 CA.out).mono ?_; rintro e w4 ⟨rfl, rfl⟩)
            | (refine ⟨trivial, ?_⟩; gi_at_call 26; refine (callsIn_wide.2 CI2.out).mono ?_; rintro e w4 ⟨rfl, rfl⟩))
          have hh : hops a (j : Int) s = List.replicate a.length (-1) := by rw [HOP.out, if_neg]; rintro ⟨_, _, h⟩; rw [Int.toNat_natCast, hbf] at h; cases h
          exact ⟨_, results_tmp rfl _ _ _, ⟨w.heap.size + 1, rfl, by rw [HMI.out hh]; exact HBR2.out, by omega⟩, (Below.refl w.heap.size w).trans ⟨HK4.out.os, HK4.out.tape, HK4.out.output, HK4.out.size, fun b hb => HK4.out.block b hb (fun h => h)⟩⟩
      · have hif : isn a fr = false := by simpa using hin
        rw [hif] at CI2
        gi_wp2_with (first
          | (refine ⟨trivial, ?_⟩; gi_at_call 25; refine (callsIn_wide.2 CA.out).mono ?_; rintro e w4 ⟨rfl, rfl⟩)
          | (refine ⟨trivial, ?_⟩; gi_at_call 26; refine (callsIn_wide.2 CI2.out).mono ?_; rintro e w4 ⟨rfl, rfl⟩))
        have hh : hops a fr s = List.replicate a.length (-1) := by rw [HOP.out, if_neg]; rintro ⟨h0, h2, _⟩; apply hin; simp [isn, h0, h2]
        exact ⟨_, results_tmp rfl _ _ _, ⟨w.heap.size + 1, rfl, by rw [HMI.out hh]; exact HBR2.out, by omega⟩, ⟨HK4.out.os, HK4.out.tape, HK4.out.output, HK4.out.size, fun b hb => HK4.out.block b hb (fun h => h)⟩⟩
end Go.Proofs.YtfmkamkbbeahgaaDoor.Ho
