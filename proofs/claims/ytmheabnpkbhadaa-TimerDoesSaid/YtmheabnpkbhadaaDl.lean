/- slices.Delete at the row of timers: one timer is taken out, in place. -/
import Derived.Test.YtmheabnpkbhadaaTl
import Derived.Deep.RegionLaw
import Derived.Deep.AppendSrc
import Derived.Lib.AppendZeros
import Derived.Lib.AppendZerosOnto
import Derived.Lib.Overlaps
import Derived.Laws.Externs
import Derived.Lib.JoinLaws
import Derived.OwnWalk
namespace Go.Proofs.Ytmheabnpkbhadaa.Dl
open Go.RowKit Go.Proofs.Ytmheabnpkbhadaa.Bk Go.Proofs.Ytmheabnpkbhadaa.Kp Go.Proofs.Ytmheabnpkbhadaa.Rw Go.Proofs.Ytmheabnpkbhadaa.Tp Go.Proofs.Ytmheabnpkbhadaa.Tl
theorem addr_add (g o j : Nat) : (⟨g, o, none⟩ : Addr).add j = ⟨g, o + j, none⟩ := by unfold Addr.add; split <;> simp_all
/-- copy, whatever the size of an element. -/
theorem run_copy_any {P : Program} (w : World) (dT sT ty elem : TypeId) (size b o dLen dCap : Nat) (a : Addr) (sLen sCap n : Nat) (cs : List Value)
    (hu : P.underlying dT = some (.slice elem)) (hs : (P.info? elem).map (·.size) = some size) (hn : Nat.min sLen dLen = n) (hl : cs.length = n * size)
    (hsrc : ∀ j v, cs[j]? = some v → w.cell? (a.add j) = some v) (hc : ∀ j, j < cs.length → (w.cell? ⟨b, o + j, none⟩).isSome = true) (hf : ∀ j, j < cs.length → w.frozen? ⟨b, o + j, none⟩ = false) (h1 : ∀ v ∈ cs, v.oneCell' = true) :
    (Builtin.copy_ #[dT, sT] ty #[.slice (some ⟨b, o, none⟩) dLen dCap, .slice (some a) sLen sCap]).run P w = .ok (goInt n) (w.setCells b o cs) := by
  have hr := run_loadCells_list (P := P) w a cs hsrc
  have hst := run_storeCells_cells (P := P) b o cs 0 w (by simpa using hc) (by simpa using hf) h1
  rw [hl] at hr
  cases hq : P.info? elem with
  | none => simp [hq] at hs
  | some i =>
    have hi : i.size = size := by simpa [hq] using hs
    simp [Builtin.copy_, run_underlying hu, Builtin.lenOf, Builtin.firstCells, sizeOf, typeInfo, hq, hi, hn, hr, hst]
/-- clear of one timer. -/
theorem run_clear_one {P : Program} (w : World) (t e ty : TypeId) (ht : P.underlying t = some (.slice e)) (hv : ∀ w, (zeroValue e).run P w = .ok (.agg #[.int .i64 0, .int .i64 0]) w) (b o c : Nat)
    (hc : ∀ j, j < 2 → (w.cell? ⟨b, o + j, none⟩).isSome = true) (hf : ∀ j, j < 2 → w.frozen? ⟨b, o + j, none⟩ = false) :
    (Builtin.clear_ #[t] ty #[.slice (some ⟨b, o, none⟩) 1 c]).run P w = .ok (.tuple #[]) (w.setCells b o [.int .i64 0, .int .i64 0]) := by
  have hst := run_storeCells_cells (P := P) b o [.int .i64 0, .int .i64 0] 0 w (by simpa using hc) (by simpa using hf) (by intro v hv; simp at hv; subst hv; rfl)
  simp only [Nat.add_zero] at hst
  have hz : (Builtin.zeroCells (Value.agg #[.int .i64 0, .int .i64 0]).cells 1).toList = [.int .i64 0, .int .i64 0] := by
    simp [Builtin.zeroCells, Value.cells, List.range_succ]
  simp [Builtin.clear_, run_underlying ht, hv, hz, hst]
set_option maxRecDepth 100000 in
set_option maxHeartbeats 2000000 in
theorem delete_ok (v : Value) (q : Nat) (l : List One) (i j : Nat) (w : World) (hR : Rs w v q l) (hi : i < l.length) (hj : j = i + 1) :
    Calls Try.prog 18 #[v, .int .i64 i, .int .i64 j] w fun e w' => (∃ v', e = .returned v' ∧ Rs w' v' q (l.take i ++ l.drop j)) ∧ Kp (· = q) w w' := by
  obtain ⟨o, c, C, rfl, hb, hc, hm, hs, hC⟩ := hR
  obtain ⟨N, hN⟩ : ∃ N, l.length = N := ⟨_, rfl⟩
  rw [hN] at hi hc ⊢
  have hij : ¬ (i = j) := by omega
  have hjN : j ≤ N := by omega
  unfold maxLen at hm
  obtain ⟨news, hnews⟩ : ∃ news, news = cel (l.drop j) := ⟨_, rfl⟩
  have hlen : news.length = (N - j) * 2 := by rw [hnews, cel_length, List.length_drop, hN]
  have h1 : ∀ u ∈ news, u.oneCell' = true := by rw [hnews]; exact cel_one' _
  have hCd : At C (o + j * 2) news := by rw [hnews, cel_drop]; exact hC.drop (j * 2) (by rw [cel_length, hN]; omega)
  obtain ⟨A, hA, hsrc⟩ : ∃ A : Addr, (if c = j then some (⟨q, o, none⟩ : Addr) else some ⟨q, o + j * 2, none⟩) = some A ∧ Hid (∀ t u, news[t]? = some u → w.drew.cell? (A.add t) = some u) := by
    by_cases h : c = j
    · refine ⟨⟨q, o, none⟩, by simp [h], fun t u hu => ?_⟩
      have h0 : news.length = 0 := by rw [hlen]; omega
      rw [List.length_eq_zero_iff.1 h0] at hu
      simp at hu
    · refine ⟨⟨q, o + j * 2, none⟩, by simp [h], fun t u hu => ?_⟩
      rw [addr_add, hb.drew.cell]
      exact hCd t u hu
  have S1 := Lib.hid hlen
  have S2 := Lib.hid h1
  have S3 : Hid (∀ t, t < news.length → (w.drew.cell? ⟨q, o + i * 2 + t, none⟩).isSome = true ∧ w.drew.frozen? ⟨q, o + i * 2 + t, none⟩ = false) := by
    intro t ht
    rw [hlen] at ht
    rw [hb.drew.cell, hb.drew.frozen, Array.getElem?_eq_getElem (by omega)]
    exact ⟨rfl, rfl⟩
  obtain ⟨W1, hW1⟩ : ∃ W1, w.drew.setCells q (o + i * 2) news = W1 := ⟨_, rfl⟩
  have hb1 : Blk W1 q 51 (lay C (o + i * 2) news) := by rw [← hW1]; exact blk_setCells _ _ _ _ hb.drew
  have hk1 : Kp (· = q) w W1 := by rw [← hW1]; exact kp_setCells _ _ _ (Kp.refl _ w).drew (.inl rfl)
  have hcl : ∀ ty cc, (Builtin.clear_ #[24] ty #[.slice (some ⟨q, o + (i + (N - j)) * 2, none⟩) 1 cc]).run Try.prog W1 = .ok (.tuple #[]) (W1.setCells q (o + (i + (N - j)) * 2) [.int .i64 0, .int .i64 0]) := fun ty cc =>
    run_clear_one W1 24 51 ty Try.underlying24 Try.zeroValue51 q _ _ (fun t ht => by rw [hb1.cell, Array.getElem?_eq_getElem (by rw [lay_size]; omega)]; rfl) (fun t _ => hb1.frozen _)
  have hN1 : N - (i + (N - j)) = 1 := by omega
  have hfin : Rs (W1.setCells q (o + (i + (N - j)) * 2) [.int .i64 0, .int .i64 0]) (.slice (some ⟨q, o, none⟩) (i + (N - j)) c) q (l.take i ++ l.drop j) ∧ Kp (· = q) w (W1.setCells q (o + (i + (N - j)) * 2) [.int .i64 0, .int .i64 0]) := by
    have hll : (l.take i ++ l.drop j).length = i + (N - j) := by rw [List.length_append, List.length_take, List.length_drop, hN, Nat.min_eq_left (by omega)]
    refine ⟨⟨o, c, _, by rw [hll], blk_setCells _ _ _ _ hb1, by rw [hll]; omega, by unfold maxLen; omega, by rw [lay_size, lay_size]; exact hs, ?_⟩, kp_setCells _ _ _ hk1 (.inl rfl)⟩
    refine At.apart ?_ (.inl (by rw [cel_length, hll]; omega))
    rw [cel_append]
    refine At.app (At.apart ?_ (.inl ?_)) ?_
    · rw [cel_take]; exact hC.take _
    · rw [cel_length, List.length_take, hN, Nat.min_eq_left (by omega)]; omega
    · rw [cel_length, List.length_take, hN, Nat.min_eq_left (by omega), ← hnews]
      exact at_lay (by rw [hlen]; omega)
  have HF := Lib.hid hfin
  have HCL := Lib.hid hcl
  have HW := Lib.hid hW1
  obtain ⟨i0, hi0, hz1⟩ : ∃ i0, Try.prog.info? 51 = some i0 ∧ i0.size = 2 := ⟨_, rfl, rfl⟩
  have hic : i ≤ c := by omega
  have hjc : j ≤ c := by omega
  have hcn : ¬ (c = i + (N - j)) := by omega
  have hle : i + (N - j) ≤ N := by omega
  clear hfin hcl hW1 hb1 hk1 hCd h1 hlen hnews hb hC hs hj
  go_enter Try.func18, Try.ntmps18
  go_wp2_with fail
  go_region_law (refine step_append_room rfl (.tmp 22) (.tmp 25) 24 rfl 51 i0 2 Try.underlying24 hi0 hz1 q o i c (by simp [Act.eval, Act.put]) A (N - j) (c - j) news (by simp [Act.eval, Act.put]) S1.out hsrc.out S2.out (by omega) S3.out ?_; rw [HW.out])
  have HC1 := HCL.out
  go_wp2
  go_ret
  exact ⟨⟨_, rfl, HF.out.1⟩, HF.out.2⟩
end Go.Proofs.Ytmheabnpkbhadaa.Dl
