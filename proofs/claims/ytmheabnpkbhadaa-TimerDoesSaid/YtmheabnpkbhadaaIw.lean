/- All: over the row of timers, at every loop body that leaves the row alone. -/
import Derived.RangeFuncNested
import Derived.RangeFuncBound
import Derived.RangeFuncCalls
import Derived.RangeFuncLeaves
import Derived.Shelf.Abstract
import Derived.WalkKit
import Derived.OwnWalkIn
import Derived.TacticsInMore
import Derived.LoopNIn
import Derived.LoopIn
import Derived.Lib.Hide
import Derived.Test.YtmheabnpkbhadaaSi
import Derived.Test.YtmheabnpkbhadaaRb
import Derived.Test.YtmheabnpkbhadaaRm
namespace Go.Proofs.Ytmheabnpkbhadaa.Iw
open Go.RowKit Go.Shelf Go.Proofs.Ytmheabnpkbhadaa.Bk Go.Proofs.Ytmheabnpkbhadaa.Rw Go.Proofs.Ytmheabnpkbhadaa.Ow Go.Proofs.Ytmheabnpkbhadaa.Kp Go.Proofs.Ytmheabnpkbhadaa.Rb Go.Proofs.Ytmheabnpkbhadaa.Si Go.Proofs.Ytmheabnpkbhadaa.Tp Go.Proofs.Ytmheabnpkbhadaa.Tl Go.Proofs.Ytmheabnpkbhadaa.Tq Go.Proofs.Ytmheabnpkbhadaa.Se
attribute [local go_sem] Oper.semAt_some
theorem all_ok (p0 : Option Addr) (w : World) : Calls Try.prog 24 #[.pointer p0] w fun e w' => e = .returned (.func (.func 28) #[] #[.pointer (some ⟨w.heap.size, 0, none⟩)]) ∧ w' = w.alloc (.cells #[.pointer p0] 35) := by
  go_enter Try.func24, Try.ntmps24
  go_wp2
  go_ret
  exact ⟨rfl, rfl⟩
abbrev enc (x : One) : Array Value := #[.int .i64 x.1, .int .i64 x.2]
theorem nil_seq (n : Nat) (_hn : 1 ≤ n) (Bn : Nat) (T : Nat → Prop) (w : World) (hB : Blk w Bn 35 #[.pointer none]) : SeqB Fence.wide n Try.prog 28 #[.pointer (some ⟨Bn, 0, none⟩)] enc Bn T [] w := by
  intro l J Jx W hW hJ _ hY h0
  have hfn : Fence.wide.fn 28 := trivial
  have c0 := (hB.keeps hW).cell 0
  clear hY hJ hB
  refine callsIn_of_wp Try.func28 rfl hfn ?_ rfl
  simp only [Try.ntmps28, List.size_toArray, List.length_cons, List.length_nil, Nat.reduceAdd, Nat.reduceSub, Array.replicate_succ, Array.replicate_zero, List.push_toArray, List.append_toArray, List.nil_append, List.cons_append]
  gi_wp2
  refine bodyPost_ret (results_none rfl _ _ _) rfl ?_
  exact ⟨⟨_, rfl⟩, .inl h0⟩
set_option maxRecDepth 100000 in
set_option maxHeartbeats 1000000 in
theorem all_seq (n : Nat) (_hn : 1 ≤ n) (Bn r q : Nat) (xs : List One) (T : Nat → Prop) (w : World) (hB : Blk w Bn 35 #[.pointer (some ⟨r, 0, none⟩)]) (hR : RB w r q xs) (hTr : ¬ T r) (hTq : ¬ T q) (hxl : xs.length ≤ 16) :
    SeqB Fence.wide n Try.prog 28 #[.pointer (some ⟨Bn, 0, none⟩)] enc Bn T xs w := by
  intro l J Jx W hW hJ _ hY h0
  have HY := Lib.hid hY
  have HJ := Lib.hid hJ
  have HBW := Lib.hid (hB.keeps hW)
  have HRW := Lib.hid (hR.keeps hW)
  have hfn : Fence.wide.fn 28 := trivial
  obtain ⟨v, hbv, hn'⟩ := (hR.keeps hW).rn
  obtain ⟨A, c, rfl, _, _, _⟩ := hn'.form
  have HBV := Lib.hid hbv
  have c0 := (hB.keeps hW).cell 0
  have c1 := hbv.cell 0
  clear hY hJ hB hR hbv hn'
  refine callsIn_of_wp Try.func28 rfl hfn ?_ rfl
  simp only [Try.ntmps28, List.size_toArray, List.length_cons, List.length_nil, Nat.reduceAdd, Nat.reduceSub, Array.replicate_succ, Array.replicate_zero, List.push_toArray, List.append_toArray, List.nil_append, List.cons_append]
  gi_wp2_with fail
  gi_loopw [12] (fun i wr => ∃ k : Nat, k ≤ xs.length ∧ i = .int .i64 k ∧ J (xs.take k) wr ∧ Kp T W wr) (fun i _ => xs.length - (intOf i).toNat)
  case atStart => exact ⟨0, Nat.zero_le _, rfl, by simpa using h0, Kp.refl _ _⟩
  case round =>
    clear h0 c0 c1
    obtain ⟨k, hk, rfl, hj, hK⟩ := hrel
    have HK := Lib.hid hK
    have HJS := Lib.hid hj
    clear hK hj
    by_cases hlt : k < xs.length
    · have n1 : (k : Int) < (xs.length : Int) := by omega
      obtain ⟨v, hbv, hn'⟩ := (HRW.out.kp HK.out hTr hTq).rn
      obtain ⟨A', c', e', _, hcm, hcells⟩ := hn'.form
      have e0 : #[Value.slice A xs.length c] = #[v] := by
        have h1 := hbv
        have h2 := blk_kp HBV.out HK.out hTr
        unfold Blk at h1 h2
        rw [h2] at h1
        injection h1 with h1
        injection h1 with h1
      have e1 : Value.slice A xs.length c = v := by injection e0 with e0; injection e0
      rw [e'] at e1
      injection e1 with e1 _ e3
      subst e1 e3
      obtain ⟨o, rfl, hqlt, hcc⟩ := hcells (by omega)
      obtain ⟨x0, x1⟩ := hcc k hlt
      unfold maxLen at hcm
      have hnj : J (xs.take k) (wr.alloc (.cells #[.int .i64 (xs.getD k (0, 0)).1, .int .i64 (xs.getD k (0, 0)).2] 51)) := HJ.out.alloc _ HJS.out
      have htk : xs.take k ++ [xs.getD k (0, 0)] = xs.take (k + 1) := by
        rw [List.take_add_one, List.getElem?_eq_getElem hlt, List.getD_eq_getElem?_getD, List.getElem?_eq_getElem hlt]
        rfl
      have hyy := HY.out (xs.take k) (xs.getD k (0, 0)) _ hnj (by rw [htk]; exact List.take_prefix _ _)
      obtain ⟨x, hx⟩ : ∃ x, xs.getD k (0, 0) = x := ⟨_, rfl⟩
      rw [hx] at x0 x1 hyy htk hnj
      obtain ⟨fn, tmps, assign, body, hyd, hRR⟩ := hyy
      have HRR := Lib.hid hRR
      have HTK := Lib.hid htk
      have HK2 := Lib.hid (HK.out.alloc (.cells #[.int .i64 x.1, .int .i64 x.2] 51))
      clear hRR hnj htk hbv hn' hcc hx e0 e'
      gi_wp2
      refine HRR.out.mono ?_
      rintro e W3 (⟨rfl, hJ3, hk3⟩ | ⟨rfl, hJx3⟩)
      · have HJ3 := Lib.hid hJ3
        have HK3 := Lib.hid (HK2.out.trans hk3)
        clear hJ3 hk3
        dsimp only
        gi_wp2
        go_roundw
        case rel => exact ⟨k + 1, by omega, by go_num, by rw [← HTK.out]; exact HJ3.out, HK3.out⟩
        case measure => simp [intOf]; omega
      · have HX3 := Lib.hid hJx3
        clear hJx3
        dsimp only
        gi_wp2
        refine bodyPost_ret (results_none rfl _ _ _) rfl ?_
        exact ⟨⟨_, rfl⟩, .inr ⟨_, by rw [HTK.out]; exact List.take_prefix _ _, HX3.out⟩⟩
    · have hk' : k = xs.length := by omega
      subst hk'
      gi_wp2
      go_end0
      refine ⟨⟨_, rfl⟩, .inl ?_⟩
      have := HJS.out
      rw [List.take_length] at this
      exact this
end Go.Proofs.Ytmheabnpkbhadaa.Iw
