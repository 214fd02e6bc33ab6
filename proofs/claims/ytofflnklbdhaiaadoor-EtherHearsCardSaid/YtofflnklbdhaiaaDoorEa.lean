/- Each: the bits of a set, rising, at every loop body. -/
import Derived.RangeFuncNested
import Derived.RangeFuncBound
import Derived.RangeFuncCalls
import Derived.RangeFuncLeaves
import Derived.Shelf.Abstract
import Derived.WalkKit
import Derived.OwnWalkIn
import Derived.TacticsInMore
import Derived.LoopNIn
import Derived.LoopIn
import Derived.Lib.Hide
import Derived.Test.YtofflnklbdhaiaaDoorSi
import Derived.Test.YtofflnklbdhaiaaDoorRb
import Derived.Test.YtofflnklbdhaiaaDoorBl
import Derived.Test.YtofflnklbdhaiaaDoorTz
namespace Go.Proofs.YtofflnklbdhaiaaDoor.Ea
open Go.RowKit Go.Shelf Go.Proofs.YtofflnklbdhaiaaDoor.Bk Go.Proofs.YtofflnklbdhaiaaDoor.Rw Go.Proofs.YtofflnklbdhaiaaDoor.Ow Go.Proofs.YtofflnklbdhaiaaDoor.Kp Go.Proofs.YtofflnklbdhaiaaDoor.Rb Go.Proofs.YtofflnklbdhaiaaDoor.Bl Go.Proofs.YtofflnklbdhaiaaDoor.Tz Go.Proofs.YtofflnklbdhaiaaDoor.Si
attribute [local go_sem] Oper.semAt_some

theorem each_ok (x : Nat) (w : World) : Calls Tryd.prog 19 #[.int .u64 x] w fun e w' => e = .returned (.func (.func 24) #[] #[.pointer (some ⟨w.heap.size, 0, none⟩)]) ∧ w' = w.alloc (.cells #[.int .u64 x] 23) := by
  go_enter Tryd.func19, Tryd.ntmps19
  go_wp2
  go_ret
  exact ⟨rfl, rfl⟩
def left (B : Nat) (w : World) : Nat := match w.cell? ⟨B, 0, none⟩ with | some (.int _ y) => y.toNat | _ => 0

set_option maxRecDepth 100000 in
set_option maxHeartbeats 1000000 in
theorem each_seq (n : Nat) (hn : 1 ≤ n) (Bn x : Nat) (T : Nat → Prop) (w : World) (hx : x < 2 ^ 64) (hB : Blk w Bn 23 #[.int .u64 x]) (hTB : ¬ T Bn) (hT : Tab w) (hT0 : ¬ T 0) (hB0 : Bn ≠ 0) :
    SeqB Fence.wide n Tryd.prog 24 #[.pointer (some ⟨Bn, 0, none⟩)] (fun i : Nat => #[.int .i64 i]) Bn T (bl x) w := by
  intro l J Jx W hW hJ _ hY h0
  have HY := Lib.hid hY
  have HJ := Lib.hid hJ
  have HBW := Lib.hid (hB.keeps hW)
  have HTW := Lib.hid (hT.below hW hT.1)
  have hfn : Fence.wide.fn 24 := trivial
  clear hY hJ hB hT
  refine callsIn_of_wp Tryd.func24 rfl hfn ?_ rfl
  simp only [Tryd.ntmps24, List.size_toArray, List.length_cons, List.length_nil, Nat.reduceAdd, Nat.reduceSub, Array.replicate_succ, Array.replicate_zero, List.push_toArray, List.append_toArray, List.nil_append, List.cons_append]
  gi_wp2_with fail
  gi_loopw [] (fun wr => ∃ (pre : List Nat) (y : Nat), pre ++ bl y = bl x ∧ y < 2 ^ 64 ∧ Blk wr Bn 23 #[.int .u64 y] ∧ J pre wr ∧ Tab wr) (fun wr => left Bn wr)
  case atStart => exact ⟨[], x, rfl, hx, HBW.out, h0, HTW.out⟩
  case round =>
    clear h0
    obtain ⟨pre, y, hpre, hy, hb, hj, ht⟩ := hrel
    have m0 := hb.cell 0
    have f0 := hb.frozen 0
    by_cases hy0 : y = 0
    · subst hy0
      rw [bl_zero, List.append_nil] at hpre
      subst hpre
      have HJ0 := Lib.hid hj
      clear hj hb ht
      gi_wp2
      go_end0
      exact ⟨⟨_, rfl⟩, .inl HJ0.out⟩
    · obtain ⟨hnx, hc, hlt⟩ := bl_next hy0 hy
      have q1 : ((y : Int) == 0) = false := by simpa using hy0
      have q2 : ((y : Int) != 0) = true := by simpa using hy0
      have q3 : ¬ ((y : Int) = 0) := by omega
      have hw1 : IntKind.u64.wrap ((y : Int) - 1) = ((y - 1 : Nat) : Int) := by rw [IntKind.wrap_u64]; omega
      have hw2 : bits BinOp.and IntKind.u64 (y : Int) ((y - 1 : Nat) : Int) = ((y &&& (y - 1) : Nat) : Int) := bits_and_u64_nat y _ hy (by omega)
      have CT := Lib.hid (tz_ok y hy hy0 wr ht)
      have hnb : Blk (wr.setCell ⟨Bn, 0, none⟩ (.int .u64 ((y &&& (y - 1) : Nat) : Int))) Bn 23 #[.int .u64 ((y &&& (y - 1) : Nat) : Int)] := hb.set_ 0 _
      have hnt : Tab (wr.setCell ⟨Bn, 0, none⟩ (.int .u64 ((y &&& (y - 1) : Nat) : Int))) := ht.kp (S := fun k => k = Bn) ((Kp.refl (fun k => k = Bn) wr).set_ ⟨Bn, 0, none⟩ (.inl rfl) _) (fun h => hB0 h.symm)
      have hnj : J pre (wr.setCell ⟨Bn, 0, none⟩ (.int .u64 ((y &&& (y - 1) : Nat) : Int))) := HJ.out _ _ _ (some Bn) hj (grownBy_setCell' _ _ _) (fun r e => by cases e; exact .inl rfl)
      generalize hk : Lib.ctz 64 y = k at hnx hc CT
      have hpk : pre ++ [k] <+: bl x := by rw [← hpre, hnx]; exact ⟨bl (y &&& (y - 1)), by simp⟩
      have hyy := HY.out pre k _ hnj hpk
      obtain ⟨fn, tmps, assign, body, hyd, hR⟩ := hyy
      have HRR := Lib.hid hR
      have HB2 := Lib.hid hnb
      have HT2 := Lib.hid hnt
      have HPR := Lib.hid (show (pre ++ [k]) ++ bl (y &&& (y - 1)) = bl x by rw [← hpre, hnx]; simp)
      have HPK := Lib.hid hpk
      have HLT := Lib.hid hlt
      have hyl : left Bn wr = y := by unfold left; rw [m0]; rfl
      have HYL := Lib.hid hyl
      clear hR hj hb ht hnb hnt hnj hpre hnx hpk hk hlt hyl
      gi_wp2_with (refine ⟨trivial, ?_⟩; gi_at_call 22; refine (callsIn_wide.2 CT.out).mono ?_; rintro e w1 ⟨rfl, rfl⟩)
      refine HRR.out.mono ?_
      rintro e W3 (⟨rfl, hJ3, hk3⟩ | ⟨rfl, hJx3⟩)
      · have HB3 := Lib.hid (blk_kp HB2.out hk3 hTB)
        have HT3 := Lib.hid (HT2.out.kp hk3 hT0)
        have HJ3 := Lib.hid hJ3
        clear hJ3 hk3
        dsimp only
        gi_wp2
        go_roundw
        case rel => exact ⟨pre ++ [k], _, HPR.out, Nat.lt_trans HLT.out hy, HB3.out, HJ3.out, HT3.out⟩
        case measure =>
          have h1 := HYL.out
          have h2 : left Bn W3 = y &&& (y - 1) := by
            unfold left
            rw [HB3.out.cell 0]
            simp
          show left Bn W3 < left Bn wr
          rw [h1, h2]
          exact HLT.out
      · have HX3 := Lib.hid hJx3
        clear hJx3
        dsimp only
        gi_wp2
        refine bodyPost_ret (results_none rfl _ _ _) rfl ?_
        exact ⟨⟨_, rfl⟩, .inr ⟨_, HPK.out, HX3.out⟩⟩
end Go.Proofs.YtofflnklbdhaiaaDoor.Ea
