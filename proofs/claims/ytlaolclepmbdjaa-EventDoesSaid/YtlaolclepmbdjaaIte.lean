/- All: the iterator over a ring of events, at every loop body that keeps what lay. -/
import Derived.RangeFuncNested
import Derived.RangeFuncBound
import Derived.RangeFuncCalls
import Derived.RangeFuncLeaves
import Derived.Shelf.Abstract
import Derived.WalkKit
import Derived.OwnWalkIn
import Derived.TacticsInMore
import Derived.LoopNIn
import Derived.LoopIn
import Derived.Test.YtlaolclepmbdjaaSi
import Derived.Test.YtlaolclepmbdjaaEAlive
namespace Go.Proofs.Ytlaolclepmbdjaa.It
open Go.RowKit Go.Shelf Go.Proofs.Ytlaolclepmbdjaa.Bk Go.Proofs.Ytlaolclepmbdjaa.Rw Go.Proofs.Ytlaolclepmbdjaa.Ow Go.Proofs.Ytlaolclepmbdjaa.Kp Go.Proofs.Ytlaolclepmbdjaa.Evr Go.Proofs.Ytlaolclepmbdjaa.Evt Go.Proofs.Ytlaolclepmbdjaa.Si
attribute [local go_sem] Oper.semAt_some

set_option maxRecDepth 100000 in
theorem all_ok (p0 : Option Addr) (w : World) : Calls Try.prog 24 #[.pointer p0] w fun e w' => e = .returned (.func (.func 25) #[] #[.pointer (some ⟨w.heap.size, 0, none⟩)]) ∧ w' = w.alloc (.cells #[.pointer p0] 55) := by
  go_enter Try.func24, Try.ntmps24
  go_wp2
  go_ret
  exact ⟨rfl, rfl⟩

theorem abides_drew {β : Type} {B : Nat} {J : β → World → Prop} (h : AbidesFrom B J) {s : β} {w : World} (hs : J s w) : J s w.drew :=
  h s w w.drew none hs ⟨rfl, rfl, rfl, Nat.le_refl _, fun _ _ _ => rfl⟩ (fun _ e => nomatch e)
theorem at_get (xs : List Ev) {k : Nat} (hk : k < xs.length) : xs[k]? = some (xs[k]?.getD ev0) := by
  simp [hk]
theorem take_snoc (xs : List Ev) {k : Nat} (hk : k < xs.length) : xs.take (k + 1) = xs.take k ++ [xs[k]?.getD ev0] := by
  rw [List.take_add_one]
  simp [hk]
theorem cells8 {w : World} {g o : Nat} {e : Ev} (h : ∀ i u, e.cs[i]? = some u → w.cell? ⟨g, o + i, none⟩ = some u) : w.cell? ⟨g, o, none⟩ = some (.int .i64 e.id) ∧ w.cell? ⟨g, o + 1, none⟩ = some (.string e.lab) ∧ w.cell? ⟨g, o + 2, none⟩ = some (.int .i64 e.loc) ∧ w.cell? ⟨g, o + 3, none⟩ = some (.int .i64 e.t) ∧ w.cell? ⟨g, o + 4, none⟩ = some (.int .i64 e.h) ∧ w.cell? ⟨g, o + 5, none⟩ = some (.int .i64 e.root) ∧ w.cell? ⟨g, o + 6, none⟩ = some (.int .u16 e.boot) ∧ w.cell? ⟨g, o + 7, none⟩ = some (.int .i64 e.way) :=
  ⟨h 0 _ rfl, h 1 _ rfl, h 2 _ rfl, h 3 _ rfl, h 4 _ rfl, h 5 _ rfl, h 6 _ rfl, h 7 _ rfl⟩

set_option maxRecDepth 100000 in
set_option maxHeartbeats 1000000 in
/-- The closure, of a ring. -/
theorem all1_in (n : Nat) (hn : 1 ≤ n) (l Bn p g room f : Nat) (T : Nat → Prop) (cs : Array Value) (xs : List Ev) (J Jx : List Ev → World → Prop) (B0 : Nat) (hJ : AbidesFrom B0 J) (hp : ¬ T p) (hg : ¬ T g) (hBl : ¬ T Bn) (hf : f < room) (hroom : room ≤ 64) (hle : xs.length ≤ room) (hcs : cs.size = room * 8) (hpg : p ≠ g)
    (hcell : ∀ k e, xs[k]? = some e → ∀ j u, e.cs[j]? = some u → cs[((f + k) % room) * 8 + j]? = some u)
    (hY : ∀ pre x W, J pre W → pre.length < xs.length → YieldAt Fence.wide (n - 1) Try.prog l #[x.v] W fun e W' =>
      (e = .returned (.bool true) ∧ J (pre ++ [x]) W' ∧ Kp T W W') ∨ (e = .returned (.bool false) ∧ Jx (pre ++ [x]) W'))
    (W : World) (hBn : Blk W Bn 55 #[.pointer (some ⟨p, 0, none⟩)]) (hb : Blk W p 65 #[.slice (some ⟨g, 0, none⟩) room room, .int .i64 f, .int .i64 xs.length]) (hgb : Blk W g 37 cs) (h0 : J [] W) :
    CallsIn Fence.wide n Try.prog 25 #[.func (.yield l) #[] #[], .pointer (some ⟨Bn, 0, none⟩)] W fun e W' => (∃ v, e = .returned v) ∧ ((∃ ys, ys = xs ∧ J ys W') ∨ (∃ pre, pre <+: xs ∧ Jx pre W')) := by
  have HR := Lib.hid (show Rg W p g room xs from ⟨f, cs, hcs, hb, hgb, hpg, hf, hle, hcell⟩)
  have HC := Lib.hid hcell
  have HY := Lib.hid hY
  have HJ := Lib.hid hJ
  have HBN := Lib.hid hBn
  have HB := Lib.hid hb
  have HG := Lib.hid hgb
  have hfn : Fence.wide.fn 25 := trivial
  have c0 := hBn.cell 0
  clear hcell hY hJ hb hgb hBn hcs
  refine callsIn_of_wp Try.func25 rfl hfn ?_ rfl
  simp only [Try.ntmps25, List.size_toArray, List.length_cons, List.length_nil, Nat.reduceAdd, Nat.reduceSub, Array.replicate_succ, Array.replicate_zero, List.push_toArray, List.append_toArray, List.nil_append, List.cons_append]
  gi_wp2_with (refine ⟨trivial, ?_⟩; gi_at_call 20; refine (callsIn_wide.2 (len_ok p g room _ _ HR.out)).mono ?_; rintro e w1 ⟨rfl, rfl⟩)
  gi_loopw [6] (fun i wr => ∃ k : Nat, k ≤ xs.length ∧ i = .int .i64 k ∧ J (xs.take k) wr ∧ Kp T W wr) (fun i _ => xs.length - (intOf i).toNat)
  case atStart => exact ⟨0, Nat.zero_le _, rfl, by simpa using h0, Kp.refl _ _⟩
  case round =>
    clear h0 c0
    obtain ⟨k, hk, rfl, hJs, hK⟩ := hrel
    have HK := Lib.hid hK
    have HS := Lib.hid hJs
    clear hK hJs
    by_cases hlt : k < xs.length
    · have hyy := HY.out (xs.take k) (xs[k]?.getD ev0) wr.drew (abides_drew HJ.out HS.out) (by simp; omega)
      obtain ⟨fn, tmps, assign, body, hy, hR⟩ := hyy
      have HRR := Lib.hid hR
      clear hR
      have hm : ((f : Int) + (k : Int)).tmod (room : Int) = (((f + k) % room : Nat) : Int) := by
        rw [Int.tmod_eq_emod_of_nonneg (by omega)]
        simp
      have hwr : IntKind.i64.wrap ((f : Int) + (k : Int)) = (f : Int) + (k : Int) := IntWalk.i64_in _ (by omega)
      have hml : (f + k) % room < room := Nat.mod_lt _ (by omega)
      have hml2 : (((f + k) % room : Nat) : Int) < (room : Int) := by omega
      have hml3 : ¬ ((((f + k) % room : Nat) : Int) < 0) := by omega
      have hr0 : ¬ ((room : Int) = 0) := by omega
      have hr1 : ¬ (room = 0) := by omega
      have hb0 := blk_kp HBN.out HK.out hBl
      have hb1 := blk_kp HB.out HK.out hp
      have hb2 := blk_kp HG.out HK.out hg
      have d0 := hb0.drew.cell 0
      have d1 := hb1.drew.cell 0
      have d2 := hb1.drew.cell 1
      have d3 := cells8 (w := wr.drew) (g := g) (o := ((f + k) % room) * 8) (e := xs[k]?.getD ev0) (fun i u hu => (hb2.drew.cell _).trans (HC.out k _ (at_get xs hlt) i u hu))
      clear hb0 hb1 hb2
      generalize hx : xs[k]?.getD ev0 = x at hy HRR d3
      unfold Ev.v at hy
      generalize (f + k) % room = j at hm hml hml2 hml3 d3
      have hwj : IntKind.i64.wrap (j : Int) = (j : Int) := IntWalk.i64_in _ (by omega)
      gi_wp2
      refine wpIn_region_seq [(0, true), (1, true), (2, true), (3, true), (4, true), (5, true), (6, true), (7, true), (8, true), (9, true), (10, true), (11, true), (12, true), (13, true), (14, true), (15, true), (16, true), (17, true), (18, true)] 19 [20] (fun w' => w'.cell? ⟨Bn, 0, none⟩ = some (.pointer (some ⟨p, 0, none⟩)) ∧ w'.cell? ⟨p, 0, none⟩ = some (.slice (some ⟨g, 0, none⟩) room room) ∧ w'.cell? ⟨p, 1, none⟩ = some (.int .i64 f) ∧ w'.cell? ⟨g, j * 8, none⟩ = some (.int .i64 x.id) ∧ w'.cell? ⟨g, j * 8 + 1, none⟩ = some (.string x.lab) ∧ w'.cell? ⟨g, j * 8 + 2, none⟩ = some (.int .i64 x.loc) ∧ w'.cell? ⟨g, j * 8 + 3, none⟩ = some (.int .i64 x.t) ∧ w'.cell? ⟨g, j * 8 + 4, none⟩ = some (.int .i64 x.h) ∧ w'.cell? ⟨g, j * 8 + 5, none⟩ = some (.int .i64 x.root) ∧ w'.cell? ⟨g, j * 8 + 6, none⟩ = some (.int .u16 x.boot) ∧ w'.cell? ⟨g, j * 8 + 7, none⟩ = some (.int .i64 x.way)) (by kernel_rfl) (by kernel_rfl) ⟨d0, d1, d2, d3⟩ ?_
      simp only [List.map_cons, List.map_nil, List.getElem?_toArray, List.getElem?_cons_zero, List.getElem?_cons_succ]
      repeat (first | (refine si_skip (by rfl) (fun _ => rfl) ?_; try simp only [Act.put, List.setIfInBounds_toArray, List.set_cons_zero, List.set_cons_succ]) | (refine si_take (v := ?_) (by rfl) (fun _ => rfl) ?_ ?_; rotate_left; (focus ((intro w hSw; (try dsimp only at hSw); go_simp; (try with_reducible rfl)); done)); try simp only [Act.put, List.setIfInBounds_toArray, List.set_cons_zero, List.set_cons_succ]))
      refine si_round ?_
      refine si_do (fun K hK => ?_)
      go_simp
      refine HRR.out.mono ?_
      rintro e W3 (⟨rfl, hJ3, hk3⟩ | ⟨rfl, hJx3⟩)
      · have HJ3 := Lib.hid hJ3
        have HK3 := Lib.hid (HK.out.drew.trans hk3)
        clear hJ3 hk3
        dsimp only
        refine hK.out _ _ ?_
        clear hK K
        refine si_do (fun K hK => ?_)
        go_simp
        refine hK.out _ _ ?_
        clear hK K
        refine si_done ?_
        gi_wp2
        go_roundw
        case rel => exact ⟨k + 1, by omega, by go_num, by rw [take_snoc xs hlt, hx]; exact HJ3.out, HK3.out⟩
        case measure => simp [intOf]; omega
      · have HX3 := Lib.hid hJx3
        clear hJx3
        dsimp only
        refine hK.out _ _ ?_
        clear hK K
        refine si_do (fun K hK => ?_)
        go_simp
        refine hK.out _ _ ?_
        clear hK K
        refine si_done ?_
        gi_wp2
        refine bodyPost_ret (results_none rfl _ _ _) rfl ?_
        exact ⟨⟨_, rfl⟩, .inr ⟨_, by rw [← hx, ← take_snoc xs hlt]; exact List.take_prefix _ _, HX3.out⟩⟩
    · have hke : k = xs.length := by omega
      subst hke
      gi_wp2
      go_end0
      exact ⟨⟨_, rfl⟩, .inl ⟨_, rfl, by simpa using HS.out⟩⟩
end Go.Proofs.Ytlaolclepmbdjaa.It
