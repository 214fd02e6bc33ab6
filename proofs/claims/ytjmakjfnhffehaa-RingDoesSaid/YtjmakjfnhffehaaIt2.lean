/- same and first: loops over All. -/
import Derived.Test.YtjmakjfnhffehaaIt
import Derived.RangeFuncFrom
namespace Go.Proofs.Ytjmakjfnhffehaa.It
open Go.RowKit Go.Shelf Go.Proofs.Ytjmakjfnhffehaa.Bk Go.Proofs.Ytjmakjfnhffehaa.Rw Go.Proofs.Ytjmakjfnhffehaa.Ow Go.Proofs.Ytjmakjfnhffehaa.Kp Go.Proofs.Ytjmakjfnhffehaa.Ring Go.Proofs.Ytjmakjfnhffehaa.RAlive Go.Proofs.Ytjmakjfnhffehaa.Si
attribute [local go_sem] Oper.semAt_some

/-- A ring, or none with nothing in it; not among the blocks of T. -/
def Rn (w : World) (T : Nat → Prop) (p0 : Option Addr) (xs : List Int) : Prop :=
  (p0 = none ∧ xs = []) ∨ ∃ p g room, p0 = some ⟨p, 0, none⟩ ∧ Rg 43 3 w p g room (vs xs) ∧ 1 ≤ room ∧ room ≤ 64 ∧ ¬ T p ∧ ¬ T g
theorem blk_own {W W' : World} {g : Nat} {t : TypeId} {cs : Array Value} {row : Option Nat} (h : Blk W g t cs) (hg : W.grownBy W' row) (hr : ∀ r, row = some r → ∃ o : Obj, W.heap[r]? = some o ∧ o.isCells = false) : Blk W' g t cs :=
  h.grown hg (fun e => by
    obtain ⟨o, h1, h2⟩ := hr g e.symm
    have := h1.symm.trans h
    injection this with this
    subst this
    cases h2)
theorem len_nil (w : World) : Calls Try.prog 9 #[.pointer none] w fun e w' => e = .returned (.int .i64 0) ∧ w = w' := by
  go_enter Try.func9, Try.ntmps9
  go_wp2
  go_ret
  exact ⟨rfl, rfl⟩

set_option maxRecDepth 100000 in
set_option maxHeartbeats 1000000 in
theorem all1_nil (n : Nat) (hn : 1 ≤ n) (l Bn : Nat) (J : List Int → World → Prop) (W : World) (hBn : Blk W Bn 24 #[.pointer none]) (h0 : J [] W) :
    CallsIn Fence.wide n Try.prog 15 #[.func (.yield l) #[] #[], .pointer (some ⟨Bn, 0, none⟩)] W fun e W' => (∃ v, e = .returned v) ∧ J [] W' := by
  have c0 := hBn.cell 0
  have hfn : Fence.wide.fn 15 := trivial
  refine callsIn_of_wp Try.func15 rfl hfn ?_ rfl
  simp only [Try.ntmps15, List.size_toArray, List.length_cons, List.length_nil, Nat.reduceAdd, Nat.reduceSub, Array.replicate_succ, Array.replicate_zero, List.push_toArray, List.append_toArray, List.nil_append, List.cons_append]
  gi_wp2_with (refine ⟨trivial, ?_⟩; gi_at_call 9; refine (callsIn_wide.2 (len_nil _)).mono ?_; rintro e w1 ⟨rfl, rfl⟩)
  gi_loopw [6] (fun i wr => i = .int .i64 0 ∧ J [] wr) (fun _ _ => 0)
  case atStart => exact ⟨rfl, h0⟩
  case round =>
    obtain ⟨rfl, hJs⟩ := hrel
    gi_wp2
    go_end0
    exact ⟨⟨_, rfl⟩, hJs⟩

theorem all_stops (n : Nat) (hn : 1 ≤ n) (Bn : Nat) (T : Nat → Prop) (p0 : Option Addr) (xs : List Int) (w : World) (hBn : Blk w Bn 24 #[.pointer p0]) (hT : ¬ T Bn) (hR : Rn w T p0 xs) :
    SeqStopsK Fence.wide n Try.prog 15 #[.pointer (some ⟨Bn, 0, none⟩)] (fun x : Int => #[Value.int .i64 x]) (Kp T) (fun ys => ys = xs) (fun pre => pre <+: xs) xs.length w := fun l J Jx W hW hJ _ hY h0 => by
  rcases hR with ⟨rfl, rfl⟩ | ⟨p, g, room, rfl, hR, h1, hroom, hp, hg⟩
  · exact (all1_nil n hn l Bn J W (hBn.keeps hW) h0).mono fun e W' ⟨hv, hj⟩ => ⟨hv, .inl ⟨_, rfl, hj⟩⟩
  · obtain ⟨f, cs, hcs, hb, hgb, hpg, hf, hle, hcell⟩ := hR
    have hl : (vs xs).length = xs.length := by simp [vs]
    rw [hl] at hb hle
    exact all1_in n hn l Bn p g room f T cs xs J Jx _ hJ hp hg hT hf hroom hle hcs hpg hcell hY W (hBn.keeps hW) (hb.keeps hW) (hgb.keeps hW) h0

theorem kp_t {T : Nat → Prop} {A B C : World} (h : Kp T A B) (k : Kp T B C) : Kp T A C := h.trans k
theorem kp_b {T : Nat → Prop} {w : World} (hT : ∀ k, w.heap.size ≤ k → T k) (W : World) (l : Nat) (o o' : Obj) (hl : w.heap.size ≤ l) (_ : W.heap[l]? = some o) (_ : o.isCells = false) (_ : o.isWalk = false) : Kp T W (W.putObj l o') :=
  (Kp.refl T W).grown (grownBy_putObj' W l o') (fun q e => by cases e; exact .inl (hT _ hl))

set_option maxRecDepth 100000 in
set_option maxHeartbeats 2000000 in
/-- same, of a list that is what the ring holds. -/
theorem same_ok (p0 A : Option Addr) (cap : Nat) (xs : List Int) (w : World) (hR : Rn w (fun k => w.heap.size ≤ k) p0 xs) (hx : xs.length ≤ 64)
    (hA : ∀ j, j < xs.length → ∃ ad, A = some ad ∧ ad.block < w.heap.size ∧ w.cell? (ad.add j) = some (.int .i64 (xs[j]?.getD 0))) :
    Calls Try.prog 10 #[.pointer p0, .slice A xs.length cap] w fun e w' => e = .returned (.bool true) ∧ Below w.heap.size w w' := by
  refine callsIn_wide (n := 3).1 ?_
  have hfn : Fence.wide.fn 10 := trivial
  have h1 : 1 ≤ 3 := by decide
  refine callsIn_of_wp_marks Try.func10 rfl hfn ?_ rfl
  simp only [Try.ntmps10, List.size_toArray, List.length_cons, List.length_nil, Nat.reduceAdd, Nat.reduceSub, Array.replicate_succ, Array.replicate_zero, List.push_toArray, List.append_toArray, List.nil_append, List.cons_append]
  have HR := Lib.hid hR
  have HA := Lib.hid hA
  clear hR hA
  gi_wp2_with (refine ⟨trivial, ?_⟩; gi_at_call 14; refine (callsIn_wide.2 (all_ok p0 _)).mono ?_; rintro e w1 ⟨rfl, rfl⟩)
  generalize hB : w.heap.size = B at HR HA ⊢
  obtain ⟨w1, hw1⟩ : ∃ w1, (((w.alloc (.cells #[.slice A xs.length cap] 34)).alloc (.cells #[.bool false] 4)).alloc (.cells #[.int .i64 0] 3)).alloc (.cells #[.pointer p0] 24) = w1 := ⟨_, rfl⟩
  have hsz : w1.heap.size = B + 4 := by rw [← hw1]; simp [hB]
  have hBe : Below B w w1 := by
    rw [← hw1]
    exact ((((Below.refl _ w).alloc (by omega) _).alloc (by simp; omega) _).alloc (by simp; omega) _).alloc (by simp; omega) _
  have L0 : Blk w1 B 34 #[.slice A xs.length cap] := by rw [← hw1]; exact (((hB ▸ Blk.new w _ _).alloc _).alloc _).alloc _
  have L1 : Blk w1 (B + 1) 4 #[.bool false] := by
    rw [← hw1]
    have h := Blk.new (w.alloc (.cells #[.slice A xs.length cap] 34)) 4 #[.bool false]
    rw [World.size_alloc, hB] at h
    exact (h.alloc _).alloc _
  have L2 : Blk w1 (B + 2) 3 #[.int .i64 0] := by
    rw [← hw1]
    have h := Blk.new ((w.alloc (.cells #[.slice A xs.length cap] 34)).alloc (.cells #[.bool false] 4)) 3 #[.int .i64 0]
    rw [World.size_alloc, World.size_alloc, hB] at h
    exact h.alloc _
  have L3 : Blk w1 (B + 3) 24 #[.pointer p0] := by
    rw [← hw1]
    have h := Blk.new (((w.alloc (.cells #[.slice A xs.length cap] 34)).alloc (.cells #[.bool false] 4)).alloc (.cells #[.int .i64 0] 3)) 24 #[.pointer p0]
    rw [World.size_alloc, World.size_alloc, World.size_alloc, hB] at h
    exact h
  have HR1 : Rn w1 (fun k => k = B + 1 ∨ k = B + 2 ∨ B + 4 ≤ k) p0 xs := by
    rcases HR.out with h | ⟨p, g, room, h1, h2, h3, h4, h5, h6⟩
    · exact .inl h
    · exact .inr ⟨p, g, room, h1, h2.below (hBe.mono (by omega)), h3, h4, by omega, by omega⟩
  rw [hw1]
  clear hw1
  refine wpIn_rangeFunc_ownF rfl h1 (gf := 15) (lb := #[.pointer (some ⟨B + 3, 0, none⟩)]) rfl trivial (enters_of Try.func15 (by kernel_rfl) rfl)
    (all_stops 2 (by decide) (B + 3) (fun k => k = B + 1 ∨ k = B + 2 ∨ B + 4 ≤ k) p0 xs w1 L3 (by omega) HR1) kp_t (kp_b (by omega)) (Below.refl _ _) (fun _ => rfl)
    (fun pre W => (pre <+: xs ∧ Blk W B 34 #[.slice A xs.length cap] ∧ Blk W (B + 1) 4 #[.bool false] ∧ Blk W (B + 2) 3 #[.int .i64 pre.length]) ∧ Below B w W)
    (fun _ pre _ => ¬ pre <+: xs)
    (OwnFrom.and (Own.from (fun s A B row hs hg hr => ⟨hs.1, blk_own hs.2.1 hg hr, blk_own hs.2.2.1 hg hr, blk_own hs.2.2.2 hg hr⟩) _) (ownFrom_below (by omega) (by omega)))
    (fun _ _ _ _ _ hs _ _ => hs)
    ⟨⟨List.nil_prefix, L0, L1, L2⟩, hBe⟩
    (fun x => { tmps := #[.pointer p0, .slice A xs.length cap, undef, .pointer (some ⟨B, 0, none⟩), .pointer (some ⟨B + 1, 0, none⟩), .pointer (some ⟨B + 2, 0, none⟩), .int .i64 x, .pointer p0, .func (.func 15) #[] #[.pointer (some ⟨B + 3, 0, none⟩)], .int .i64 x, undef, undef, undef, undef, undef, undef, undef, undef, undef, undef, undef, undef, undef, undef, undef, undef, undef, undef], defers := [] }) ?assign ?body ?done ?stop
  case assign =>
    intro l x W K hK
    gi_wp2
    exact hK
  case body =>
    rintro l pre x W ⟨⟨hpre, M0, M1, M2⟩, hb⟩ hlen
    obtain ⟨ad, rfl, had, hc⟩ := HA.out _ hlen
    have l0 : W.cell? (ad.add pre.length) = some (.int .i64 (xs[pre.length]?.getD 0)) := (hb.cell (p := ad.add pre.length) (by unfold Addr.add; split <;> exact had)).trans hc
    have m0 := M0.cell 0
    have m1 := M1.cell 0
    have m2 := M2.cell 0
    have f1 := M1.frozen 0
    have f2 := M2.frozen 0
    have n0 : ¬ xs.length ≤ pre.length := by omega
    have n1 : ¬ (xs.length : Int) ≤ (pre.length : Int) := by omega
    have n2 : (pre.length : Int) < (xs.length : Int) := by omega
    have n3 : IntKind.i64.wrap ((pre.length : Int) + 1) = (pre.length : Int) + 1 := IntWalk.i64_in _ (by omega)
    obtain ⟨z, hz⟩ : ∃ z, xs[pre.length]?.getD 0 = z := ⟨_, rfl⟩
    rw [hz] at l0
    have HZ := Lib.hid hz
    have HP := Lib.hid hpre
    have HM0 := Lib.hid M0
    have HM1 := Lib.hid M1
    have HM2 := Lib.hid M2
    have HBe := Lib.hid hb
    have HL := Lib.hid hlen
    clear hz hpre M0 M1 M2 hb hc hlen
    by_cases hzx : z = x
    · have hb1 : (z == x) = true := by simpa using hzx
      have hb2 : (z != x) = false := by simpa using hzx
      have HX := Lib.hid hzx
      clear hzx
      gi_wp2
      refine ⟨KeepsOthers.setCell _ _ _, (Kp.refl _ _).set_ ⟨B + 2, 0, none⟩ (.inl (.inr (.inl rfl))) _, ⟨?_, HM0.out.far (p := ⟨B + 2, 0, none⟩) (by show B ≠ B + 2; omega) _, HM1.out.far (p := ⟨B + 2, 0, none⟩) (by show B + 1 ≠ B + 2; omega) _, ?_⟩, HBe.out.setCell (p := ⟨B + 2, 0, none⟩) (by show B ≤ B + 2; omega) _⟩
      · have h1 := List.prefix_iff_eq_take.1 HP.out
        have h2 := take_snoc xs HL.out
        rw [← h1, HZ.out, HX.out] at h2
        rw [← h2]
        exact List.take_prefix _ _
      · have := HM2.out.set_ 0 (.int .i64 ((pre.length : Int) + 1))
        simpa using this
    · have hb1 : (z == x) = false := by simpa using hzx
      have hb2 : (z != x) = true := by simpa using hzx
      have HX := Lib.hid hzx
      clear hzx
      gi_wp2
      refine ⟨KeepsOthers.setCell _ _ _, fun h => HX.out ?_⟩
      have h3 := List.prefix_iff_eq_take.1 h
      rw [List.length_append, List.length_singleton, take_snoc xs HL.out, HZ.out] at h3
      have := List.append_inj_right h3 (by simp; omega)
      simpa using this.symm
  case done =>
    rintro D ys W hD rfl ⟨⟨hpre, M0, M1, M2⟩, hb⟩ hK
    have m0 := M0.cell 0
    have m1 := M1.cell 0
    have m2 := M2.cell 0
    have f1 := M1.frozen 0
    have HM1 := Lib.hid M1
    have HBe := Lib.hid hb
    clear hpre M0 M1 M2 hb HR HR1 HA
    gi_wp2
    have hK' := (KeepsOthers.setCell W ⟨B + 1, 0, none⟩ (.bool true)).same D _ hK rfl
    refine ⟨by simp, .inl ⟨_, _, rfl, run_takeDeferred hK', ?_⟩⟩
    have hc5 := cell_kept (v := .bool true) ((HM1.out.set_ 0 (.bool true)).cell 0) (grownBy_putObj' _ D (.deferred none)) (fun r e => by cases e; exact ⟨_, hK', rfl⟩)
    refine ⟨.bool true, ?_, rfl, by rw [hB]; exact (HBe.out.setCell (p := ⟨B + 1, 0, none⟩) (by show B ≤ B + 1; omega) _).trans (belowK_b (w := w1) (by omega) _ D _ _ (by omega) hK' rfl rfl)⟩
    simp [results, Try.results10, go_sem, hc5]
  case stop =>
    rintro D c pre W hD hpre hn hK
    exact absurd hpre hn

set_option maxRecDepth 100000 in
set_option maxHeartbeats 2000000 in
/-- first: how many All goes over, if it is left behind so many. -/
theorem first_ok (p0 : Option Addr) (most : Int) (xs : List Int) (w : World) (hR : Rn w (fun k => w.heap.size ≤ k) p0 xs) (hx : xs.length ≤ 64) (hm : 1 ≤ most) :
    Calls Try.prog 13 #[.pointer p0, .int .i64 most] w fun e w' => e = .returned (.int .i64 (min most xs.length)) ∧ Below w.heap.size w w' := by
  refine callsIn_wide (n := 3).1 ?_
  have hfn : Fence.wide.fn 13 := trivial
  have h1 : 1 ≤ 3 := by decide
  refine callsIn_of_wp_marks Try.func13 rfl hfn ?_ rfl
  simp only [Try.ntmps13, List.size_toArray, List.length_cons, List.length_nil, Nat.reduceAdd, Nat.reduceSub, Array.replicate_succ, Array.replicate_zero, List.push_toArray, List.append_toArray, List.nil_append, List.cons_append]
  have HR := Lib.hid hR
  clear hR
  gi_wp2_with (refine ⟨trivial, ?_⟩; gi_at_call 14; refine (callsIn_wide.2 (all_ok p0 _)).mono ?_; rintro e w1 ⟨rfl, rfl⟩)
  generalize hB : w.heap.size = B at HR ⊢
  obtain ⟨w1, hw1⟩ : ∃ w1, ((w.alloc (.cells #[.int .i64 most] 3)).alloc (.cells #[.int .i64 0] 3)).alloc (.cells #[.pointer p0] 24) = w1 := ⟨_, rfl⟩
  have hsz : w1.heap.size = B + 3 := by rw [← hw1]; simp [hB]
  have hBe : Below B w w1 := by
    rw [← hw1]
    exact (((Below.refl _ w).alloc (by omega) _).alloc (by simp; omega) _).alloc (by simp; omega) _
  have L0 : Blk w1 B 3 #[.int .i64 most] := by rw [← hw1]; exact ((hB ▸ Blk.new w _ _).alloc _).alloc _
  have L1 : Blk w1 (B + 1) 3 #[.int .i64 0] := by
    rw [← hw1]
    have h := Blk.new (w.alloc (.cells #[.int .i64 most] 3)) 3 #[.int .i64 0]
    rw [World.size_alloc, hB] at h
    exact h.alloc _
  have L2 : Blk w1 (B + 2) 24 #[.pointer p0] := by
    rw [← hw1]
    have h := Blk.new ((w.alloc (.cells #[.int .i64 most] 3)).alloc (.cells #[.int .i64 0] 3)) 24 #[.pointer p0]
    rw [World.size_alloc, World.size_alloc, hB] at h
    exact h
  have HR1 : Rn w1 (fun k => k = B + 1 ∨ B + 3 ≤ k) p0 xs := by
    rcases HR.out with h | ⟨p, g, room, h1, h2, h3, h4, h5, h6⟩
    · exact .inl h
    · exact .inr ⟨p, g, room, h1, h2.below (hBe.mono (by omega)), h3, h4, by omega, by omega⟩
  rw [hw1]
  clear hw1
  refine wpIn_rangeFunc_ownF rfl h1 (gf := 15) (lb := #[.pointer (some ⟨B + 2, 0, none⟩)]) rfl trivial (enters_of Try.func15 (by kernel_rfl) rfl)
    (all_stops 2 (by decide) (B + 2) (fun k => k = B + 1 ∨ B + 3 ≤ k) p0 xs w1 L2 (by omega) HR1) kp_t (kp_b (by omega)) (Below.refl _ _) (fun _ => rfl)
    (fun pre W => ((pre.length : Int) < most ∧ Blk W B 3 #[.int .i64 most] ∧ Blk W (B + 1) 3 #[.int .i64 pre.length]) ∧ Below B w W)
    (fun c pre W => (c = .exit 0 ∧ (pre.length : Int) = most ∧ Blk W (B + 1) 3 #[.int .i64 pre.length]) ∧ Below B w W)
    (OwnFrom.and (Own.from (fun s A B row hs hg hr => ⟨hs.1, blk_own hs.2.1 hg hr, blk_own hs.2.2 hg hr⟩) _) (ownFrom_below (by omega) (by omega)))
    (fun c => OwnFrom.and (Own.from (fun s A B row hs hg hr => ⟨hs.1, hs.2.1, blk_own hs.2.2 hg hr⟩) _) (ownFrom_below (by omega) (by omega)))
    ⟨⟨by simp; omega, L0, L1⟩, hBe⟩
    (fun x => { tmps := #[.pointer p0, .int .i64 most, undef, .pointer (some ⟨B, 0, none⟩), .int .i64 0, .pointer (some ⟨B + 1, 0, none⟩), .pointer p0, .func (.func 15) #[] #[.pointer (some ⟨B + 2, 0, none⟩)], .int .i64 x, undef, undef, undef, undef, undef, undef], defers := [] }) ?assign ?body ?done ?stop
  case assign =>
    intro l x W K hK
    gi_wp2
    simpa using hK
  case body =>
    rintro l pre x W ⟨⟨hlt, M0, M1⟩, hb⟩ hlen
    have m0 := M0.cell 0
    have m1 := M1.cell 0
    have f1 := M1.frozen 0
    have n3 : IntKind.i64.wrap ((pre.length : Int) + 1) = (pre.length : Int) + 1 := IntWalk.i64_in _ (by omega)
    have hs : Blk (W.setCell ⟨B + 1, 0, none⟩ (.int .i64 ((pre.length : Int) + 1))) (B + 1) 3 #[.int .i64 ((pre.length : Int) + 1)] := M1.set_ 0 _
    have HM0 := Lib.hid M0
    have HM1 := Lib.hid hs
    have HBe := Lib.hid hb
    clear M0 M1 hb hlen hs
    by_cases hge : most ≤ (pre.length : Int) + 1
    · gi_wp2
      refine ⟨KeepsOthers.setCell _ _ _, ⟨rfl, ?_, ?_⟩, HBe.out.setCell (p := ⟨B + 1, 0, none⟩) (by show B ≤ B + 1; omega) _⟩
      · rw [List.length_append, List.length_singleton]
        omega
      · rw [List.length_append, List.length_singleton]
        exact HM1.out
    · gi_wp2
      refine ⟨KeepsOthers.setCell _ _ _, (Kp.refl _ _).set_ ⟨B + 1, 0, none⟩ (.inl (.inl rfl)) _, ⟨?_, HM0.out.far (p := ⟨B + 1, 0, none⟩) (by show B ≠ B + 1; omega) _, ?_⟩, HBe.out.setCell (p := ⟨B + 1, 0, none⟩) (by show B ≤ B + 1; omega) _⟩
      · rw [List.length_append, List.length_singleton]
        omega
      · rw [List.length_append, List.length_singleton]
        exact HM1.out
  case done =>
    rintro D ys W hD rfl ⟨⟨hlt, M0, M1⟩, hb⟩ hK
    have m1 := M1.cell 0
    have HBe := Lib.hid hb
    clear M0 M1 hb HR HR1
    gi_wp2
    refine ⟨by simp, .inl ⟨_, _, rfl, run_takeDeferred hK, ?_⟩⟩
    exact ⟨_, results_tmp rfl _ _ _, by rw [show min most (ys.length : Int) = ys.length by omega]; rfl, by rw [hB]; exact HBe.out.trans (belowK_b (w := w1) (by omega) _ D _ _ (by omega) hK rfl rfl)⟩
  case stop =>
    rintro D c pre W hD hpre ⟨⟨rfl, hlt, M1⟩, hb⟩ hK
    have m1 := M1.cell 0
    have hle := hpre.length_le
    have HBe := Lib.hid hb
    clear M1 hb HR HR1
    gi_wp2
    refine ⟨by simp, .inl ⟨_, _, rfl, run_takeDeferred hK, ?_⟩⟩
    exact ⟨_, results_tmp rfl _ _ _, by rw [show min most (xs.length : Int) = pre.length by omega, hlt]; rfl, by rw [hB]; exact HBe.out.trans (belowK_b (w := w1) (by omega) _ D _ _ (by omega) hK rfl rfl)⟩
end Go.Proofs.Ytjmakjfnhffehaa.It
