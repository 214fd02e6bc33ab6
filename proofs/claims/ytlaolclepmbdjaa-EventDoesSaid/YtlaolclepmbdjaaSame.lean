/- same: the log and the reference's log, gone over beside one another. -/
import Derived.Test.YtlaolclepmbdjaaIt3
import Derived.RangeFuncFrom
namespace Go.Proofs.Ytlaolclepmbdjaa.It
open Go.RowKit Go.Shelf Go.Proofs.Ytlaolclepmbdjaa.Bk Go.Proofs.Ytlaolclepmbdjaa.Rw Go.Proofs.Ytlaolclepmbdjaa.Ow Go.Proofs.Ytlaolclepmbdjaa.Kp Go.Proofs.Ytlaolclepmbdjaa.Evr Go.Proofs.Ytlaolclepmbdjaa.Evt Go.Proofs.Ytlaolclepmbdjaa.Cl Go.Proofs.Ytlaolclepmbdjaa.Rl Go.Proofs.Ytlaolclepmbdjaa.Si
attribute [local go_sem] Oper.semAt_some

theorem blk_own {W W' : World} {g : Nat} {t : TypeId} {cs : Array Value} {row : Option Nat} (h : Blk W g t cs) (hg : W.grownBy W' row) (hr : ∀ r, row = some r → ∃ o : Obj, W.heap[r]? = some o ∧ o.isCells = false) : Blk W' g t cs :=
  h.grown hg (fun e => by
    obtain ⟨o, h1, h2⟩ := hr g e.symm
    have := h1.symm.trans h
    injection this with this
    subst this
    cases h2)
theorem kp_t {T : Nat → Prop} {A B C : World} (h : Kp T A B) (k : Kp T B C) : Kp T A C := h.trans k
theorem kp_b {T : Nat → Prop} {w : World} (hT : ∀ k, w.heap.size ≤ k → T k) (W : World) (l : Nat) (o o' : Obj) (hl : w.heap.size ≤ l) (_ : W.heap[l]? = some o) (_ : o.isCells = false) (_ : o.isWalk = false) : Kp T W (W.putObj l o') :=
  (Kp.refl T W).grown (grownBy_putObj' W l o') (fun q e => by cases e; exact .inl (hT _ hl))
/-- The round's activation. -/
def Ax (l0 : Option Addr) (m B gf : Nat) (lb : Array Value) (x : Ev) (a : Act) (W : World) : Prop :=
  ∃ D, B ≤ D ∧ a = { tmps := #[.pointer l0, .pointer (some ⟨m, 0, none⟩), undef, .pointer (some ⟨B, 0, none⟩), .pointer (some ⟨B + 1, 0, none⟩), .pointer (some ⟨B + 2, 0, none⟩), .pointer (some ⟨D, 0, none⟩), .pointer l0, .func (.func gf) #[] lb, x.v, undef, undef, undef, undef, undef, undef, undef, undef, undef, undef, undef, undef, undef, undef, undef, undef, undef, undef, undef, undef, undef, undef, undef, undef, undef, undef, undef, undef, undef, undef, undef, undef, undef, undef, undef, undef, undef, undef, undef, undef, undef, undef, undef, undef, undef, undef], defers := [] } ∧ Blk W D 37 x.cs.toArray ∧ B + 3 ≤ D
theorem len_any (T : Nat → Prop) (l0 : Option Addr) (q : List Ev) (w : World) (h : Ll w T l0 q) : Calls Try.prog 12 #[.pointer l0] w fun e w' => e = .returned (.int .i64 q.length) ∧ w = w' := by
  rcases h with ⟨rfl, rfl⟩ | ⟨l, p, g, n, rfl, hL, _⟩
  · exact llen_nil w
  · exact llen_ok l p g n q w hL
theorem Ll.below {w w' : World} {T : Nat → Prop} {l0 : Option Addr} {q : List Ev} (h : Ll w T l0 q) (hb : Below w.heap.size w w') : Ll w' T l0 q := by
  rcases h with h | ⟨l, p, g, n, h1, hL, h2⟩
  · exact .inl h
  · exact .inr ⟨l, p, g, n, h1, hL.below hb, h2⟩
theorem Ll.mono {w : World} {T T' : Nat → Prop} {l0 : Option Addr} {q : List Ev} (h : Ll w T l0 q) (ht : ∀ k, k < w.heap.size → T' k → T k) : Ll w T' l0 q := by
  rcases h with h | ⟨l, p, g, n, h1, hL, h2, h3⟩
  · exact .inl h
  · exact .inr ⟨l, p, g, n, h1, hL, fun h => h2 (ht _ hL.ring.lt.1 h), fun h => h3 (ht _ hL.ring.lt.2.1 h)⟩

theorem same_pre (m : Nat) (w : World) : Below w.heap.size w (((w.alloc (.cells #[.pointer (some ⟨m, 0, none⟩)] 45)).alloc (.cells #[.bool false] 4)).alloc (.cells #[.int .i64 0] 3)) ∧
    Blk (((w.alloc (.cells #[.pointer (some ⟨m, 0, none⟩)] 45)).alloc (.cells #[.bool false] 4)).alloc (.cells #[.int .i64 0] 3)) w.heap.size 45 #[.pointer (some ⟨m, 0, none⟩)] ∧
    Blk (((w.alloc (.cells #[.pointer (some ⟨m, 0, none⟩)] 45)).alloc (.cells #[.bool false] 4)).alloc (.cells #[.int .i64 0] 3)) (w.heap.size + 1) 4 #[.bool false] ∧
    Blk (((w.alloc (.cells #[.pointer (some ⟨m, 0, none⟩)] 45)).alloc (.cells #[.bool false] 4)).alloc (.cells #[.int .i64 0] 3)) (w.heap.size + 2) 3 #[.int .i64 0] ∧
    (((w.alloc (.cells #[.pointer (some ⟨m, 0, none⟩)] 45)).alloc (.cells #[.bool false] 4)).alloc (.cells #[.int .i64 0] 3)).heap.size = w.heap.size + 3 := by
  refine ⟨(((Below.refl _ w).alloc (by omega) _).alloc (by simp) _).alloc (by simp; omega) _, ((Blk.new w _ _).alloc _).alloc _, ?_, ?_, by simp⟩
  · have h := Blk.new (w.alloc (.cells #[.pointer (some ⟨m, 0, none⟩)] 45)) 4 #[.bool false]
    rw [World.size_alloc] at h
    exact h.alloc _
  · have h := Blk.new ((w.alloc (.cells #[.pointer (some ⟨m, 0, none⟩)] 45)).alloc (.cells #[.bool false] 4)) 3 #[.int .i64 0]
    rw [World.size_alloc, World.size_alloc] at h
    exact h
theorem same_ll (l0 : Option Addr) (m : Nat) (q : List Ev) (w : World) (hL : Ll w (fun k => w.heap.size ≤ k) l0 q) :
    Ll (((w.alloc (.cells #[.pointer (some ⟨m, 0, none⟩)] 45)).alloc (.cells #[.bool false] 4)).alloc (.cells #[.int .i64 0] 3)) (fun k => (k = w.heap.size + 1 ∨ k = w.heap.size + 2) ∨ (((w.alloc (.cells #[.pointer (some ⟨m, 0, none⟩)] 45)).alloc (.cells #[.bool false] 4)).alloc (.cells #[.int .i64 0] 3)).heap.size ≤ k) l0 q := by
  have h := same_pre m w
  rcases hL.below h.1 with h' | ⟨l, p, g, n, h1, h2, h3, h4⟩
  · exact .inl h'
  · refine .inr ⟨l, p, g, n, h1, h2, ?_, ?_⟩
    · rw [h.2.2.2.2]
      omega
    · rw [h.2.2.2.2]
      omega
theorem vi_at (q : List Ev) {k : Nat} (hk : k < q.length) : (vi q)[k]?.getD undef = .int .i64 (q[k]?.getD ev0).id := by
  simp [vi, hk]
theorem vl_at (q : List Ev) {k : Nat} (hk : k < q.length) : (vl q)[k]?.getD undef = .string (q[k]?.getD ev0).lab := by
  simp [vl, hk]
set_option maxRecDepth 100000 in
set_option maxHeartbeats 4000000 in
theorem same_ok (l0 : Option Addr) (m B1 : Nat) (q : List Ev) (last : Int) (w : World) (hL : Ll w (fun k => w.heap.size ≤ k) l0 q) (hR : Rl w B1 m q last) (hq : q.length ≤ 16) :
    Calls Try.prog 14 #[.pointer l0, .pointer (some ⟨m, 0, none⟩)] w fun e w' => e = .returned (.bool true) ∧ Below w.heap.size w w' := by
  refine callsIn_wide (n := 3).1 ?_
  have hfn : Fence.wide.fn 14 := trivial
  have h1 : 1 ≤ 3 := by decide
  refine callsIn_of_wp_marks Try.func14 rfl hfn ?_ rfl
  simp only [Try.ntmps14, List.size_toArray, List.length_cons, List.length_nil, Nat.reduceAdd, Nat.reduceSub, Array.replicate_succ, Array.replicate_zero, List.push_toArray, List.append_toArray, List.nil_append, List.cons_append]
  have HR := Lib.hid hR
  have HLL := Lib.hid hL
  have HP := Lib.hid (same_pre m w)
  have hL1 := same_ll l0 m q w hL
  have HAG := Lib.hid (all_gen (fun k => k = w.heap.size + 1 ∨ k = w.heap.size + 2) l0 q _ hL1 (by rw [HP.out.2.2.2.2]; omega))
  clear hL hR hL1
  gi_wp2_with (refine ⟨trivial, ?_⟩; gi_at_call 22; refine (callsIn_wide.2 HAG.out).mono ?_; rintro e w2 ⟨gf, lb, T, rfl, hen, hseq, hT0, hT1, hb2⟩)
  have hsz := hb2.size
  obtain ⟨p1, p2, p3, p4, p5⟩ := HP.out
  rw [p5] at hsz
  have L0 := p2.keeps hb2
  have L1 := p3.keeps hb2
  have L2 := p4.keeps hb2
  have hBe : Below w.heap.size w w2 := p1.trans (hb2.mono p1.size)
  clear p1 p2 p3 p4 p5 HP HAG hb2
  generalize hB : w.heap.size = B at *
  refine wpIn_rangeFunc_ownH (w := w2) rfl h1 (gf := gf) (lb := lb) rfl trivial hen hseq kp_t (kp_b hT1) (Below.refl _ _) (fun _ => rfl)
    (fun pre W => (Blk W B 45 #[.pointer (some ⟨m, 0, none⟩)] ∧ Blk W (B + 1) 4 #[.bool false] ∧ Blk W (B + 2) 3 #[.int .i64 pre.length]) ∧ Below B w W)
    (fun _ pre _ => ¬ pre <+: q)
    (OwnFrom.and (Own.from (fun s A B row hs hg hr => ⟨blk_own hs.1 hg hr, blk_own hs.2.1 hg hr, blk_own hs.2.2 hg hr⟩) _) (ownFrom_below (by omega) (by omega)))
    (fun _ _ _ _ _ hs _ _ => hs)
    ⟨⟨L0, L1, L2⟩, hBe⟩
    (fun x a W => Ax l0 m B gf lb x a W)
    (fun x a' => Own.from (fun s A B row hs hg hr => by obtain ⟨D, h1, h2, h3, h4⟩ := hs; exact ⟨D, h1, h2, blk_own h3 hg hr, h4⟩) _)
    ?assign ?body ?done ?stop
  case assign =>
    rintro l pre x W K ⟨⟨M0, M1, M2⟩, hb⟩ hK
    have h3 := M2.lt
    have HM0 := Lib.hid M0
    have HM1 := Lib.hid M1
    have HM2 := Lib.hid M2
    have HBe := Lib.hid hb
    have HK := Lib.hid hK
    clear M0 M1 M2 hb hK L0 L1 L2 hBe hseq hen
    dsimp only [Ev.v]
    gi_wp2
    exact HK.out _ _ ((KeepsOthers.alloc _ _).from _) ((Kp.refl _ _).alloc _) ⟨⟨HM0.out.alloc _, HM1.out.alloc _, HM2.out.alloc _⟩, HBe.out.alloc (by omega) _⟩ ⟨W.heap.size, by omega, rfl, Blk.new _ _ _, by omega⟩
  case body =>
    rintro l pre x a' W hl hlo ⟨⟨M0, M1, M2⟩, hb⟩ ⟨D, hD, rfl, hx, hD3⟩ hlen
    obtain ⟨A, c, A2, c2, r1, r2, r3⟩ := HR.out.below (hB.symm ▸ hb)
    obtain ⟨b, o, rfl, _, _, k0⟩ := r2.at_ hlen
    obtain ⟨b2, o2, rfl, _, _, k1⟩ := r3.at_ hlen
    rw [vi_at q hlen] at k0
    rw [vl_at q hlen] at k1
    have m0 : W.drew.cell? ⟨B, 0, none⟩ = some (.pointer (some ⟨m, 0, none⟩)) := M0.drew.cell 0
    have m2 : W.drew.cell? ⟨B + 2, 0, none⟩ = some (.int .i64 pre.length) := M2.drew.cell 0
    have c0 : W.drew.cell? ⟨m, 0, none⟩ = some (.slice (some ⟨b, o, none⟩) q.length c) := r1.drew.cell 0
    have c1 : W.drew.cell? ⟨m, 1, none⟩ = some (.slice (some ⟨b2, o2, none⟩) q.length c2) := r1.drew.cell 1
    have x0 : W.drew.cell? ⟨D, 0, none⟩ = some (.int .i64 x.id) := hx.drew.cell 0
    have x1 : W.drew.cell? ⟨D, 1, none⟩ = some (.string x.lab) := hx.drew.cell 1
    have y2 : W.drew.cell? ⟨B + 2, 0, none⟩ = some (.int .i64 pre.length) := m2
    have f1 : W.drew.frozen? ⟨B + 1, 0, none⟩ = false := M1.drew.frozen 0
    have f2 : W.drew.frozen? ⟨B + 2, 0, none⟩ = false := M2.drew.frozen 0
    have y1 : W.drew.cell? ⟨B + 1, 0, none⟩ = some (.bool false) := M1.drew.cell 0
    have n0 : ¬ q.length ≤ pre.length := by omega
    have n1 : ¬ (q.length : Int) ≤ (pre.length : Int) := by omega
    have n2 : (pre.length : Int) < (q.length : Int) := by omega
    have n4 : decide ((q.length : Int) ≤ (pre.length : Int)) = false := by simp; omega
    have n3 : IntKind.i64.wrap ((pre.length : Int) + 1) = (pre.length : Int) + 1 := IntWalk.i64_in _ (by omega)
    obtain ⟨z, hz⟩ : ∃ z, q[pre.length]?.getD ev0 = z := ⟨_, rfl⟩
    rw [hz] at k0 k1
    have HZ := Lib.hid hz
    have HM0 := Lib.hid M0
    have HM1 := Lib.hid M1
    have HM2 := Lib.hid M2
    have HBe := Lib.hid hb
    have HLN := Lib.hid hlen
    have HLO := Lib.hid hlo
    have HT := Lib.hid hT0
    have hne : x.id ≠ z.id ∨ x.lab ≠ z.lab → ¬ (pre ++ [x]) <+: q := by
      intro h hp
      have h4 := List.prefix_iff_eq_take.1 hp
      rw [List.length_append, List.length_singleton, take_snoc q HLN.out, HZ.out] at h4
      have h5 := List.append_inj_right h4 (by simp; omega)
      have h6 : x = z := by simpa using h5
      subst h6
      exact h.elim (fun h => h rfl) (fun h => h rfl)
    have HNE := Lib.hid hne
    clear hz M0 M1 M2 hb hlen r1 r2 r3 hx hlo hseq hen hT1 L0 L1 L2 hBe hne
    by_cases hid : x.id = z.id
    · have e1 : (x.id == z.id) = true := by simpa using hid
      have e2 : (x.id != z.id) = false := by simpa using hid
      by_cases hla : x.lab.toList = z.lab.toList
      · have e3 : (x.lab.toList == z.lab.toList) = true := by simpa using hla
        have e4 : (x.lab.toList != z.lab.toList) = false := by simpa using hla
        gi_wp2
        refine wpIn_region_seq [(0, true), (1, true), (2, true), (3, true), (4, true), (5, true), (6, true), (7, true), (8, true), (9, true), (10, true), (11, true), (12, true), (13, true), (14, true), (15, true), (16, true), (17, true), (18, true), (19, true), (20, true), (21, true), (22, true), (23, true), (24, true), (25, true), (26, true), (27, true), (28, true), (29, true)] 30 [] (fun w' => w'.cell? ⟨B + 2, 0, none⟩ = some (.int .i64 pre.length) ∧ w'.cell? ⟨B, 0, none⟩ = some (.pointer (some ⟨m, 0, none⟩)) ∧ w'.cell? ⟨m, 0, none⟩ = some (.slice (some ⟨b, o, none⟩) q.length c) ∧ w'.cell? ⟨m, 1, none⟩ = some (.slice (some ⟨b2, o2, none⟩) q.length c2) ∧ w'.cell? ⟨b, o + pre.length, none⟩ = some (.int .i64 z.id) ∧ w'.cell? ⟨b2, o2 + pre.length, none⟩ = some (.string z.lab) ∧ w'.cell? ⟨D, 0, none⟩ = some (.int .i64 x.id) ∧ w'.cell? ⟨D, 1, none⟩ = some (.string x.lab)) (by kernel_rfl) (by kernel_rfl) ⟨m2, m0, c0, c1, k0, k1, x0, x1⟩ ?_
        simp only [List.map_cons, List.map_nil, List.getElem?_toArray, List.getElem?_cons_zero, List.getElem?_cons_succ]
        repeat (first | (refine si_skip (by rfl) (fun _ => rfl) ?_; try simp only [Act.put, List.setIfInBounds_toArray, List.set_cons_zero, List.set_cons_succ]) | (refine si_take (v := ?_) (by rfl) (fun _ => rfl) ?_ ?_; rotate_left; (focus ((intro w hSw; (try dsimp only at hSw); go_simp; (try with_reducible rfl)); done)); try simp only [Act.put, List.setIfInBounds_toArray, List.set_cons_zero, List.set_cons_succ]))
        refine si_round ?_
        refine si_do (fun K hK => ?_)
        go_simp
        refine hK.out _ _ ?_
        clear hK K
        refine si_done ?_
        gi_wp2
        refine ⟨((KeepsOthers.setCell _ _ _).trans (KeepsOthers.drew _)).from _, ((Kp.refl _ _).set_ ⟨B + 2, 0, none⟩ (.inl (HT.out _ (.inr rfl))) _).drew, ⟨(HM0.out.far (p := ⟨B + 2, 0, none⟩) (by show B ≠ B + 2; omega) _).drew, (HM1.out.far (p := ⟨B + 2, 0, none⟩) (by show B + 1 ≠ B + 2; omega) _).drew, ?_⟩, below_drew_ (HBe.out.setCell (p := ⟨B + 2, 0, none⟩) (by show B ≤ B + 2; omega) _)⟩
        have := HM2.out.set_ 0 (.int .i64 ((pre.length : Int) + 1))
        simpa using this.drew
      · have e3 : (x.lab.toList == z.lab.toList) = false := by simpa using hla
        have e4 : (x.lab.toList != z.lab.toList) = true := by simpa using hla
        gi_wp2
        refine wpIn_region_seq [(0, true), (1, true), (2, true), (3, true), (4, true), (5, true), (6, true), (7, true), (8, true), (9, true), (10, true), (11, true), (12, true), (13, true), (14, true), (15, true), (16, true), (17, true), (18, true), (19, true), (20, true), (21, true), (22, true), (23, true), (24, true), (25, true), (26, true), (27, true), (28, true), (29, true)] 30 [] (fun w' => w'.cell? ⟨B + 2, 0, none⟩ = some (.int .i64 pre.length) ∧ w'.cell? ⟨B, 0, none⟩ = some (.pointer (some ⟨m, 0, none⟩)) ∧ w'.cell? ⟨m, 0, none⟩ = some (.slice (some ⟨b, o, none⟩) q.length c) ∧ w'.cell? ⟨m, 1, none⟩ = some (.slice (some ⟨b2, o2, none⟩) q.length c2) ∧ w'.cell? ⟨b, o + pre.length, none⟩ = some (.int .i64 z.id) ∧ w'.cell? ⟨b2, o2 + pre.length, none⟩ = some (.string z.lab) ∧ w'.cell? ⟨D, 0, none⟩ = some (.int .i64 x.id) ∧ w'.cell? ⟨D, 1, none⟩ = some (.string x.lab)) (by kernel_rfl) (by kernel_rfl) ⟨m2, m0, c0, c1, k0, k1, x0, x1⟩ ?_
        simp only [List.map_cons, List.map_nil, List.getElem?_toArray, List.getElem?_cons_zero, List.getElem?_cons_succ]
        repeat (first | (refine si_skip (by rfl) (fun _ => rfl) ?_; try simp only [Act.put, List.setIfInBounds_toArray, List.set_cons_zero, List.set_cons_succ]) | (refine si_take (v := ?_) (by rfl) (fun _ => rfl) ?_ ?_; rotate_left; (focus ((intro w hSw; (try dsimp only at hSw); go_simp; (try with_reducible rfl)); done)); try simp only [Act.put, List.setIfInBounds_toArray, List.set_cons_zero, List.set_cons_succ]))
        refine si_round ?_
        refine si_do (fun K hK => ?_)
        go_simp
        refine hK.out _ _ ?_
        clear hK K
        refine si_done ?_
        gi_wp2
        exact ⟨((KeepsOthers.setCell _ _ _).trans (KeepsOthers.drew _)).from _, HNE.out (.inr (fun h => hla (congrArg ByteArray.toList h)))⟩
    · have e1 : (x.id == z.id) = false := by simpa using hid
      have e2 : (x.id != z.id) = true := by simpa using hid
      gi_wp2
      refine wpIn_region_seq [(0, true), (1, true), (2, true), (3, true), (4, true), (5, true), (6, true), (7, true), (8, true), (9, true), (10, true), (11, true), (12, true), (13, true), (14, true), (15, true), (16, true), (17, true), (18, true), (19, true), (20, true), (21, true), (22, true), (23, true), (24, true), (25, true), (26, true), (27, true), (28, true), (29, true)] 30 [] (fun w' => w'.cell? ⟨B + 2, 0, none⟩ = some (.int .i64 pre.length) ∧ w'.cell? ⟨B, 0, none⟩ = some (.pointer (some ⟨m, 0, none⟩)) ∧ w'.cell? ⟨m, 0, none⟩ = some (.slice (some ⟨b, o, none⟩) q.length c) ∧ w'.cell? ⟨m, 1, none⟩ = some (.slice (some ⟨b2, o2, none⟩) q.length c2) ∧ w'.cell? ⟨b, o + pre.length, none⟩ = some (.int .i64 z.id) ∧ w'.cell? ⟨b2, o2 + pre.length, none⟩ = some (.string z.lab) ∧ w'.cell? ⟨D, 0, none⟩ = some (.int .i64 x.id) ∧ w'.cell? ⟨D, 1, none⟩ = some (.string x.lab)) (by kernel_rfl) (by kernel_rfl) ⟨m2, m0, c0, c1, k0, k1, x0, x1⟩ ?_
      simp only [List.map_cons, List.map_nil, List.getElem?_toArray, List.getElem?_cons_zero, List.getElem?_cons_succ]
      repeat (first | (refine si_skip (by rfl) (fun _ => rfl) ?_; try simp only [Act.put, List.setIfInBounds_toArray, List.set_cons_zero, List.set_cons_succ]) | (refine si_take (v := ?_) (by rfl) (fun _ => rfl) ?_ ?_; rotate_left; (focus ((intro w hSw; (try dsimp only at hSw); go_simp; (try with_reducible rfl)); done)); try simp only [Act.put, List.setIfInBounds_toArray, List.set_cons_zero, List.set_cons_succ]))
      refine si_round ?_
      refine si_do (fun K hK => ?_)
      go_simp
      refine hK.out _ _ ?_
      clear hK K
      refine si_done ?_
      gi_wp2
      exact ⟨((KeepsOthers.setCell _ _ _).trans (KeepsOthers.drew _)).from _, HNE.out (.inl hid)⟩
  case done =>
    rintro D ys W hD rfl ⟨⟨M0, M1, M2⟩, hb⟩ hK
    obtain ⟨A, c, A2, c2, r1, r2, r3⟩ := HR.out.below (hB.symm ▸ hb)
    have HLW := Lib.hid (HLL.out.below (hB.symm ▸ hb))
    have m0 : W.drew.cell? ⟨B, 0, none⟩ = some (.pointer (some ⟨m, 0, none⟩)) := M0.drew.cell 0
    have m2 : W.drew.cell? ⟨B + 2, 0, none⟩ = some (.int .i64 ys.length) := M2.drew.cell 0
    have c0 : W.drew.cell? ⟨m, 0, none⟩ = some (.slice A ys.length c) := r1.drew.cell 0
    have y1 : W.drew.cell? ⟨B + 1, 0, none⟩ = some (.bool false) := M1.drew.cell 0
    have f1 : W.drew.frozen? ⟨B + 1, 0, none⟩ = false := M1.drew.frozen 0
    have HM1 := Lib.hid M1
    have HBe := Lib.hid hb
    have HLD := Lib.hid (len_any _ l0 ys W.drew (HLW.out.below (below_drew_ (Below.refl _ _))))
    clear M0 M1 M2 hb r1 r2 r3 hseq hen hT0 hT1 L0 L1 L2 hBe
    gi_wp2
    refine wpIn_region_seq [(0, true), (1, true), (2, true), (3, true), (4, true), (5, true), (6, true), (7, true), (8, true), (10, true), (9, false), (11, true), (12, true)] 13 [] (fun w' => w'.cell? ⟨B + 2, 0, none⟩ = some (.int .i64 ys.length) ∧ w'.cell? ⟨B, 0, none⟩ = some (.pointer (some ⟨m, 0, none⟩)) ∧ w'.cell? ⟨m, 0, none⟩ = some (.slice A ys.length c)) (by kernel_rfl) (by kernel_rfl) ⟨m2, m0, c0⟩ ?_
    simp only [List.map_cons, List.map_nil, List.getElem?_toArray, List.getElem?_cons_zero, List.getElem?_cons_succ]
    repeat (first | (refine si_skip (by rfl) (fun _ => rfl) ?_; try simp only [Act.put, List.setIfInBounds_toArray, List.set_cons_zero, List.set_cons_succ]) | (refine si_take (v := ?_) (by rfl) (fun _ => rfl) ?_ ?_; rotate_left; (focus ((intro w hSw; (try dsimp only at hSw); go_simp; (try with_reducible rfl)); done)); try simp only [Act.put, List.setIfInBounds_toArray, List.set_cons_zero, List.set_cons_succ]))
    refine si_mid (fun K hK => ?_)
    go_simp
    refine ⟨trivial, ?_⟩
    gi_at_call 12
    refine (callsIn_wide.2 HLD.out).mono ?_
    rintro e w3 ⟨rfl, rfl⟩
    dsimp only
    refine hK.out _ _ ⟨m2, m0, c0⟩ (fun _ => ?_)
    clear hK K
    repeat (first | (refine si_skip (by rfl) (fun _ => rfl) ?_; try simp only [Act.put, List.setIfInBounds_toArray, List.set_cons_zero, List.set_cons_succ]) | (refine si_take (v := ?_) (by rfl) (fun _ => rfl) ?_ ?_; rotate_left; (focus ((intro w hSw; (try dsimp only at hSw); go_simp; (try with_reducible rfl)); done)); try simp only [Act.put, List.setIfInBounds_toArray, List.set_cons_zero, List.set_cons_succ]))
    refine si_round ?_
    refine si_do (fun K hK => ?_)
    go_simp
    refine hK.out _ _ ?_
    clear hK K
    refine si_done ?_
    gi_wp2
    have hK' : (W.setCell ⟨B + 1, 0, none⟩ (.bool true)).drew.heap[D]? = some (.deferred (some [])) := (KeepsOthers.setCell W ⟨B + 1, 0, none⟩ (.bool true)).same D _ hK rfl
    refine ⟨by simp, .inl ⟨_, _, rfl, run_takeDeferred hK', ?_⟩⟩
    have hc5 := cell_kept (v := .bool true) ((HM1.out.set_ 0 (.bool true)).drew.cell 0) (grownBy_putObj' _ D (.deferred none)) (fun r e => by cases e; exact ⟨_, hK', rfl⟩)
    refine ⟨.bool true, ?_, rfl, by rw [hB]; exact (below_drew_ (HBe.out.setCell (p := ⟨B + 1, 0, none⟩) (by show B ≤ B + 1; omega) _)).trans (belowK_b (w := w2) (by omega) _ D _ _ (by omega) hK' rfl rfl)⟩
    simp [results, Try.results14, go_sem, hc5]
  case stop =>
    rintro D c pre W hD hpre hn hK
    exact absurd hpre hn
end Go.Proofs.Ytlaolclepmbdjaa.It
