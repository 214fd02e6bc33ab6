/- Ask: who heard one node. -/
import Derived.Test.YtofflnklbdhaiaaDoorSr
import Derived.Test.YtofflnklbdhaiaaDoorRb2
import Derived.Test.YtofflnklbdhaiaaDoorMk
namespace Go.Proofs.YtofflnklbdhaiaaDoor.Ak
open Go.RowKit Go.Shelf Go.Proofs.YtofflnklbdhaiaaDoor.Si Go.Proofs.YtofflnklbdhaiaaDoor.Bk Go.Proofs.YtofflnklbdhaiaaDoor.Rw Go.Proofs.YtofflnklbdhaiaaDoor.Ow Go.Proofs.YtofflnklbdhaiaaDoor.Kp Go.Proofs.YtofflnklbdhaiaaDoor.Rb Go.Proofs.YtofflnklbdhaiaaDoor.Bl Go.Proofs.YtofflnklbdhaiaaDoor.Tz Go.Proofs.YtofflnklbdhaiaaDoor.Ea Go.Proofs.YtofflnklbdhaiaaDoor.Lk Go.Proofs.YtofflnklbdhaiaaDoor.Er Go.Proofs.YtofflnklbdhaiaaDoor.Sr
attribute [local go_sem] Oper.semAt_some
theorem keeps_drew (X : World) : KeepsOthers X X.drew := ⟨Nat.le_refl _, fun _ _ h _ => h⟩
/-- Did node i hear f? -/
def hd (es : List (Int × Int)) (f : Int) (i : Nat) : Bool := decide (i < es.length) && decide ((es.getD i (0, 0)).1 = f) && decide ((es.getD i (0, 0)).2 = 1)
def askl (es : List (Int × Int)) (f : Int) (l : List Nat) : Nat := l.foldl (fun o i => if hd es f i then o ||| 2 ^ i else o) 0
theorem askl_snoc (es : List (Int × Int)) (f : Int) (l : List Nat) (i : Nat) : askl es f (l ++ [i]) = if hd es f i then askl es f l ||| 2 ^ i else askl es f l := by simp [askl, List.foldl_append]
theorem askl_bit (es : List (Int × Int)) (f : Int) (j : Nat) (l : List Nat) : (askl es f l).testBit j = (decide (j ∈ l) && hd es f j) := by
  have key : ∀ (l : List Nat) (o : Nat), (l.foldl (fun o i => if hd es f i then o ||| 2 ^ i else o) o).testBit j = (o.testBit j || (decide (j ∈ l) && hd es f j)) := by
    intro l
    induction l with
    | nil => intro o; simp
    | cons i l ih =>
      intro o
      rw [List.foldl_cons, ih]
      by_cases hc : hd es f i = true
      · rw [if_pos hc, Nat.testBit_or, Nat.testBit_two_pow]
        by_cases hj : i = j
        · subst hj
          simp [hc]
        · have hj2 : ¬ j = i := fun h => hj h.symm
          simp [hj, hj2]
      · rw [if_neg hc]
        by_cases hj : j = i
        · subst hj
          have hcf : hd es f j = false := by simpa using hc
          simp [hcf]
        · simp [hj]
  have := key l 0
  rw [Nat.zero_testBit, Bool.false_or] at this
  exact this
theorem askl_lt (es : List (Int × Int)) (f : Int) (l : List Nat) (h : ∀ i ∈ l, i < 64) : askl es f l < 2 ^ 64 := by
  refine Nat.lt_pow_two_of_testBit _ (fun j hj => ?_)
  rw [askl_bit]
  have : ¬ j ∈ l := fun hm => by have := h j hm; omega
  simp [this]
set_option maxRecDepth 100000 in
set_option maxHeartbeats 4000000 in
theorem ask_ok (l : Option Addr) (a : List Nat) (f : Int) (es : List (Int × Int)) (g c : Nat) (w : World) (hL : Lo w l a) (hes : Es w g es) (hT : Tab w) :
    Calls Tryd.prog 9 #[.pointer l, .int .i64 f, .slice (some ⟨g, 0, none⟩) es.length c] w fun e w' => e = .returned (.int .u64 (askl es f (bl (set_ a f)) : Nat)) ∧ Below w.heap.size w w' := by
  refine callsIn_wide (n := 3).1 ?_
  have hfn : Fence.wide.fn 9 := trivial
  have h1 : 1 ≤ 3 := by decide
  refine callsIn_of_wp_marks Tryd.func9 rfl hfn ?_ rfl
  simp only [Tryd.ntmps9, List.size_toArray, List.length_cons, List.length_nil, Nat.reduceAdd, Nat.reduceSub, Array.replicate_succ, Array.replicate_zero, List.push_toArray, List.append_toArray, List.nil_append, List.cons_append]
  obtain ⟨W, hW⟩ : ∃ W, ((w.alloc (.cells #[.int .i64 f] 3)).alloc (.cells #[.slice (some ⟨g, 0, none⟩) es.length c] 30)).alloc (.cells #[.int .u64 0] 23) = W := ⟨_, rfl⟩
  have hb : Below w.heap.size w W := by rw [← hW]; exact (((Below.refl _ w).alloc (by omega) _).alloc (by simp) _).alloc (by simp; omega) _
  have hs3 : w.heap.size + 3 ≤ W.heap.size ∧ W.heap.size ≤ w.heap.size + 3 := by rw [← hW]; simp
  have b0 : Blk W w.heap.size 3 #[.int .i64 f] := by rw [← hW]; exact ((Blk.new w _ _).alloc _).alloc _
  have b1 : Blk W (w.heap.size + 1) 30 #[.slice (some ⟨g, 0, none⟩) es.length c] := by
    have h := Blk.new (w.alloc (.cells #[.int .i64 f] 3)) 30 #[.slice (some ⟨g, 0, none⟩) es.length c]
    rw [World.size_alloc] at h
    rw [← hW]
    exact h.alloc _
  have b2 : Blk W (w.heap.size + 1 + 1) 23 #[.int .u64 0] := by
    have h := Blk.new ((w.alloc (.cells #[.int .i64 f] 3)).alloc (.cells #[.slice (some ⟨g, 0, none⟩) es.length c] 30)) 23 #[.int .u64 0]
    rw [World.size_alloc, World.size_alloc] at h
    rw [← hW]
    exact h
  have hT0 := hT.1
  have HES := Lib.hid hes
  have HT := Lib.hid hT
  have hlW := lo_below hL hb
  have c0 := b0.cell 0
  obtain ⟨x, hx⟩ : ∃ x, set_ a f = x := ⟨_, rfl⟩
  have hx64 : x < 2 ^ 64 := by rw [← hx]; exact set_lt hL f
  have CN := Lib.hid (show Calls Tryd.prog 18 #[.pointer l, .int .i64 f] W fun e w' => e = .returned (.int .u64 (x : Nat)) ∧ W = w' by rw [← hx]; exact near_any l a f W hlW)
  have CE := Lib.hid (each_ok x W)
  have HX := Lib.hid hx64
  rw [hx]
  have HW := Lib.hid hW
  rw [← hW] at CN CE c0
  clear hx hW hL hes hT hlW hx64
  gi_wp2_with (first
    | (refine ⟨trivial, ?_⟩; gi_at_call 18; refine (callsIn_wide.2 CN.out).mono ?_; rintro e w1 ⟨rfl, rfl⟩)
    | (refine ⟨trivial, ?_⟩; gi_at_call 19; refine (callsIn_wide.2 CE.out).mono ?_; rintro e w1 ⟨rfl, rfl⟩))
  rw [HW.out]
  obtain ⟨V, hV⟩ : ∃ V, W.alloc (.cells #[.int .u64 (x : Int)] 23) = V := ⟨_, rfl⟩
  have hWs : W.heap.size = w.heap.size + 1 + 1 + 1 := by omega
  have hs4 : w.heap.size + 4 ≤ V.heap.size ∧ V.heap.size ≤ w.heap.size + 4 := by rw [← hV]; simp; omega
  have x0 : Blk V w.heap.size 3 #[.int .i64 f] := by rw [← hV]; exact b0.alloc _
  have x1 : Blk V (w.heap.size + 1) 30 #[.slice (some ⟨g, 0, none⟩) es.length c] := by rw [← hV]; exact b1.alloc _
  have x2 : Blk V (w.heap.size + 1 + 1) 23 #[.int .u64 0] := by rw [← hV]; exact b2.alloc _
  have x3 : Blk V (w.heap.size + 1 + 1 + 1) 23 #[.int .u64 (x : Int)] := by
    have h := Blk.new W 23 #[.int .u64 (x : Int)]
    rw [hWs, hV] at h
    exact h
  have xb : Below w.heap.size w V := by rw [← hV]; exact hb.alloc (by omega) _
  have xT : Tab V := HT.out.below xb hT0
  rw [hV]
  clear hV HW hWs b0 b1 b2 hb c0 CN CE
  have hsq := each_seq 2 (by decide) (w.heap.size + 1 + 1 + 1) x (fun k => k = w.heap.size + 1 + 1 ∨ V.heap.size ≤ k) V HX.out x3 (by omega) xT (by omega) (by omega)
  refine wpIn_range_box rfl h1 (gf := 24) (lb := #[.pointer (some ⟨w.heap.size + 1 + 1 + 1, 0, none⟩)]) rfl trivial (enters_of Tryd.func24 (by kernel_rfl) rfl) hsq (by omega) (fun k hk => .inr hk) (fun _ => rfl)
    (fun pre W' => (Blk W' w.heap.size 3 #[.int .i64 f] ∧ Blk W' (w.heap.size + 1) 30 #[.slice (some ⟨g, 0, none⟩) es.length c] ∧ Blk W' (w.heap.size + 1 + 1) 23 #[.int .u64 (askl es f pre : Nat)]) ∧ Below w.heap.size w W')
    (fun _ _ _ => False)
    (Ab.and (Ab.and (ab_blk (by omega)) (Ab.and (ab_blk (by omega)) (ab_blk (by omega)))) (ab_below (by omega) (by omega) (by omega) _))
    (fun c => ab_pure _ _)
    ⟨⟨x0, x1, x2⟩, xb⟩
    (fun i a' (_ : World) => a' = { tmps := #[.pointer l, .int .i64 f, .slice (some ⟨g, 0, none⟩) es.length c, undef, .pointer (some ⟨w.heap.size, 0, none⟩), .pointer (some ⟨w.heap.size + 1, 0, none⟩), .int .u64 0, .pointer (some ⟨w.heap.size + 1 + 1, 0, none⟩), .int .i64 (i : Nat), .pointer l, .int .i64 f, .int .u64 (x : Int), .func (.func 24) #[] #[.pointer (some ⟨w.heap.size + 1 + 1 + 1, 0, none⟩)], .int .i64 (i : Nat), undef, undef, undef, undef, undef, undef, undef, undef, undef, undef, undef, undef, undef, undef, undef, undef, undef, undef], defers := [] })
    (fun _ _ => ab_pure _ _) ?assign ?body ?done ?stop
  case stop =>
    intro D c' pre W' _ _ hf
    exact hf.elim
  case assign =>
    intro l' pre i W' K hI' hK
    have HI' := Lib.hid hI'
    have HK := Lib.hid hK
    clear hI' hK
    gi_wp2
    exact HK.out _ _ (KeepsFrom.refl _ _) (Kp.refl _ _) HI'.out rfl
  case done =>
    rintro D W' hD ⟨⟨e0, e1, e2⟩, eb⟩ hK
    have m2 := e2.cell 0
    have EB := Lib.hid eb
    clear e0 e1 e2 eb x0 x1 x2 x3 xb xT hsq
    gi_wp2
    refine ⟨by simp, .inl ⟨_, _, rfl, run_takeDeferred hK, ?_⟩⟩
    have hkD := (Kp.refl (fun k => k = D) W').grown (grownBy_putObj' W' D (.deferred none)) (fun q e => by cases e; exact .inl rfl)
    exact ⟨_, results_tmp rfl _ _ _, rfl, below_kp EB.out EB.out.size hkD (fun k hk => by omega)⟩
  case body =>
    rintro l' pre i a' W' hl ⟨⟨e0, e1, e2⟩, eb⟩ rfl hpre
    have hi64 : i < 64 := (bl_mem.1 (hpre.subset (by simp) : i ∈ bl x)).1
    have hal : askl es f pre < 2 ^ 64 := askl_lt es f pre (fun j hj => (bl_mem.1 (hpre.subset (List.mem_append_left _ hj))).1)
    have s0 : W'.drew.cell? ⟨w.heap.size, 0, none⟩ = some (.int .i64 f) := e0.drew.cell 0
    have s1 : W'.drew.cell? ⟨w.heap.size + 1, 0, none⟩ = some (.slice (some ⟨g, 0, none⟩) es.length c) := e1.drew.cell 0
    have E0 := Lib.hid e0
    have E1 := Lib.hid e1
    have E2 := Lib.hid e2
    have EB := Lib.hid eb
    have HEW := HES.out.below eb HES.out.1
    have HSN := Lib.hid (askl_snoc es f pre i)
    have HHD := Lib.hid (show hd es f i = (decide (i < es.length) && decide ((es.getD i (0, 0)).1 = f) && decide ((es.getD i (0, 0)).2 = 1)) from rfl)
    generalize hq : askl es f pre = q at e2 E2 hal HSN
    have s2 : W'.drew.drew.cell? ⟨w.heap.size + 1 + 1, 0, none⟩ = some (.int .u64 (q : Int)) := e2.drew.drew.cell 0
    have fr2 : W'.drew.drew.frozen? ⟨w.heap.size + 1 + 1, 0, none⟩ = false := e2.drew.drew.frozen 0
    by_cases hil : i < es.length
    · have n1 : (i : Int) < (es.length : Int) := by omega
      have d1 : decide ((i : Int) < (es.length : Int)) = true := by simpa using n1
      obtain ⟨p1, p2⟩ := HEW.2 i hil
      have p1 : W'.drew.cell? ⟨g, i * 2, none⟩ = some (.int .i64 (es.getD i (0, 0)).1) := p1
      have p2 : W'.drew.cell? ⟨g, i * 2 + 1, none⟩ = some (.int .i64 (es.getD i (0, 0)).2) := p2
      generalize (es.getD i (0, 0)).1 = u at p1 HHD
      generalize (es.getD i (0, 0)).2 = v at p2 HHD
      clear e0 e1 e2 eb x0 x1 x2 x3 xb xT hsq HEW hq hpre
      by_cases hu : u = f
      · subst hu
        have q0 : (u == u) = true := by simp
        by_cases hv : v = 1
        · subst hv
          have hdf : hd es u i = true := by rw [HHD.out]; simp [hil]
          have HQ := Lib.hid (show askl es u (pre ++ [i]) = q ||| 2 ^ i by rw [HSN.out, if_pos hdf])
          have h2i : 2 ^ i < 2 ^ 64 := Nat.pow_lt_pow_right (by decide) hi64
          have hP : IntKind.u64.wrap ((2 : Int) ^ i) = ((2 ^ i : Nat) : Int) := by
            have e : ((2 : Int) ^ i) = ((2 ^ i : Nat) : Int) := by simp
            rw [IntKind.wrap_u64, e]
            generalize 2 ^ i = m at h2i ⊢
            omega
          obtain ⟨P, hPP⟩ : ∃ P, 2 ^ i = P := ⟨_, rfl⟩
          rw [hPP] at hP HQ h2i
          have hor : bits BinOp.or IntKind.u64 (q : Int) (P : Int) = ((q ||| P : Nat) : Int) := bits_or_u64_nat _ _ hal h2i
          have i0 : ¬ ((i : Int) < 0) := by omega
          clear hPP hdf
          gi_wp2
          refine wpIn_region_seq [(0, true), (1, true), (2, true), (3, true), (4, true), (5, true), (6, true), (7, true), (8, true), (9, true), (10, true), (11, true)] 12 [] (fun w' => w'.cell? ⟨w.heap.size, 0, none⟩ = some (.int .i64 u) ∧ w'.cell? ⟨w.heap.size + 1, 0, none⟩ = some (.slice (some ⟨g, 0, none⟩) es.length c) ∧ w'.cell? ⟨g, i * 2, none⟩ = some (.int .i64 u) ∧ w'.cell? ⟨g, i * 2 + 1, none⟩ = some (.int .i64 1)) (by kernel_rfl) (by kernel_rfl) ⟨s0, s1, p1, p2⟩ ?_
          simp only [List.map_cons, List.map_nil, List.getElem?_toArray, List.getElem?_cons_zero, List.getElem?_cons_succ]
          repeat (first | (refine si_skip (by rfl) (fun _ => rfl) ?_; try simp only [Act.put, List.setIfInBounds_toArray, List.set_cons_zero, List.set_cons_succ]) | (refine si_take (v := ?_) (by rfl) (fun _ => rfl) ?_ ?_; rotate_left; (focus ((intro w hSw; (try dsimp only at hSw); go_simp; (try with_reducible rfl)); done)); try simp only [Act.put, List.setIfInBounds_toArray, List.set_cons_zero, List.set_cons_succ]))
          refine si_round ?_
          refine si_do (fun K hK => ?_)
          go_simp
          refine hK.out _ _ ?_
          clear hK K
          refine si_done ?_
          gi_wp2
          refine wpIn_region_seq [(0, true), (1, true), (2, true), (3, true)] 4 [] (fun w' => w'.cell? ⟨w.heap.size + 1 + 1, 0, none⟩ = some (.int .u64 (q : Int))) (by kernel_rfl) (by kernel_rfl) s2 ?_
          simp only [List.map_cons, List.map_nil, List.getElem?_toArray, List.getElem?_cons_zero, List.getElem?_cons_succ]
          repeat (first | (refine si_skip (by rfl) (fun _ => rfl) ?_; try simp only [Act.put, List.setIfInBounds_toArray, List.set_cons_zero, List.set_cons_succ]) | (refine si_take (v := ?_) (by rfl) (fun _ => rfl) ?_ ?_; rotate_left; (focus ((intro w hSw; (try dsimp only at hSw); go_simp; (try with_reducible rfl)); done)); try simp only [Act.put, List.setIfInBounds_toArray, List.set_cons_zero, List.set_cons_succ]))
          refine si_round ?_
          refine si_do (fun K hK => ?_)
          go_simp
          refine hK.out _ _ ?_
          clear hK K
          refine si_done ?_
          gi_wp2
          have hkf := ((KeepsOthers.setCell W' ⟨w.heap.size + 1 + 1, 0, none⟩ (.int .u64 ((q ||| P : Nat) : Int))).trans (keeps_drew _)).trans (keeps_drew _)
          exact ⟨hkf.from _, ((Kp.refl _ W').set_ ⟨w.heap.size + 1 + 1, 0, none⟩ (.inl (.inl rfl)) _).drew.drew, ⟨(E0.out.far (p := ⟨w.heap.size + 1 + 1, 0, none⟩) (by show w.heap.size ≠ w.heap.size + 1 + 1; omega) _).drew.drew, (E1.out.far (p := ⟨w.heap.size + 1 + 1, 0, none⟩) (by show w.heap.size + 1 ≠ w.heap.size + 1 + 1; omega) _).drew.drew, by rw [HQ.out]; exact (E2.out.set_ 0 _).drew.drew⟩, (EB.out.setCell (p := ⟨w.heap.size + 1 + 1, 0, none⟩) (by show w.heap.size ≤ w.heap.size + 1 + 1; omega) _).drew.drew⟩
        · have hdf : hd es u i = false := by rw [HHD.out]; simp [hv]
          have q1 : (v == 1) = false := by simpa using hv
          have HQ := Lib.hid (show askl es u (pre ++ [i]) = q by rw [HSN.out, if_neg (by rw [hdf]; decide)])
          gi_wp2
          refine wpIn_region_seq [(0, true), (1, true), (2, true), (3, true), (4, true), (5, true), (6, true), (7, true), (8, true), (9, true), (10, true), (11, true)] 12 [] (fun w' => w'.cell? ⟨w.heap.size, 0, none⟩ = some (.int .i64 u) ∧ w'.cell? ⟨w.heap.size + 1, 0, none⟩ = some (.slice (some ⟨g, 0, none⟩) es.length c) ∧ w'.cell? ⟨g, i * 2, none⟩ = some (.int .i64 u) ∧ w'.cell? ⟨g, i * 2 + 1, none⟩ = some (.int .i64 v)) (by kernel_rfl) (by kernel_rfl) ⟨s0, s1, p1, p2⟩ ?_
          simp only [List.map_cons, List.map_nil, List.getElem?_toArray, List.getElem?_cons_zero, List.getElem?_cons_succ]
          repeat (first | (refine si_skip (by rfl) (fun _ => rfl) ?_; try simp only [Act.put, List.setIfInBounds_toArray, List.set_cons_zero, List.set_cons_succ]) | (refine si_take (v := ?_) (by rfl) (fun _ => rfl) ?_ ?_; rotate_left; (focus ((intro w hSw; (try dsimp only at hSw); go_simp; (try with_reducible rfl)); done)); try simp only [Act.put, List.setIfInBounds_toArray, List.set_cons_zero, List.set_cons_succ]))
          refine si_round ?_
          refine si_do (fun K hK => ?_)
          go_simp
          refine hK.out _ _ ?_
          clear hK K
          refine si_done ?_
          gi_wp2
          exact ⟨(keeps_drew W').from _, (Kp.refl _ W').drew, ⟨E0.out.drew, E1.out.drew, by rw [HQ.out]; exact E2.out.drew⟩, EB.out.drew⟩
      · have hdf : hd es f i = false := by rw [HHD.out]; simp [hu]
        have q0 : (u == f) = false := by simpa using hu
        have HQ := Lib.hid (show askl es f (pre ++ [i]) = q by rw [HSN.out, if_neg (by rw [hdf]; decide)])
        gi_wp2
        refine wpIn_region_seq [(0, true), (1, true), (2, true), (3, true), (4, true), (5, true), (6, true), (7, true), (8, true), (9, true), (10, true), (11, true)] 12 [] (fun w' => w'.cell? ⟨w.heap.size, 0, none⟩ = some (.int .i64 f) ∧ w'.cell? ⟨w.heap.size + 1, 0, none⟩ = some (.slice (some ⟨g, 0, none⟩) es.length c) ∧ w'.cell? ⟨g, i * 2, none⟩ = some (.int .i64 u) ∧ w'.cell? ⟨g, i * 2 + 1, none⟩ = some (.int .i64 v)) (by kernel_rfl) (by kernel_rfl) ⟨s0, s1, p1, p2⟩ ?_
        simp only [List.map_cons, List.map_nil, List.getElem?_toArray, List.getElem?_cons_zero, List.getElem?_cons_succ]
        repeat (first | (refine si_skip (by rfl) (fun _ => rfl) ?_; try simp only [Act.put, List.setIfInBounds_toArray, List.set_cons_zero, List.set_cons_succ]) | (refine si_take (v := ?_) (by rfl) (fun _ => rfl) ?_ ?_; rotate_left; (focus ((intro w hSw; (try dsimp only at hSw); go_simp; (try with_reducible rfl)); done)); try simp only [Act.put, List.setIfInBounds_toArray, List.set_cons_zero, List.set_cons_succ]))
        refine si_round ?_
        refine si_do (fun K hK => ?_)
        go_simp
        refine hK.out _ _ ?_
        clear hK K
        refine si_done ?_
        gi_wp2
        exact ⟨(keeps_drew W').from _, (Kp.refl _ W').drew, ⟨E0.out.drew, E1.out.drew, by rw [HQ.out]; exact E2.out.drew⟩, EB.out.drew⟩
    · have n1 : ¬ (i : Int) < (es.length : Int) := by omega
      have d1 : decide ((i : Int) < (es.length : Int)) = false := by simpa using n1
      have hdf : hd es f i = false := by rw [HHD.out]; simp [hil]
      have HQ := Lib.hid (show askl es f (pre ++ [i]) = q by rw [HSN.out, if_neg (by rw [hdf]; decide)])
      clear e0 e1 e2 eb x0 x1 x2 x3 xb xT hsq HEW hq hpre
      gi_wp2
      refine wpIn_region_seq [(0, true), (1, true), (2, true), (3, true), (4, true), (5, true), (6, true), (7, true), (8, true), (9, true), (10, true), (11, true)] 12 [] (fun w' => w'.cell? ⟨w.heap.size, 0, none⟩ = some (.int .i64 f) ∧ w'.cell? ⟨w.heap.size + 1, 0, none⟩ = some (.slice (some ⟨g, 0, none⟩) es.length c)) (by kernel_rfl) (by kernel_rfl) ⟨s0, s1⟩ ?_
      simp only [List.map_cons, List.map_nil, List.getElem?_toArray, List.getElem?_cons_zero, List.getElem?_cons_succ]
      repeat (first | (refine si_skip (by rfl) (fun _ => rfl) ?_; try simp only [Act.put, List.setIfInBounds_toArray, List.set_cons_zero, List.set_cons_succ]) | (refine si_take (v := ?_) (by rfl) (fun _ => rfl) ?_ ?_; rotate_left; (focus ((intro w hSw; (try dsimp only at hSw); go_simp; (try with_reducible rfl)); done)); try simp only [Act.put, List.setIfInBounds_toArray, List.set_cons_zero, List.set_cons_succ]))
      refine si_round ?_
      refine si_do (fun K hK => ?_)
      go_simp
      refine hK.out _ _ ?_
      clear hK K
      refine si_done ?_
      gi_wp2
      exact ⟨(keeps_drew W').from _, (Kp.refl _ W').drew, ⟨E0.out.drew, E1.out.drew, by rw [HQ.out]; exact E2.out.drew⟩, EB.out.drew⟩
end Go.Proofs.YtofflnklbdhaiaaDoor.Ak
