/- numbers: the bits that Each goes over, up to so many. -/
import Derived.Test.YtfmkamkbbeahgaaDoorEa
namespace Go.Proofs.YtfmkamkbbeahgaaDoor.Nu
open Go.RowKit Go.Shelf Go.Proofs.YtfmkamkbbeahgaaDoor.Bk Go.Proofs.YtfmkamkbbeahgaaDoor.Rw Go.Proofs.YtfmkamkbbeahgaaDoor.Ow Go.Proofs.YtfmkamkbbeahgaaDoor.Kp Go.Proofs.YtfmkamkbbeahgaaDoor.Rb Go.Proofs.YtfmkamkbbeahgaaDoor.Bl Go.Proofs.YtfmkamkbbeahgaaDoor.Tz Go.Proofs.YtfmkamkbbeahgaaDoor.Ea
attribute [local go_sem] Oper.semAt_some

abbrev ints (l : List Nat) : List Int := l.map fun i : Nat => (i : Int)
theorem ab_out {β : Type} {Bn B b base : Nat} {f : β → List Int} (hb : b ≠ Bn) (hn : Bn < base) : Ab Bn B Cl (fun s W => ∃ v, Blk W b 24 #[v] ∧ Oi .i64 3 W base v (f s)) := by
  rintro s W W' row ⟨v, h1, h2⟩ hg hr
  have key : ∀ q t cs, q ≠ Bn → Blk W q t cs → some q ≠ row := fun q t cs hq hB e => by
    rcases hr q e.symm with h | ⟨_, x, hx, hc⟩
    · exact hq h
    · have hx := hx.symm.trans (show W.heap[q]? = _ from hB)
      injection hx with hx
      subst hx
      cases hc
  refine ⟨v, h1.grown hg (key _ _ _ hb h1), ?_⟩
  refine World.ownsRow.kept h2 hg ?_
  rcases h2.2 with ⟨rfl, _⟩ | ⟨q, c, cur, rfl, hq, hgg, _⟩
  · exact .inl rfl
  · exact .inr (key q _ cur (by omega) hgg)
/-- append(v, y) onto a row of the call's own, within a fence. -/
theorem wpi_push {F : Fence} {n : Nat} {P : Program} {ops : Array Oper} {rest : List Oper} {o : Oper} {a : Act} {Q : Exit → Act → World → Prop} (e : TypeId) (w : World) (base : Nat) (z : Value) (hgd : o.guard = none) (s x : Operand) (t : TypeId)
    (ho : o.op = .call { callee := .builtin .append, args := #[s, x], argTypes := #[t, t] }) (ht : P.underlying t = some (.slice e)) (hinfo : (P.info? e).map (fun i => (i.zero, i.size, i.bytes)) = some (some z, 1, 8)) (hz : z.cells.size = 1)
    (v : Value) (l : List Int) (hs : a.eval s = v) (hown : Oi .i64 e w base v l) (b c : Nat) (y : Int) (hx : a.eval x = .slice (some ⟨b, 0, none⟩) 1 c) (hc : w.cell? ⟨b, 0, none⟩ = some (.int .i64 y)) (hlen : l.length ≤ 1000) (hbase : base ≤ w.heap.size)
    (h : ∀ v' w', Oi .i64 e w' base v' (l ++ [y]) → w.grownBy w' v.ownBlock → wpListIn F n P ops Q rest (a.put o.dst v') w') : wpListIn F n P ops Q (o :: rest) a w := by
  obtain ⟨i0, hi, hzz⟩ := Option.map_eq_some_iff.1 hinfo
  simp only [Prod.mk.injEq] at hzz
  obtain ⟨hz0, hz1, hz2⟩ := hzz
  refine wpListIn_append_own w hgd s x t ho base e i0 z 1 8 ht hi hz0 hz1 hz2 hz (by decide) v l.length (l.map (Value.int .i64)) hs hown ⟨b, 0, none⟩ 1 c [.int .i64 y] hx rfl ?_ ?_ (by unfold maxLen; omega) (by omega) hbase ?_
  · intro j u hu
    rcases j with _ | j
    · simp only [List.getElem?_cons_zero, Option.some.injEq] at hu
      subst hu
      exact hc
    · simp at hu
  · intro u hu
    rw [List.mem_singleton.1 hu]
    rfl
  · intro v' w' h1 h2 _
    refine h v' w' ?_ h2
    unfold Oi
    rw [List.map_append, List.length_append]
    exact h1
theorem oi_put {W : World} {base D : Nat} {v : Value} {l : List Int} {o o' : Obj} (h : Oi .i64 3 W base v l) (hD : W.heap[D]? = some o) (ho : o.isCells = false) : Oi .i64 3 (W.putObj D o') base v l := by
  refine World.ownsRow.kept h (grownBy_putObj' W D o') ?_
  rcases h.2 with ⟨rfl, _⟩ | ⟨q, c, cur, rfl, hq, hgg, _⟩
  · exact .inl rfl
  · refine .inr fun e => ?_
    injection e with e
    have e : q = D := e
    subst e
    have := hD.symm.trans hgg
    injection this with this
    subst this
    cases ho
theorem pre_w (x : Nat) (most : Int) (w : World) : Below w.heap.size w (((w.alloc (.cells #[.int .i64 most] 3)).alloc (.cells #[.slice none 0 0] 24)).alloc (.cells #[.int .u64 x] 22)) ∧
    Blk (((w.alloc (.cells #[.int .i64 most] 3)).alloc (.cells #[.slice none 0 0] 24)).alloc (.cells #[.int .u64 x] 22)) w.heap.size 3 #[.int .i64 most] ∧
    Blk (((w.alloc (.cells #[.int .i64 most] 3)).alloc (.cells #[.slice none 0 0] 24)).alloc (.cells #[.int .u64 x] 22)) (w.heap.size + 1) 24 #[.slice none 0 0] ∧
    Blk (((w.alloc (.cells #[.int .i64 most] 3)).alloc (.cells #[.slice none 0 0] 24)).alloc (.cells #[.int .u64 x] 22)) (w.heap.size + 2) 22 #[.int .u64 x] ∧
    (((w.alloc (.cells #[.int .i64 most] 3)).alloc (.cells #[.slice none 0 0] 24)).alloc (.cells #[.int .u64 x] 22)).heap.size = w.heap.size + 3 := by
  refine ⟨(((Below.refl _ w).alloc (by omega) _).alloc (by simp) _).alloc (by simp; omega) _, ((Blk.new w _ _).alloc _).alloc _, ?_, ?_, by simp⟩
  · have h := Blk.new (w.alloc (.cells #[.int .i64 most] 3)) 24 #[.slice none 0 0]
    rw [World.size_alloc] at h
    exact h.alloc _
  · have h := Blk.new ((w.alloc (.cells #[.int .i64 most] 3)).alloc (.cells #[.slice none 0 0] 24)) 22 #[.int .u64 x]
    rw [World.size_alloc, World.size_alloc] at h
    exact h
set_option maxRecDepth 100000 in
set_option maxHeartbeats 2000000 in
theorem numbers_ok (x : Nat) (most : Int) (w : World) (hx : x < 2 ^ 64) (hT : Tab w) :
    Calls Tryd.prog 10 #[.int .u64 x, .int .i64 most] w fun e w' => (∃ v, e = .returned v ∧ Oi .i64 3 w' w.heap.size v (ints ((bl x).take most.toNat))) ∧ Below w.heap.size w w' := by
  refine callsIn_wide (n := 3).1 ?_
  have hfn : Fence.wide.fn 10 := trivial
  have h1 : 1 ≤ 3 := by decide
  refine callsIn_of_wp_marks Tryd.func10 rfl hfn ?_ rfl
  simp only [Tryd.ntmps10, List.size_toArray, List.length_cons, List.length_nil, Nat.reduceAdd, Nat.reduceSub, Array.replicate_succ, Array.replicate_zero, List.push_toArray, List.append_toArray, List.nil_append, List.cons_append]
  have HT := Lib.hid hT
  have HP := Lib.hid (pre_w x most w)
  clear hT
  gi_wp2_with (refine ⟨trivial, ?_⟩; gi_at_call 24; refine (callsIn_wide.2 (each_ok x _)).mono ?_; rintro e w1 ⟨rfl, rfl⟩)
  obtain ⟨p1, p2, p3, p4, p5⟩ := HP.out
  have hT1 : Tab (((w.alloc (.cells #[.int .i64 most] 3)).alloc (.cells #[.slice none 0 0] 24)).alloc (.cells #[.int .u64 x] 22)) := HT.out.below p1 HT.out.1
  have h0w : 0 < w.heap.size := HT.out.1
  generalize ((w.alloc (.cells #[.int .i64 most] 3)).alloc (.cells #[.slice none 0 0] 24)).alloc (.cells #[.int .u64 x] 22) = w1 at p1 p2 p3 p4 p5 hT1 HP ⊢
  generalize hB : w.heap.size = B at *
  have hsq := each_seq 2 (by decide) (B + 2) x (fun k => k = B + 1 ∨ B + 3 ≤ k) w1 hx p4 (by omega) hT1 (by omega) (by omega)
  clear HP hT1
  refine wpIn_range_box rfl h1 (gf := 27) (lb := #[.pointer (some ⟨B + 2, 0, none⟩)]) rfl trivial (enters_of Tryd.func27 (by kernel_rfl) rfl) hsq (by omega) (fun k hk => by omega) (fun _ => rfl)
    (fun pre W => ((∃ v, Blk W (B + 1) 24 #[v] ∧ Oi .i64 3 W (B + 3) v (ints pre)) ∧ Blk W B 3 #[.int .i64 most] ∧ Below B w1 W) ∧ pre.length ≤ most.toNat)
    (fun c ys W => ((∃ v, Blk W (B + 1) 24 #[v] ∧ Oi .i64 3 W (B + 3) v (ints (ys.take most.toNat))) ∧ Below B w1 W) ∧ c = .exit 0 ∧ most.toNat < ys.length)
    (Ab.and (Ab.and (ab_out (by omega) (by omega)) (Ab.and (ab_blk (by omega)) (ab_below (by omega) (by omega) (by omega) _))) (ab_pure _ _))
    (fun c => Ab.and (Ab.and (ab_out (by omega) (by omega)) (ab_below (by omega) (by omega) (by omega) _)) (ab_pure _ _))
    ⟨⟨⟨_, p3, Oi.nil _ _ _ _⟩, p2, Below.refl _ _⟩, Nat.zero_le _⟩
    (fun i a' (_ : World) => a' = { tmps := #[.int .u64 x, .int .i64 most, undef, .pointer (some ⟨B, 0, none⟩), .slice none 0 0, .pointer (some ⟨B + 1, 0, none⟩), .int .i64 i, .int .u64 x, .func (.func 27) #[] #[.pointer (some ⟨B + 2, 0, none⟩)], .int .i64 i, undef, undef, undef, undef, undef, undef, undef, undef, undef], defers := [] })
    (fun _ _ => ab_pure _ _) ?assign ?body ?done ?stop
  case assign =>
    intro l pre i W K hI hK
    have HI := Lib.hid hI
    have HK := Lib.hid hK
    clear hI hK
    gi_wp2
    exact HK.out _ _ (KeepsFrom.refl _ _) (Kp.refl _ _) HI.out rfl
  case body =>
    rintro l pre i a' W hl ⟨⟨⟨v, hv, ho⟩, hm, hb⟩, hlen⟩ rfl hpre
    have hp64 := hpre.length_le
    have h64 := bl_length x
    rw [List.length_append, List.length_singleton] at hp64
    obtain ⟨A, c, rfl, _, _⟩ := ho.ri
    have hil : (ints pre).length = pre.length := by simp
    rw [hil] at hv ho
    have m0 := hm.cell 0
    have m1 := hv.cell 0
    have f1 := hv.frozen 0
    have HV := Lib.hid hv
    have HO := Lib.hid ho
    have HM := Lib.hid hm
    have HBe := Lib.hid hb
    have HL := Lib.hid hl
    clear hv hm hb p2 p3 p4
    by_cases hge : most ≤ (pre.length : Int)
    · have hmt : most.toNat = pre.length := by omega
      have HMT := Lib.hid hmt
      clear hmt
      gi_wp2
      refine ⟨KeepsFrom.refl _ _, ⟨⟨_, HV.out, ?_⟩, HBe.out⟩, rfl, ?_⟩
      · rw [HMT.out, List.take_left' rfl]
        exact HO.out
      · rw [HMT.out]
        simp
    · have hlt : pre.length < most.toNat := by omega
      have HO2 := Lib.hid (HO.out.alloc (.cells #[.int .i64 i] 3))
      have HW := Lib.hid (HBe.out.size)
      have hs3 : B + 3 ≤ W.heap.size := by have := HBe.out.size; omega
      gi_wp2_with (gi_at_builtin; refine wpi_push 3 _ (B + 3) (.int .i64 0) rfl _ _ 24 rfl Tryd.underlying24 (by kernel_rfl) rfl _ (ints pre) rfl HO2.out _ _ (i : Int) rfl ((Blk.new W 3 #[.int .i64 i]).cell 0) ?_ ?_ ?_)
      · omega
      · omega
      intro v' w' ho' hg'
      obtain ⟨A', c', rfl, _, _⟩ := ho'.ri
      have hown : ∀ q, (Value.slice A pre.length c).ownBlock = some q → B + 3 ≤ q ∧ q < W.heap.size := HO.out.owner
      have hk : Kp (fun k => k = B + 1 ∨ B + 3 ≤ k) W w' := ((Kp.refl _ W).alloc _).grown hg' (fun q hq => .inl (.inr (hown q hq).1))
      have hv2 := blk_kp HV.out (((Kp.refl (fun k => B + 3 ≤ k) W).alloc (.cells #[.int .i64 i] 3)).grown hg' (fun q hq => .inl (hown q hq).1)) (by omega)
      have hm2 := blk_kp HM.out hk (by omega)
      have m3 := hv2.cell 0
      have f3 := hv2.frozen 0
      have HV2 := Lib.hid hv2
      have HM2 := Lib.hid hm2
      have HK2 := Lib.hid hk
      have HO3 := Lib.hid ho'
      have HG := Lib.hid hg'
      have HB2 := Lib.hid (below_kp HBe.out (Nat.le_trans (by omega) HBe.out.size) hk (fun k hk => by omega))
      have HOW := Lib.hid ho.2
      clear hg' ho' hk hv2 hm2 hown
      gi_wp2
      have hown2 : ∀ q, (Value.slice A pre.length c).ownBlock = some q → B + 3 ≤ q ∧ q < W.heap.size := HO.out.owner
      have hcell : ∀ (j : Nat) (o : Obj), (Value.slice A pre.length c).ownBlock = some j → (W.alloc (.cells #[.int .i64 i] 3)).heap[j]? = some o → o.isCells = true := by
        intro j o hj ho3
        rcases HO2.out.2 with ⟨h, _⟩ | ⟨q, c, cur, h, hq, hgg, _⟩
        · rw [h] at hj
          cases hj
        · rw [h] at hj
          injection hj with hj
          subst hj
          have := ho3.symm.trans hgg
          injection this with this
          rw [this]
          rfl
      refine ⟨((KeepsOthers.alloc W _).trans ((KeepsOthers.of_grownBy HG.out hcell).trans (KeepsOthers.setCell _ _ _))).from _, HK2.out.set_ ⟨B + 1, 0, none⟩ (.inl (.inl rfl)) _, ⟨⟨⟨_, HV2.out.set_ 0 _, ?_⟩, HM2.out.far (p := ⟨B + 1, 0, none⟩) (by show B ≠ B + 1; omega) _, HB2.out.setCell (p := ⟨B + 1, 0, none⟩) (by show B ≤ B + 1; omega) _⟩, by rw [List.length_append, List.length_singleton]; omega⟩⟩
      have := oi_kp HO3.out ((Kp.refl (fun k => k = B + 1) w').set_ ⟨B + 1, 0, none⟩ (.inl rfl) (.slice A' (ints pre ++ [(i : Int)]).length c')) (fun q hq e => by have := (HO3.out.owner q hq).1; omega)
      simpa [ints] using this
  case done =>
    rintro D W hD ⟨⟨⟨v, hv, ho⟩, hm, hb⟩, hlen⟩ hK
    have m1 := hv.cell 0
    have HO := Lib.hid (show Oi .i64 3 W (B + 3) v (ints ((bl x).take most.toNat)) by rw [List.take_of_length_le hlen]; exact ho)
    have HBe := Lib.hid hb
    clear hv ho hm hb p2 p3 p4 hlen
    gi_wp2
    refine ⟨by simp, .inl ⟨_, _, rfl, run_takeDeferred hK, ?_⟩⟩
    exact ⟨_, results_tmp rfl _ _ _, ⟨v, rfl, by rw [hB]; exact (oi_put HO.out hK rfl).lower (by omega)⟩, by rw [hB]; exact p1.trans (HBe.out.trans (belowK_b (w := w1) (by omega) _ D _ _ (by omega) hK rfl rfl))⟩
  case stop =>
    rintro D c pre W hD hpre ⟨⟨⟨v, hv, ho⟩, hb⟩, rfl, hlen⟩ hK
    have m1 := hv.cell 0
    have htk : pre.take most.toNat = (bl x).take most.toNat := by
      rw [List.prefix_iff_eq_take.1 hpre, List.take_take, Nat.min_eq_left (by omega)]
    have HO := Lib.hid (htk ▸ ho)
    have HBe := Lib.hid hb
    clear hv ho hb p2 p3 p4 hlen htk
    gi_wp2
    refine ⟨by simp, .inl ⟨_, _, rfl, run_takeDeferred hK, ?_⟩⟩
    exact ⟨_, results_tmp rfl _ _ _, ⟨v, rfl, by rw [hB]; exact (oi_put HO.out hK rfl).lower (by omega)⟩, by rw [hB]; exact p1.trans (HBe.out.trans (belowK_b (w := w1) (by omega) _ D _ _ (by omega) hK rfl rfl))⟩
end Go.Proofs.YtfmkamkbbeahgaaDoor.Nu
