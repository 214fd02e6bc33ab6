/- Step: what each node hears, in a row. -/
import Derived.Test.YtofflnklbdhaiaaDoorEr
import Derived.Test.YtofflnklbdhaiaaDoorRw
import Derived.Test.YtofflnklbdhaiaaDoorSq
namespace Go.Proofs.YtofflnklbdhaiaaDoor.Sr
open Go.RowKit Go.Shelf Go.Proofs.YtofflnklbdhaiaaDoor.Sq Go.Proofs.YtofflnklbdhaiaaDoor.Bk Go.Proofs.YtofflnklbdhaiaaDoor.Rw Go.Proofs.YtofflnklbdhaiaaDoor.Ow Go.Proofs.YtofflnklbdhaiaaDoor.Kp Go.Proofs.YtofflnklbdhaiaaDoor.Bl Go.Proofs.YtofflnklbdhaiaaDoor.Tz Go.Proofs.YtofflnklbdhaiaaDoor.Lk Go.Proofs.YtofflnklbdhaiaaDoor.Er
/-- A row of ears, as cells. -/
def cel (l : List (Int × Int)) : List Value := l.flatMap fun e => [.int .i64 e.1, .int .i64 e.2]
theorem cel_snoc (l : List (Int × Int)) (e : Int × Int) : cel (l ++ [e]) = cel l ++ [.int .i64 e.1, .int .i64 e.2] := by simp [cel]
theorem cel_length (l : List (Int × Int)) : (cel l).length = l.length * 2 := by
  induction l with
  | nil => rfl
  | cons e l ih =>
    show (([.int .i64 e.1, .int .i64 e.2] : List Value) ++ cel l).length = (l.length + 1) * 2
    rw [List.length_append, ih]
    simp
    omega
theorem cel_at : ∀ (l : List (Int × Int)) (j : Nat), j < l.length → (cel l)[j * 2]? = some (.int .i64 (l.getD j (0, 0)).1) ∧ (cel l)[j * 2 + 1]? = some (.int .i64 (l.getD j (0, 0)).2)
  | [], j, h => absurd h (by simp)
  | e :: l, 0, _ => ⟨rfl, rfl⟩
  | e :: l, j + 1, h => by
    have hh := cel_at l j (by simpa using h)
    have e1 : cel (e :: l) = .int .i64 e.1 :: .int .i64 e.2 :: cel l := rfl
    rw [e1, show (j + 1) * 2 = j * 2 + 1 + 1 by omega]
    exact hh
def Ro (w : World) (base : Nat) (v : Value) (l : List (Int × Int)) : Prop := w.ownsRow base 35 2 v l.length (cel l)
/-- Block g begins with these ears. -/
def Es (w : World) (g : Nat) (l : List (Int × Int)) : Prop := g < w.heap.size ∧ ∀ j, j < l.length → w.cell? ⟨g, j * 2, none⟩ = some (.int .i64 (l.getD j (0, 0)).1) ∧ w.cell? ⟨g, j * 2 + 1, none⟩ = some (.int .i64 (l.getD j (0, 0)).2)
theorem Es.below {w w' : World} {g B : Nat} {l : List (Int × Int)} (h : Es w g l) (hb : Below B w w') (hg : g < B) : Es w' g l :=
  ⟨Nat.lt_of_lt_of_le h.1 hb.size, fun j hj => ⟨(hb.cell (p := ⟨g, j * 2, none⟩) hg).trans (h.2 j hj).1, (hb.cell (p := ⟨g, j * 2 + 1, none⟩) hg).trans (h.2 j hj).2⟩⟩
theorem Es.keeps {w w' : World} {g : Nat} {l : List (Int × Int)} (h : Es w g l) (hb : Below w.heap.size w w') : Es w' g l := h.below hb h.1
theorem Ro.es {w : World} {base : Nat} {v : Value} {l : List (Int × Int)} (h : Ro w base v l) (h0 : 0 < l.length) : ∃ g c, v = .slice (some ⟨g, 0, none⟩) l.length c ∧ base ≤ g ∧ Es w g l ∧ l.length ≤ c := by
  rcases h.2 with ⟨_, hl⟩ | ⟨g, c, cur, rfl, hb, hg, hlc, hcm, hs, ht⟩
  · omega
  · refine ⟨g, c, rfl, hb, ⟨(Array.getElem?_eq_some_iff.1 hg).1, fun j hj => ?_⟩, hlc⟩
    obtain ⟨q1, q2⟩ := cel_at l j hj
    exact ⟨(World.ownsRow.cellAt h (j * 2) (by omega)).trans q1, (World.ownsRow.cellAt h (j * 2 + 1) (by omega)).trans q2⟩
theorem ro_lower {w : World} {B B' : Nat} {v : Value} {l : List (Int × Int)} (h : Ro w B v l) (hb : B' ≤ B) : Ro w B' v l := by
  refine ⟨h.1, ?_⟩
  rcases h.2 with h2 | ⟨g, c, cur, h1, h3, h4⟩
  · exact .inl h2
  · exact .inr ⟨g, c, cur, h1, by omega, h4⟩
theorem step_ear {P : Program} {ops : Array Oper} {o : Oper} {a : Act} {K : Act → World → Prop} {Q : Exit → Act → World → Prop} {E : Prop} (base : Nat) (w : World) (z : Value) (hgd : o.guard = none) (s x : Operand) (t : TypeId)
    (ho : o.op = .call { callee := .builtin .append, args := #[s, x], argTypes := #[t, t] })
    (ht : P.underlying t = some (.slice 35)) (hinfo : (P.info? 35).map (fun i => (i.zero, i.size, i.bytes)) = some (some z, 2, 16)) (hz : z.cells.size = 2)
    (v : Value) (l : List (Int × Int)) (hs : a.eval s = v) (hown : Ro w base v l) (b c : Nat) (e : Int × Int) (hx : a.eval x = .slice (some ⟨b, 0, none⟩) 1 c) (hb : Blk w b 35 #[.int .i64 e.1, .int .i64 e.2]) (hlen : l.length ≤ 1000) (hbase : base ≤ w.heap.size)
    (h : ∀ v' w', Ro w' base v' (l ++ [e]) → w.grownBy w' v.ownBlock → K (a.put o.dst v') w') :
    if Region.wanted o (yielded ops a.tmps) = true then Oper.wp P o a w K Q else E := by
  obtain ⟨i0, hi, hzz⟩ := Option.map_eq_some_iff.1 hinfo
  simp only [Prod.mk.injEq] at hzz
  obtain ⟨hz0, hz1, hz2⟩ := hzz
  refine step_append_any w hgd s x t ho base 35 i0 z 2 16 ht hi hz0 hz1 hz2 hz (by decide) v l.length (cel l) hs hown w.heap.size (some ⟨b, 0, none⟩) 1 c [.int .i64 e.1, .int .i64 e.2] hx ⟨rfl, fun _ => ⟨_, rfl, hb.lt, fun j u hu => ?_⟩⟩ ?_ (by unfold maxLen; omega) (by omega) hbase ?_
  · rw [show (⟨b, 0, none⟩ : Addr).add j = ⟨b, j, none⟩ by unfold Addr.add; split <;> simp_all, hb.cell j]
    rcases j with _ | _ | j
    · exact hu
    · exact hu
    · simp at hu
  · intro u hu
    simp at hu
    rcases hu with rfl | rfl <;> rfl
  · intro v' w' h1 h2 _
    refine h v' w' ?_ h2
    unfold Ro
    rw [cel_snoc, List.length_append]
    exact h1
theorem lo_below {w w' : World} {l : Option Addr} {a : List Nat} (h : Lo w l a) (hb : Below w.heap.size w w') : Lo w' l a := by
  rcases h with h | ⟨p, g, h1, h2⟩
  · exact .inl h
  · exact .inr ⟨p, g, h1, h2.below hb⟩
/-- What all hear. -/
def ears (a : List Nat) (send awake : Nat) (lost : List Int) (n : Nat) : List (Int × Int) := (List.range n).map fun i => earf send awake lost i (a.getD i 0 &&& send)
theorem ears_length (a : List Nat) (send awake : Nat) (lost : List Int) (n : Nat) : (ears a send awake lost n).length = n := by simp [ears]
theorem ears_succ (a : List Nat) (send awake : Nat) (lost : List Int) (n : Nat) : ears a send awake lost (n + 1) = ears a send awake lost n ++ [earf send awake lost n (a.getD n 0 &&& send)] := by simp [ears, List.range_succ]
theorem ears_at (a : List Nat) (send awake : Nat) (lost : List Int) (n : Nat) {i : Nat} (hi : i < n) : (ears a send awake lost n).getD i (0, 0) = earf send awake lost i (a.getD i 0 &&& send) := by simp [ears, List.getD_eq_getElem?_getD, hi]
set_option maxRecDepth 100000 in
set_option maxHeartbeats 4000000 in
theorem step_ok (l : Option Addr) (a : List Nat) (send awake : Nat) (lost : List Int) (A : Option Addr) (c : Nat) (w : World) (hL : Lo w l a) (hal : a.length ≤ 64) (hs : send < 2 ^ 64) (ha : awake < 2 ^ 64) (hl : Ri .u64 w A lost) (hlo : ∀ x ∈ lost, 0 ≤ x ∧ x < 2 ^ 64) (hT : Tab w) :
    Calls Tryd.prog 8 #[.pointer l, .int .u64 send, .int .u64 awake, .slice A lost.length c] w fun e w' => (∃ v, e = .returned v ∧ Ro w' w.heap.size v (ears a send awake lost a.length)) ∧ Below w.heap.size w w' := by
  have hb0 := (Below.refl w.heap.size w).alloc (Nat.le_refl _) (.cells #[.int .u64 send, .int .u64 awake, .slice A lost.length c] 56)
  have HK0 := Lib.hid (Blk.new w 56 #[.int .u64 send, .int .u64 awake, .slice A lost.length c])
  have CL := Lib.hid (fun w' (hb : Below w.heap.size w w') => len_any l a w' (lo_below hL hb))
  have CN := Lib.hid (fun w' (hb : Below w.heap.size w w') (i : Int) => near_any l a i w' (lo_below hL hb))
  have HLI := Lib.hid hl
  have HT := Lib.hid hT
  have hT0 := hT.1
  have HB0 := Lib.hid hb0
  have hSL := fun i => set_lt hL i
  clear hb0 hL hT
  go_enter Tryd.func8, Tryd.ntmps8
  go_wp2_with (go_at_call 16; (with_reducible refine Calls.mono (CL.out _ HB0.out) ?_); rintro e w1 ⟨rfl, rfl⟩)
  obtain ⟨N, hN⟩ : ∃ N, a.length = N := ⟨_, rfl⟩
  rw [hN]
  go_loopw [9, 18] (fun v i wr => ∃ k : Nat, k ≤ N ∧ i = .int .i64 k ∧ Ro wr (w.heap.size + 1) v (ears a send awake lost k) ∧ Blk wr w.heap.size 56 #[.int .u64 send, .int .u64 awake, .slice A lost.length c] ∧ Below w.heap.size w wr ∧ w.heap.size < wr.heap.size) (fun _ i _ => N - (intOf i).toNat)
  case atStart => exact ⟨0, Nat.zero_le _, rfl, World.ownsRow_nil _ _ _ _, HK0.out, HB0.out, by simp⟩
  case round =>
    obtain ⟨k, hk, rfl, hO, hK, hB, hlt0⟩ := hrel
    by_cases hlt : k < N
    · have n1 : (k : Int) < (N : Int) := by omega
      have hx := hSL k
      have ix : isn a k = true := by simp [isn]; omega
      have CX := Lib.hid (show Calls Tryd.prog 18 #[.pointer l, .int .i64 k] wr.drew fun e w' => e = .returned (.int .u64 (a.getD k 0 : Nat)) ∧ wr.drew = w' by
        have h := CN.out wr.drew hB.drew k
        unfold set_ at h
        rw [if_pos ix, Int.toNat_natCast] at h
        exact h)
      unfold set_ at hx
      rw [if_pos ix, Int.toNat_natCast] at hx
      have hes := ears_succ a send awake lost k
      generalize a.getD k 0 = x at CX hx hes
      have hE : bits BinOp.and IntKind.u64 (x : Int) (send : Int) = ((x &&& send : Nat) : Int) := bits_and_u64_nat x send hx hs
      have CE := Lib.hid (ear_ok send awake lost k (x &&& send) A c wr.drew hs ha (Nat.lt_of_le_of_lt Nat.and_le_left hx) (by omega) (HLI.out.below hB.drew) hlo (HT.out.below hB.drew hT0))
      have HES := Lib.hid hes
      obtain ⟨er, her⟩ : ∃ er, earf send awake lost k (x &&& send) = er := ⟨_, rfl⟩
      rw [her] at CE HES
      have hlen := ears_length a send awake lost k
      generalize ears a send awake lost k = es at hO hlen HES
      have s0 : wr.drew.cell? ⟨w.heap.size, 0, none⟩ = some (.int .u64 send) := hK.drew.cell 0
      have s1 : wr.drew.cell? ⟨w.heap.size, 1, none⟩ = some (.int .u64 awake) := hK.drew.cell 1
      have s2 : wr.drew.cell? ⟨w.heap.size, 2, none⟩ = some (.slice A lost.length c) := hK.drew.cell 2
      have HO := Lib.hid hO
      have HKr := Lib.hid hK.drew
      have HBr := Lib.hid hB.drew
      clear hO hK hB hes her hx ix hSL HK0 HB0
      go_wp2
      refine wp_region_seq [(0, true), (1, true), (2, true), (3, true), (4, true), (6, true), (5, false), (7, true), (8, false), (9, false), (10, false), (11, true)] (fun w' => w'.cell? ⟨w.heap.size, 0, none⟩ = some (.int .u64 send) ∧ w'.cell? ⟨w.heap.size, 1, none⟩ = some (.int .u64 awake) ∧ w'.cell? ⟨w.heap.size, 2, none⟩ = some (.slice A lost.length c)) (by kernel_rfl) (by kernel_rfl) ⟨s0, s1, s2⟩ (fun hHeld => ?_)
      clear hHeld
      simp only [List.map_cons, List.map_nil, List.getElem?_toArray, List.getElem?_cons_zero, List.getElem?_cons_succ]
      repeat (first | (refine seq_skip (by rfl) ?_; try simp only [Act.put, List.setIfInBounds_toArray, List.set_cons_zero, List.set_cons_succ]) | (refine seq_not (by rfl) (by assumption) ?_; try simp only [Act.put, List.setIfInBounds_toArray, List.set_cons_zero, List.set_cons_succ]) | (refine seq_take (v := ?_) (by rfl) ?_ ?_; rotate_left; (focus ((intro w hSw; (try dsimp only at hSw); go_simp; (try with_reducible rfl)); done)); try simp only [Act.put, List.setIfInBounds_toArray, List.set_cons_zero, List.set_cons_succ]))
      refine seq_do (fun K hK => ?_)
      go_simp
      go_at_call 18
      (with_reducible refine Calls.mono CX.out ?_)
      rintro e w1 ⟨rfl, rfl⟩
      dsimp only
      refine hK.out _ _ ⟨s0, s1, s2⟩ (fun _ => ?_)
      clear hK K
      repeat (first | (refine seq_skip (by rfl) ?_; try simp only [Act.put, List.setIfInBounds_toArray, List.set_cons_zero, List.set_cons_succ]) | (refine seq_not (by rfl) (by assumption) ?_; try simp only [Act.put, List.setIfInBounds_toArray, List.set_cons_zero, List.set_cons_succ]) | (refine seq_take (v := ?_) (by rfl) ?_ ?_; rotate_left; (focus ((intro w hSw; (try dsimp only at hSw); go_simp; (try with_reducible rfl)); done)); try simp only [Act.put, List.setIfInBounds_toArray, List.set_cons_zero, List.set_cons_succ]))
      refine seq_do (fun K hK => ?_)
      go_simp
      go_at_call 17
      (with_reducible refine Calls.mono CE.out ?_)
      rintro e w2 ⟨rfl, hb2⟩
      dsimp only
      have hK2 := HKr.out.keeps hb2
      have HK2 := Lib.hid hK2
      have HO2 := Lib.hid (show Ro w2 (w.heap.size + 1) _ es from World.ownsRow.kept (row := none) (show World.ownsRow wr.drew _ _ _ _ _ _ from HO.out) ⟨hb2.os, hb2.tape, hb2.output, hb2.size, fun i hi _ => hb2.block i hi⟩ (by cases Value.ownBlock _ <;> simp))
      have HB2 := Lib.hid (HBr.out.trans (hb2.mono HBr.out.size))
      have hsz2 := hb2.size
      have hsd : wr.drew.heap.size = wr.heap.size := rfl
      refine hK.out _ _ ⟨hK2.cell 0, hK2.cell 1, hK2.cell 2⟩ (fun _ => ?_)
      clear hK K hK2 hb2 CE CX HO HKr HBr s0 s1 s2
      repeat (first | (refine seq_skip (by rfl) ?_; try simp only [Act.put, List.setIfInBounds_toArray, List.set_cons_zero, List.set_cons_succ]) | (refine seq_not (by rfl) (by assumption) ?_; try simp only [Act.put, List.setIfInBounds_toArray, List.set_cons_zero, List.set_cons_succ]) | (refine seq_take (v := ?_) (by rfl) ?_ ?_; rotate_left; (focus ((intro w hSw; (try dsimp only at hSw); go_simp; (try with_reducible rfl)); done)); try simp only [Act.put, List.setIfInBounds_toArray, List.set_cons_zero, List.set_cons_succ]))
      refine seq_do (fun K hK => ?_)
      go_simp
      have hK3 := HK2.out.alloc (.cells #[.int .i64 er.1, .int .i64 er.2] 35)
      have HK3 := Lib.hid hK3
      have HO3 := Lib.hid (show Ro (w2.alloc (.cells #[.int .i64 er.1, .int .i64 er.2] 35)) (w.heap.size + 1) _ es from World.ownsRow.alloc HO2.out _)
      have HB3 := Lib.hid (HB2.out.alloc (by omega) (.cells #[.int .i64 er.1, .int .i64 er.2] 35))
      have HN3 := Lib.hid (Blk.new w2 35 #[.int .i64 er.1, .int .i64 er.2])
      refine hK.out _ _ ⟨hK3.cell 0, hK3.cell 1, hK3.cell 2⟩ (fun _ => ?_)
      clear hK K hK3 HO2 HB2 HK2
      refine seq_do (fun K hK => ?_)
      refine step_ear (w.heap.size + 1) _ (.agg #[.int .i64 0, .int .i64 0]) rfl _ _ 30 rfl Tryd.underlying30 (by kernel_rfl) rfl _ es rfl HO3.out _ _ er rfl HN3.out (by omega) (by simp; omega) ?_
      intro v' w' ho hg
      have hown : ∀ q, Value.ownBlock _ = some q → w.heap.size + 1 ≤ q ∧ q < (w2.alloc (.cells #[.int .i64 er.1, .int .i64 er.2] 35)).heap.size := World.ownsRow.lt HO3.out
      have hK4 := HK3.out.grown hg (fun e => by have := (hown _ e.symm).1; omega)
      have HK4 := Lib.hid hK4
      have HO4 := Lib.hid ho
      have HB4 := Lib.hid (HB3.out.grown hg (by simp; omega) (fun q hq => by have := (hown q hq).1; omega))
      have hsz4 := hg.size
      rw [World.size_alloc] at hsz4
      refine hK.out _ _ ⟨hK4.cell 0, hK4.cell 1, hK4.cell 2⟩ (fun _ => ?_)
      clear hK K hK4 ho hg hown HO3 HB3 HK3 HN3
      repeat (first | (refine seq_skip (by rfl) ?_; try simp only [Act.put, List.setIfInBounds_toArray, List.set_cons_zero, List.set_cons_succ]) | (refine seq_not (by rfl) (by assumption) ?_; try simp only [Act.put, List.setIfInBounds_toArray, List.set_cons_zero, List.set_cons_succ]) | (refine seq_take (v := ?_) (by rfl) ?_ ?_; rotate_left; (focus ((intro w hSw; (try dsimp only at hSw); go_simp; (try with_reducible rfl)); done)); try simp only [Act.put, List.setIfInBounds_toArray, List.set_cons_zero, List.set_cons_succ]))
      refine seq_done ?_
      go_wp2
      go_roundw
      case rel => exact ⟨k + 1, by omega, by go_num, by rw [HES.out]; exact HO4.out, HK4.out, HB4.out, by omega⟩
      case measure => simp [intOf]; omega
    · have hke : k = N := by omega
      subst hke
      have HO := Lib.hid hO
      have HBr := Lib.hid hB
      clear hO hK hB hSL HK0 HB0
      go_wp2
      go_ret
      exact ⟨⟨_, rfl, by rw [hN]; exact ro_lower HO.out (by omega)⟩, HBr.out⟩
end Go.Proofs.YtofflnklbdhaiaaDoor.Sr
