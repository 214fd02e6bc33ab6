/- The document's row in the heap: Others, Set, Drop, First, Due. -/
import Derived.Test.YtmheabnpkbhadaaRp
import Derived.Deep.LoopGhost
import Derived.BigRegion
namespace Go.Proofs.Ytmheabnpkbhadaa.Rm
open Go.RowKit Go.Proofs.Ytmheabnpkbhadaa.Sq Go.Proofs.Ytmheabnpkbhadaa.Sp Go.Proofs.Ytmheabnpkbhadaa.Bk Go.Proofs.Ytmheabnpkbhadaa.Kp Go.Proofs.Ytmheabnpkbhadaa.Rw Go.Proofs.Ytmheabnpkbhadaa.Ow Go.Proofs.Ytmheabnpkbhadaa.Tp Go.Proofs.Ytmheabnpkbhadaa.Tl Go.Proofs.Ytmheabnpkbhadaa.Tq Go.Proofs.Ytmheabnpkbhadaa.Is Go.Proofs.Ytmheabnpkbhadaa.Se Go.Proofs.Ytmheabnpkbhadaa.Du Go.Proofs.Ytmheabnpkbhadaa.Al Go.Proofs.Ytmheabnpkbhadaa.Lw Go.Proofs.Ytmheabnpkbhadaa.Rp
/-- A row of the document's, as cells. -/
def cl3 (l : List Tw) : List Value := l.flatMap fun x => [.int .i64 x.1, .int .i64 x.2.1, .int .i64 x.2.2]
theorem cl3_snoc (l : List Tw) (x : Tw) : cl3 (l ++ [x]) = cl3 l ++ [.int .i64 x.1, .int .i64 x.2.1, .int .i64 x.2.2] := by simp [cl3]
theorem cl3_length : ∀ l : List Tw, (cl3 l).length = l.length * 3
  | [] => rfl
  | x :: l => by
    show (([.int .i64 x.1, .int .i64 x.2.1, .int .i64 x.2.2] : List Value) ++ cl3 l).length = (l.length + 1) * 3
    rw [List.length_append, cl3_length l]
    simp
    omega
theorem cl3_at : ∀ (l : List Tw) (j : Nat), j < l.length → (cl3 l)[j * 3]? = some (.int .i64 (l.getD j (0, 0, 0)).1) ∧ (cl3 l)[j * 3 + 1]? = some (.int .i64 (l.getD j (0, 0, 0)).2.1) ∧ (cl3 l)[j * 3 + 2]? = some (.int .i64 (l.getD j (0, 0, 0)).2.2)
  | [], j, h => absurd h (by simp)
  | x :: l, 0, _ => ⟨rfl, rfl, rfl⟩
  | x :: l, j + 1, h => by
    have hh := cl3_at l j (by simpa using h)
    have e1 : cl3 (x :: l) = .int .i64 x.1 :: .int .i64 x.2.1 :: .int .i64 x.2.2 :: cl3 l := rfl
    rw [e1, show (j + 1) * 3 = j * 3 + 1 + 1 + 1 by omega]
    exact hh
/-- Block g begins with these. -/
def E3 (w : World) (g : Nat) (l : List Tw) : Prop := (∃ C, Blk w g 57 C) ∧ ∀ j, j < l.length → w.cell? ⟨g, j * 3, none⟩ = some (.int .i64 (l.getD j (0, 0, 0)).1) ∧ w.cell? ⟨g, j * 3 + 1, none⟩ = some (.int .i64 (l.getD j (0, 0, 0)).2.1) ∧ w.cell? ⟨g, j * 3 + 2, none⟩ = some (.int .i64 (l.getD j (0, 0, 0)).2.2)
theorem E3.kp {S : Nat → Prop} {w w' : World} {g : Nat} {l : List Tw} (h : E3 w g l) (hk : Kp S w w') (hg : ¬ S g) : E3 w' g l := by
  obtain ⟨C, hC⟩ := h.1
  have hb := hk.block g hC.lt hg
  refine ⟨⟨C, blk_kp hC hk hg⟩, fun j hj => ?_⟩
  obtain ⟨h1, h2, h3⟩ := h.2 j hj
  exact ⟨(World.cell?_of_block (a := ⟨g, j * 3, none⟩) hb).trans h1, (World.cell?_of_block (a := ⟨g, j * 3 + 1, none⟩) hb).trans h2, (World.cell?_of_block (a := ⟨g, j * 3 + 2, none⟩) hb).trans h3⟩
/-- A row that is the call's own. -/
def Ro (w : World) (base : Nat) (v : Value) (l : List Tw) : Prop := w.ownsRow base 57 3 v l.length (cl3 l)
theorem Ro.form {w : World} {base : Nat} {v : Value} {l : List Tw} (h : Ro w base v l) : ∃ A c, v = .slice A l.length c ∧ (0 < l.length → ∃ g, A = some ⟨g, 0, none⟩ ∧ base ≤ g ∧ E3 w g l) := by
  rcases h.2 with ⟨rfl, hl⟩ | ⟨g, c, cur, rfl, hb, hg, hlc, hcm, hs, ht⟩
  · exact ⟨none, 0, by rw [hl], fun h => by omega⟩
  · refine ⟨_, c, rfl, fun h0 => ⟨g, rfl, hb, ⟨cur, hg⟩, fun j hj => ?_⟩⟩
    obtain ⟨q1, q2, q3⟩ := cl3_at l j hj
    exact ⟨(World.ownsRow.cellAt h (j * 3) (by omega)).trans q1, (World.ownsRow.cellAt h (j * 3 + 1) (by omega)).trans q2, (World.ownsRow.cellAt h (j * 3 + 2) (by omega)).trans q3⟩
theorem Ro.kp {S : Nat → Prop} {w w' : World} {base : Nat} {v : Value} {l : List Tw} (h : Ro w base v l) (hk : Kp S w w') (hS : ∀ q, v.ownBlock = some q → ¬ S q) : Ro w' base v l := by
  refine ⟨h.1, ?_⟩
  rcases h.2 with h2 | ⟨g, c, cur, h1, h3, h4, h5⟩
  · exact .inl h2
  · subst h1
    exact .inr ⟨g, c, cur, rfl, h3, (hk.block g (Array.getElem?_eq_some_iff.1 h4).1 (hS g rfl)).trans h4, h5⟩
theorem wp_tw {P : Program} {ops : Array Oper} {rest : List Oper} {o : Oper} {a : Act} {Q : Exit → Act → World → Prop} (base : Nat) (w : World) (z : Value) (hgd : o.guard = none) (s x : Operand) (t : TypeId)
    (ho : o.op = .call { callee := .builtin .append, args := #[s, x], argTypes := #[t, t] })
    (ht : P.underlying t = some (.slice 57)) (hinfo : (P.info? 57).map (fun i => (i.zero, i.size, i.bytes)) = some (some z, 3, 24)) (hz : z.cells.size = 3)
    (v : Value) (l : List Tw) (hs : a.eval s = v) (hown : Ro w base v l) (b c : Nat) (y : Tw) (hx : a.eval x = .slice (some ⟨b, 0, none⟩) 1 c) (hb : Blk w b 57 #[.int .i64 y.1, .int .i64 y.2.1, .int .i64 y.2.2]) (hlen : l.length ≤ 1000) (hbase : base ≤ w.heap.size)
    (h : ∀ v' w', Ro w' base v' (l ++ [y]) → w.grownBy w' v.ownBlock → wpList P ops Q rest (a.put o.dst v') w') : wpList P ops Q (o :: rest) a w := by
  obtain ⟨i0, hi, hzz⟩ := Option.map_eq_some_iff.1 hinfo
  simp only [Prod.mk.injEq] at hzz
  obtain ⟨hz0, hz1, hz2⟩ := hzz
  refine wpList_append_any w hgd s x t ho base 57 i0 z 3 24 ht hi hz0 hz1 hz2 hz (by decide) v l.length (cl3 l) hs hown w.heap.size (some ⟨b, 0, none⟩) 1 c [.int .i64 y.1, .int .i64 y.2.1, .int .i64 y.2.2] hx ⟨rfl, fun _ => ⟨_, rfl, hb.lt, fun j u hu => ?_⟩⟩ ?_ (by unfold maxLen; omega) (by omega) hbase ?_
  · rw [show (⟨b, 0, none⟩ : Addr).add j = ⟨b, j, none⟩ by unfold Addr.add; split <;> simp_all, hb.cell j]
    rcases j with _ | _ | _ | j
    · exact hu
    · exact hu
    · exact hu
    · simp at hu
  · intro u hu
    simp at hu
    rcases hu with rfl | rfl | rfl <;> rfl
  · intro v' w' h1 h2 _
    refine h v' w' ?_ h2
    unfold Ro
    rw [cl3_snoc, List.length_append]
    exact h1
/-- Box m is the document's row, of turn t. -/
def Rf (w : World) (m : Nat) (M : List Tw) (t : Int) : Prop := ∃ A c, Blk w m 39 #[.slice A M.length c, .int .i64 t] ∧ (0 < M.length → ∃ g, A = some ⟨g, 0, none⟩ ∧ g ≠ m ∧ E3 w g M)
theorem Rf.kp {S : Nat → Prop} {w w' : World} {m : Nat} {M : List Tw} {t : Int} (h : Rf w m M t) (hk : Kp S w w') (hm : ¬ S m) (hS : ∀ A c, w.cell? ⟨m, 0, none⟩ = some (.slice (some A) M.length c) → ¬ S A.block) : Rf w' m M t := by
  obtain ⟨A, c, hb, hA⟩ := h
  refine ⟨A, c, blk_kp hb hk hm, fun h0 => ?_⟩
  obtain ⟨g, rfl, h1, h2⟩ := hA h0
  exact ⟨g, rfl, h1, h2.kp hk (hS ⟨g, 0, none⟩ c (hb.cell 0))⟩
theorem Rf.keeps {w w' : World} {m : Nat} {M : List Tw} {t : Int} (h : Rf w m M t) (hb : Below w.heap.size w w') : Rf w' m M t := by
  obtain ⟨A, c, h1, hA⟩ := h
  refine ⟨A, c, h1.keeps hb, fun h0 => ?_⟩
  obtain ⟨g, rfl, h3, h2⟩ := hA h0
  exact ⟨g, rfl, h3, h2.kp (S := fun _ => False) (Kp.of_below hb) (fun h => h)⟩
theorem Rf.lt {w : World} {m : Nat} {M : List Tw} {t : Int} (h : Rf w m M t) : m < w.heap.size := by
  obtain ⟨A, c, h1, _⟩ := h
  exact h1.lt
theorem fil_take (s : Int) (M : List Tw) {k : Nat} (hk : k < M.length) : fil s (M.take (k + 1)) = if (M.getD k (0, 0, 0)).2.1 != s then fil s (M.take k) ++ [M.getD k (0, 0, 0)] else fil s (M.take k) := by
  rw [List.take_add_one, List.getElem?_eq_getElem hk]
  unfold fil
  rw [List.filter_append, List.getD_eq_getElem?_getD, List.getElem?_eq_getElem hk]
  simp only [Option.toList_some, Option.getD_some, List.filter_cons, List.filter_nil]
  split <;> simp
set_option maxRecDepth 100000 in
set_option maxHeartbeats 2000000 in
theorem others_ok (m : Nat) (M : List Tw) (t s : Int) (w : World) (hR : Rf w m M t) (hl : M.length ≤ 16) :
    Calls Try.prog 22 #[.pointer (some ⟨m, 0, none⟩), .int .i64 s] w fun e w' => (∃ v, e = .returned v ∧ Ro w' w.heap.size v (fil s M)) ∧ Below w.heap.size w w' := by
  obtain ⟨A, c, hb, hA⟩ := hR
  have HBK := Lib.hid hb
  have c0 := hb.cell 0
  have HA := Lib.hid hA
  obtain ⟨N, hN⟩ : ∃ N, M.length = N := ⟨_, rfl⟩
  simp only [hN] at c0 HA
  clear hb hA
  go_enter Try.func22, Try.ntmps22
  go_wp2
  go_loopw [5, 13] (fun s5 s13 wr => ∃ k, Aside (k ≤ N ∧ s13 = .int .i64 (k : Nat) ∧ Ro wr w.heap.size s5 (fil s (M.take k)) ∧ Below w.heap.size w wr)) (fun _ s13 _ => N - (intOf s13).toNat)
  case atStart => exact ⟨0, Nat.zero_le _, rfl, World.ownsRow_nil _ _ _ _, Below.refl _ _⟩
  case round =>
    obtain ⟨k, hX⟩ := hrel
    obtain ⟨hk, rfl, hO, hB⟩ := hX.out
    have HB := Lib.hid hB
    have hsz := hB.size
    clear hX hB c0
    by_cases hlt : k < N
    · have n1 : (k : Int) < (N : Int) := by omega
      obtain ⟨g, rfl, _, hE⟩ := HA.out (by omega)
      obtain ⟨x0, x1, x2⟩ := (hE.kp (S := fun _ => False) (Kp.of_below HB.out) (fun h => h)).2 k (by omega)
      have hft := fil_take s M (show k < M.length by omega)
      have hglt : g < wr.heap.size := by
        obtain ⟨C, hC⟩ := hE.1
        have := hC.lt
        omega
      have hfl : (fil s (M.take k)).length ≤ 16 := by
        have h1 : (fil s (M.take k)).length ≤ (M.take k).length := List.length_filter_le _ _
        rw [List.length_take] at h1
        omega
      obtain ⟨x, hx⟩ : ∃ x, M.getD k (0, 0, 0) = x := ⟨_, rfl⟩
      rw [hx] at x0 x1 x2 hft
      have HO := Lib.hid ((hO.kp (S := fun _ => False) (Kp.refl _ _) (fun _ _ h => h)))
      have HOk : Hid (Ro (wr.alloc (.cells #[.int .i64 x.1, .int .i64 x.2.1, .int .i64 x.2.2] 57)) w.heap.size u5 (fil s (M.take k))) := World.ownsRow.alloc hO _
      have HB2 := Lib.hid (HB.out.alloc hsz (.cells #[.int .i64 x.1, .int .i64 x.2.1, .int .i64 x.2.2] 57))
      clear hE hx hO
      by_cases hs : x.2.1 = s
      · have hne : (x.2.1 != s) = false := by simp [hs]
        rw [hne] at hft
        have HFT := Lib.hid hft
        have HS := Lib.hid hs
        clear hs hft
        go_wp2
        go_roundw
        case rel => exact ⟨k + 1, by omega, by go_num, by rw [HFT.out]; exact HOk.out, HB2.out⟩
        case measure => simp [intOf]; omega
      · have hne : (x.2.1 != s) = true := bne_iff_ne.mpr hs
        rw [hne] at hft
        have HFT := Lib.hid hft
        have HS := Lib.hid hs
        have HO3 : Hid (Ro ((wr.alloc (.cells #[.int .i64 x.1, .int .i64 x.2.1, .int .i64 x.2.2] 57)).alloc (.cells #[.int .i64 x.1, .int .i64 x.2.1, .int .i64 x.2.2] 57)) w.heap.size u5 (fil s (M.take k))) := World.ownsRow.alloc HOk.out _
        have hbn := Blk.new (wr.alloc (.cells #[.int .i64 x.1, .int .i64 x.2.1, .int .i64 x.2.2] 57)) 57 #[.int .i64 x.1, .int .i64 x.2.1, .int .i64 x.2.2]
        rw [World.size_alloc] at hbn
        have HBN := Lib.hid hbn
        have HB3 := Lib.hid (HB2.out.alloc (by simp; omega) (.cells #[.int .i64 x.1, .int .i64 x.2.1, .int .i64 x.2.2] 57))
        clear hs hft hbn
        go_wp2_with (at_builtin; refine wp_tw w.heap.size _ (.agg #[.int .i64 0, .int .i64 0, .int .i64 0]) rfl _ _ 37 rfl Try.underlying37 (by kernel_rfl) rfl _ (fil s (M.take k)) rfl HO3.out (wr.heap.size + 1) _ x rfl HBN.out (by omega) (by simp; omega) ?_; intro v' w' ho hg; have HOF := Lib.hid ho; have HBF := Lib.hid (HB3.out.grown hg (by simp; omega) (fun q hq => (World.ownsRow.lt HO3.out q hq).1)); clear ho hg)
        go_roundw
        case rel => exact ⟨k + 1, by omega, by go_num, by rw [HFT.out]; exact HOF.out, HBF.out⟩
        case measure => simp [intOf]; omega
    · have hk : k = N := by omega
      subst hk
      have HO := Lib.hid hO
      clear hO
      go_wp2
      go_ret
      refine ⟨⟨_, rfl, ?_⟩, HB.out⟩
      have := HO.out
      rw [← hN, List.take_length] at this
      exact this
theorem fil_full {s : Int} {M : List Tw} (h : (fil s M).length = M.length) : fil s M = M := List.filter_eq_self.2 (List.length_filter_eq_length_iff.1 h)
/-- The document's row behind Set. -/
def rput (M : List Tw) (at_ s t : Int) : List Tw := if (fil s M).length = 16 then M else fil s M ++ [(at_, s, t + 1)]
def rtrn (M : List Tw) (s t : Int) : Int := if (fil s M).length = 16 then t else t + 1
theorem rput_md {M : List Tw} {t : Int} (h : Md M t) (at_ s : Int) : Md (rput M at_ s t) (rtrn M s t) ∧ srt (rput M at_ s t) = put (srt M) at_ s ∧ code (srt M) s = (if (fil s M).length = 16 then 6 else 0) := by
  have h1 : (out s (srt M)).length = (fil s M).length := by rw [← srt_fil, srt_length]
  have h2 : (fil s M).length ≤ M.length := List.length_filter_le _ _
  have h3 := h.len
  unfold rput rtrn put code
  rw [h1]
  by_cases hf : (fil s M).length = 16
  · rw [if_pos hf, if_pos hf, if_pos hf, if_pos hf]
    refine ⟨h, ?_, rfl⟩
    rw [← srt_fil, fil_full (by omega)]
  · rw [if_neg hf, if_neg hf, if_neg hf, if_neg hf]
    refine ⟨md_snoc s (md_fil h s) at_ (by omega), ?_, rfl⟩
    rw [srt_snoc, srt_fil]
/-- What a call leaves of the document's row. -/
theorem rf_store {m : Nat} {M : List Tw} {t : Int} {w1 : World} {base : Nat} {v : Value} {A : Option Addr} {c : Nat} (hb : Blk w1 m 39 #[v, .int .i64 t]) (hO : Ro w1 base (.slice A M.length c) M) (hm : m < base) :
    Rf (w1.setCell ⟨m, 0, none⟩ (.slice A M.length c)) m M t := by
  have hk : Kp (· = m) w1 (w1.setCell ⟨m, 0, none⟩ (.slice A M.length c)) := Kp.set_ (S := (· = m)) (Kp.refl _ _) ⟨m, 0, none⟩ (.inl rfl) _
  obtain ⟨A', c', e, hA⟩ := hO.form
  injection e with e1 e2 e3
  subst e1 e3
  refine ⟨A, c, hb.set_ 0 _, fun h0 => ?_⟩
  obtain ⟨g, rfl, h1, h2⟩ := hA h0
  exact ⟨g, rfl, by omega, h2.kp hk (fun e => by omega)⟩
set_option maxRecDepth 100000 in
set_option maxHeartbeats 2000000 in
theorem rset_ok (m : Nat) (M : List Tw) (t at_ s : Int) (w : World) (hR : Rf w m M t) (hM : Md M t) (ht : 0 ≤ t) (ht2 : t ≤ 1000) :
    Calls Try.prog 11 #[.pointer (some ⟨m, 0, none⟩), .int .i64 at_, .int .i64 s] w fun e w' => e = .returned (.int .i64 (if (fil s M).length = 16 then 6 else 0)) ∧ Rf w' m (rput M at_ s t) (rtrn M s t) ∧ Kp (· = m) w w' := by
  have HO := Lib.hid (others_ok m M t s w hR hM.len)
  have hlt := hR.lt
  have HR := Lib.hid hR
  obtain ⟨A, c, hb, hA⟩ := hR
  have HB := Lib.hid hb
  have hfl : (fil s M).length ≤ 16 := Nat.le_trans (List.length_filter_le _ _) hM.len
  have hwr : IntKind.i64.wrap (t + 1) = t + 1 := by rw [IntKind.wrap_i64]; omega
  clear hA hb
  by_cases hf : (fil s M).length = 16
  · rw [if_pos hf, show rput M at_ s t = M by unfold rput; rw [if_pos hf], show rtrn M s t = t by unfold rtrn; rw [if_pos hf]]
    go_enter Try.func11, Try.ntmps11
    go_wp2_with (go_at_call 22; (with_reducible refine Calls.mono HO.out ?_); rintro e w1 ⟨⟨v, rfl, ho⟩, hb1⟩; obtain ⟨A1, c1, rfl, _⟩ := ho.form; rw [hf]; have HB1 := Lib.hid hb1; clear ho hb1)
    go_ret
    exact ⟨rfl, HR.out.keeps HB1.out, Kp.of_below HB1.out⟩
  · rw [if_neg hf, show rput M at_ s t = fil s M ++ [(at_, s, t + 1)] by unfold rput; rw [if_neg hf], show rtrn M s t = t + 1 by unfold rtrn; rw [if_neg hf]]
    have hf16 : ¬ (16 : Int) ≤ ((fil s M).length : Int) := by omega
    have hfl2 : (fil s M).length < 16 := by omega
    generalize fil s M = F at HO hf hfl hf16 hfl2 ⊢
    clear hf
    go_enter Try.func11, Try.ntmps11
    go_wp2_with (first
      | (go_at_call 22
         (with_reducible refine Calls.mono HO.out ?_)
         rintro e w1 ⟨⟨v, rfl, ho⟩, hb1⟩
         obtain ⟨A1, c1, rfl, _⟩ := ho.form
         have hsz := hb1.size
         have hbk := HB.out.keeps hb1
         have d1 : w1.cell? ⟨m, 1, none⟩ = some (.int .i64 t) := hbk.cell 1
         have g1 := hbk.frozen 1
         have HB1 := Lib.hid hb1
         have HO1 := Lib.hid (ho.kp (S := (· = m)) (Kp.set_ (S := (· = m)) (Kp.refl _ _) ⟨m, 1, none⟩ (.inl rfl) (.int .i64 (t + 1))) (fun q hq e => by have := (World.ownsRow.lt ho q hq).1; omega))
         have hb2 : Blk (w1.setCell ⟨m, 1, none⟩ (.int .i64 (t + 1))) m 39 #[.slice A M.length c, .int .i64 (t + 1)] := hbk.set_ 1 _
         have d2 : (w1.setCell ⟨m, 1, none⟩ (.int .i64 (t + 1))).cell? ⟨m, 1, none⟩ = some (.int .i64 (t + 1)) := hb2.cell 1
         have HB2 := Lib.hid hb2
         have HK2 := Lib.hid (Kp.set_ (S := (· = m)) ((Kp.of_below HB1.out)) ⟨m, 1, none⟩ (.inl rfl) (.int .i64 (t + 1)))
         have HO3 : Hid (Ro ((w1.setCell ⟨m, 1, none⟩ (.int .i64 (t + 1))).alloc (.cells #[.int .i64 at_, .int .i64 s, .int .i64 (t + 1)] 57)) w.heap.size (.slice A1 F.length c1) F) := World.ownsRow.alloc HO1.out _
         have hbn := Blk.new (w1.setCell ⟨m, 1, none⟩ (.int .i64 (t + 1))) 57 #[.int .i64 at_, .int .i64 s, .int .i64 (t + 1)]
         rw [Ck.size_set] at hbn
         have HBN := Lib.hid hbn
         clear ho hb1 hbk hb2 hbn)
      | (at_builtin; refine wp_tw w.heap.size _ (.agg #[.int .i64 0, .int .i64 0, .int .i64 0]) rfl _ _ 37 rfl Try.underlying37 (by kernel_rfl) rfl _ F rfl HO3.out w1.heap.size _ (at_, s, t + 1) rfl HBN.out (by omega) (by simp [World.setCell]; omega) ?_; intro v' w' ho hg; obtain ⟨A2, c2, rfl, _⟩ := ho.form; rw [List.length_append, List.length_singleton] at ho; have hb3 := (HB2.out.alloc (.cells #[.int .i64 at_, .int .i64 s, .int .i64 (t + 1)] 57)).grown hg (fun e => by have := (World.ownsRow.lt HO3.out m e.symm).1; omega); have e0 : w'.cell? ⟨m, 0, none⟩ = some (.slice A M.length c) := hb3.cell 0; have g0 := hb3.frozen 0; have HB3 := Lib.hid hb3; have HOF := Lib.hid ho; have HKF := Lib.hid ((HK2.out.alloc (.cells #[.int .i64 at_, .int .i64 s, .int .i64 (t + 1)] 57)).grown hg (fun q hq => .inr (World.ownsRow.lt HO3.out q hq).1)); clear ho hg hb3))
    go_ret
    refine ⟨rfl, ?_, Kp.set_ (S := (· = m)) HKF.out ⟨m, 0, none⟩ (.inl rfl) _⟩
    have h := rf_store (M := F ++ [(at_, s, t + 1)]) HB3.out (show Ro w' w.heap.size (.slice A2 (F ++ [(at_, s, t + 1)]).length c2) _ by rw [List.length_append, List.length_singleton]; exact HOF.out) hlt
    rwa [List.length_append, List.length_singleton] at h
set_option maxRecDepth 100000 in
set_option maxHeartbeats 2000000 in
theorem rdrop_ok (m : Nat) (M : List Tw) (t s : Int) (w : World) (hR : Rf w m M t) (hl : M.length ≤ 16) :
    Calls Try.prog 13 #[.pointer (some ⟨m, 0, none⟩), .int .i64 s] w fun e w' => (e = .returned (.bool (decide ((fil s M).length < M.length))) ∧ Rf w' m (fil s M) t ∧ Kp (· = m) w w') ∧ ∀ A n c, w'.cell? ⟨m, 0, none⟩ = some (.slice (some A) n c) → w.heap.size ≤ A.block := by
  have HO := Lib.hid (others_ok m M t s w hR hl)
  have hlt := hR.lt
  obtain ⟨A, c, hb, hA⟩ := hR
  have HB := Lib.hid hb
  have c0 : w.cell? ⟨m, 0, none⟩ = some (.slice A M.length c) := hb.cell 0
  clear hA hb
  generalize fil s M = F at HO ⊢
  generalize M.length = N at c0 HB ⊢
  go_enter Try.func13, Try.ntmps13
  go_wp2_with (go_at_call 22; (with_reducible refine Calls.mono HO.out ?_); rintro e w1 ⟨⟨v, rfl, ho⟩, hb1⟩; obtain ⟨A1, c1, rfl, _⟩ := ho.form; have hbk := HB.out.keeps hb1; have e0 : w1.cell? ⟨m, 0, none⟩ = some (.slice A N c) := hbk.cell 0; have g0 := hbk.frozen 0; have HB1 := Lib.hid hb1; have HO1 := Lib.hid ho; have HBK := Lib.hid hbk; clear ho hb1 hbk)
  go_ret
  refine ⟨⟨rfl, rf_store HBK.out HO1.out hlt, Kp.set_ (S := (· = m)) (Kp.of_below HB1.out) ⟨m, 0, none⟩ (.inl rfl) _⟩, fun A' n c' h => ?_⟩
  have h2 := (HBK.out.set_ 0 (.slice A1 F.length c1)).cell 0
  rw [h] at h2
  have h3 : Value.slice (some A') n c' = .slice A1 F.length c1 := by injection h2
  rcases HO1.out.2 with ⟨e, _⟩ | ⟨g, c2, cur, e, hg, _⟩
  · rw [e] at h3
    cases h3
  · rw [e] at h3
    injection h3 with h3
    injection h3 with h3
    rw [h3]
    exact hg
/-- Where the first stands; -1: there is none. -/
def FstAt (M : List Tw) (b : Int) : Prop := (M = [] ∧ b = -1) ∨ ∃ i : Nat, b = i ∧ Fst M i
set_option maxRecDepth 100000 in
set_option maxHeartbeats 4000000 in
theorem first_ok (m : Nat) (M : List Tw) (t t0 : Int) (w : World) (hR : Rf w m M t) (hM : Md M t0) :
    Calls Try.prog 23 #[.pointer (some ⟨m, 0, none⟩)] w fun e w' => (∃ b, e = .returned (.int .i64 b) ∧ FstAt M b) ∧ Below w.heap.size w w' := by
  obtain ⟨A, c, hb, hA⟩ := hR
  have HBK := Lib.hid hb
  have c0 := hb.cell 0
  have hmlt := hb.lt
  have HA := Lib.hid hA
  have HTR := Lib.hid hM.trn
  have hl := hM.len
  obtain ⟨N, hN⟩ : ∃ N, M.length = N := ⟨_, rfl⟩
  simp only [hN] at c0 HA HBK
  clear hb hA hM
  go_enter Try.func23, Try.ntmps23
  go_wp2
  go_loopw [3, 11] (fun s3 s11 wr => ∃ k b, Aside (k ≤ N ∧ s11 = .int .i64 (k : Nat) ∧ s3 = .int .i64 b ∧ Below w.heap.size w wr ∧ ((k = 0 ∧ b = -1) ∨ ∃ i : Nat, b = i ∧ i < k ∧ (∀ j, j < i → (M.getD i (0, 0, 0)).1 < (M.getD j (0, 0, 0)).1) ∧ ∀ j, i < j → j < k → (M.getD i (0, 0, 0)).1 ≤ (M.getD j (0, 0, 0)).1))) (fun _ s11 _ => N - (intOf s11).toNat)
  case atStart => exact ⟨0, -1, Nat.zero_le _, rfl, rfl, Below.refl _ _, .inl ⟨rfl, rfl⟩⟩
  case round =>
    obtain ⟨k, b, hX⟩ := hrel
    obtain ⟨hk, rfl, rfl, hB, hF⟩ := hX.out
    have HB := Lib.hid hB
    have HF := Lib.hid hF
    have hsz := hB.size
    clear hX hB hF c0
    by_cases hlt : k < N
    · have n1 : (k : Int) < (N : Int) := by omega
      obtain ⟨g, rfl, _, hE⟩ := HA.out (by omega)
      have HE := Lib.hid (hE.kp (S := fun _ => False) (Kp.of_below HB.out) (fun h => h))
      obtain ⟨x0, x1, x2⟩ := HE.out.2 k (by omega)
      have hglt : g < wr.heap.size := by
        obtain ⟨C, hC⟩ := HE.out.1
        exact hC.lt
      obtain ⟨x, hx⟩ : ∃ x, M.getD k (0, 0, 0) = x := ⟨_, rfl⟩
      rw [hx] at x0 x1 x2
      have HX := Lib.hid hx
      have hN1 : Blk (wr.alloc (.cells #[.int .i64 x.1, .int .i64 x.2.1, .int .i64 x.2.2] 57)).drew wr.heap.size 57 #[.int .i64 x.1, .int .i64 x.2.1, .int .i64 x.2.2] := (Blk.new _ _ _).drew
      have d0 : (wr.alloc (.cells #[.int .i64 x.1, .int .i64 x.2.1, .int .i64 x.2.2] 57)).drew.cell? ⟨wr.heap.size, 0, none⟩ = some (.int .i64 x.1) := hN1.cell 0
      have d2 : (wr.alloc (.cells #[.int .i64 x.1, .int .i64 x.2.1, .int .i64 x.2.2] 57)).drew.cell? ⟨wr.heap.size, 2, none⟩ = some (.int .i64 x.2.2) := hN1.cell 2
      have e0 : (wr.alloc (.cells #[.int .i64 x.1, .int .i64 x.2.1, .int .i64 x.2.2] 57)).drew.cell? ⟨m, 0, none⟩ = some (.slice (some ⟨g, 0, none⟩) N c) := (((HBK.out.keeps HB.out).alloc _).drew).cell 0
      have HB2 := Lib.hid (HB.out.alloc hsz (.cells #[.int .i64 x.1, .int .i64 x.2.1, .int .i64 x.2.2] 57))
      clear hE hx hN1
      have HF2 := HF.out
      rcases HF2 with ⟨rfl, rfl⟩ | ⟨i, rfl, hik, hbf, haf⟩
      · clear HF
        go_wp2
        refine wp_region_seq [(0, true), (1, true), (2, true), (3, true), (4, true), (5, true), (6, true), (7, true), (8, true), (9, true), (10, true), (11, true), (12, true), (13, true), (14, true), (15, true), (16, true), (17, true), (18, true), (19, true), (20, true), (21, true), (22, true), (23, true), (24, true), (25, true), (26, true), (27, true), (28, true), (29, true), (30, true), (31, true), (32, true), (33, true), (34, true), (35, true), (36, true), (37, true), (38, true), (39, true), (40, true)] (fun w' => w'.cell? ⟨m, 0, none⟩ = some (.slice (some ⟨g, 0, none⟩) N c)) (by kernel_rfl) (by kernel_rfl) e0 (fun hHeld => ?_)
        clear hHeld
        simp only [List.map_cons, List.map_nil, List.getElem?_toArray, List.getElem?_cons_zero, List.getElem?_cons_succ]
        repeat (first | (refine seq_skip (by rfl) ?_; try simp only [Act.put, List.setIfInBounds_toArray, List.set_cons_zero, List.set_cons_succ]) | (refine seq_not (by rfl) (by assumption) ?_; try simp only [Act.put, List.setIfInBounds_toArray, List.set_cons_zero, List.set_cons_succ]) | (refine seq_take (v := ?_) (by rfl) ?_ ?_; rotate_left; (focus ((intro w hSw; (try dsimp only at hSw); go_simp; (try with_reducible rfl)); done)); try simp only [Act.put, List.setIfInBounds_toArray, List.set_cons_zero, List.set_cons_succ]))
        refine seq_done ?_
        all_goals
          go_wp2
          go_roundw
          case rel => exact ⟨1, 0, by omega, by go_num, rfl, HB2.out.drew, .inr ⟨0, rfl, by omega, fun j hj => by omega, fun j h1 h2 => by omega⟩⟩
          case measure => simp [intOf]; omega
      · clear HF
        have HBF := Lib.hid hbf
        have HAF := Lib.hid haf
        clear hbf haf
        have hE3 := HE.out.kp (S := fun _ => False) (((Kp.refl _ wr).alloc (.cells #[.int .i64 x.1, .int .i64 x.2.1, .int .i64 x.2.2] 57)).drew) (fun h => h)
        obtain ⟨y0, y1, y2⟩ := hE3.2 i (by omega)
        have n2 : (i : Int) < (N : Int) := by omega
        have htr : (M.getD i (0, 0, 0)).2.2 < x.2.2 := by
          rw [← HX.out, List.getD_eq_getElem?_getD, List.getD_eq_getElem?_getD, List.getElem?_eq_getElem (show i < M.length by omega), List.getElem?_eq_getElem (show k < M.length by omega)]
          exact List.pairwise_iff_getElem.1 HTR.out i k (by omega) (by omega) hik
        obtain ⟨y, hy⟩ : ∃ y, M.getD i (0, 0, 0) = y := ⟨_, rfl⟩
        rw [hy] at y0 y1 y2 htr
        have HY := Lib.hid hy
        clear hE3 hy y1
        have hm0 : ¬ ((i : Int) < 0) := by omega
        rcases Int.lt_trichotomy x.1 y.1 with hlt' | heq | hgt
        · have k1 : decide (x.1 < y.1) = true := decide_eq_true hlt'
          have HL := Lib.hid hlt'
          clear hlt'
          go_wp2
          refine wp_region_seq [(0, true), (1, true), (2, true), (3, true), (4, true), (5, true), (6, true), (7, true), (8, true), (9, true), (10, true), (11, true), (12, true), (13, true), (14, true), (15, true), (16, true), (17, true), (18, true), (19, true), (20, true), (21, true), (22, true), (23, true), (24, true), (25, true), (26, true), (27, true), (28, true), (29, true), (30, true), (31, true), (32, true), (33, true), (34, true), (35, true), (36, true), (37, true), (38, true), (39, true), (40, true)] (fun w' => w'.cell? ⟨m, 0, none⟩ = some (.slice (some ⟨g, 0, none⟩) N c) ∧ w'.cell? ⟨wr.heap.size, 0, none⟩ = some (.int .i64 x.1) ∧ w'.cell? ⟨wr.heap.size, 2, none⟩ = some (.int .i64 x.2.2) ∧ w'.cell? ⟨g, i * 3, none⟩ = some (.int .i64 y.1) ∧ w'.cell? ⟨g, i * 3 + 2, none⟩ = some (.int .i64 y.2.2)) (by kernel_rfl) (by kernel_rfl) ⟨e0, d0, d2, y0, y2⟩ (fun hHeld => ?_)
          clear hHeld
          simp only [List.map_cons, List.map_nil, List.getElem?_toArray, List.getElem?_cons_zero, List.getElem?_cons_succ]
          repeat (first | (refine seq_skip (by rfl) ?_; try simp only [Act.put, List.setIfInBounds_toArray, List.set_cons_zero, List.set_cons_succ]) | (refine seq_not (by rfl) (by assumption) ?_; try simp only [Act.put, List.setIfInBounds_toArray, List.set_cons_zero, List.set_cons_succ]) | (refine seq_take (v := ?_) (by rfl) ?_ ?_; rotate_left; (focus ((intro w hSw; (try dsimp only at hSw); go_simp; (try with_reducible rfl)); done)); try simp only [Act.put, List.setIfInBounds_toArray, List.set_cons_zero, List.set_cons_succ]))
          refine seq_done ?_
          go_wp2
          go_roundw
          case rel =>
            refine ⟨k + 1, k, by omega, by go_num, rfl, HB2.out.drew, .inr ⟨k, rfl, by omega, fun j hj => ?_, fun j h1 h2 => by omega⟩⟩
            rw [HX.out]
            have hl := HL.out
            rcases Nat.lt_trichotomy j i with h | h | h
            · have := HBF.out j h
              rw [HY.out] at this
              omega
            · rw [h, HY.out]; exact hl
            · have := HAF.out j h hj
              rw [HY.out] at this
              omega
          case measure => simp [intOf]; omega
        · have k1 : decide (x.1 < y.1) = false := decide_eq_false (by omega)
          have k2 : (x.1 == y.1) = true := by simpa using heq
          have k3 : decide (x.2.2 < y.2.2) = false := decide_eq_false (by omega)
          have HL := Lib.hid heq
          have HTT := Lib.hid htr
          clear heq htr
          go_wp2
          refine wp_region_seq [(0, true), (1, true), (2, true), (3, true), (4, true), (5, true), (6, true), (7, true), (8, true), (9, true), (10, true), (11, true), (12, true), (13, true), (14, true), (15, true), (16, true), (17, true), (18, true), (19, true), (20, true), (21, true), (22, true), (23, true), (24, true), (25, true), (26, true), (27, true), (28, true), (29, true), (30, true), (31, true), (32, true), (33, true), (34, true), (35, true), (36, true), (37, true), (38, true), (39, true), (40, true)] (fun w' => w'.cell? ⟨m, 0, none⟩ = some (.slice (some ⟨g, 0, none⟩) N c) ∧ w'.cell? ⟨wr.heap.size, 0, none⟩ = some (.int .i64 x.1) ∧ w'.cell? ⟨wr.heap.size, 2, none⟩ = some (.int .i64 x.2.2) ∧ w'.cell? ⟨g, i * 3, none⟩ = some (.int .i64 y.1) ∧ w'.cell? ⟨g, i * 3 + 2, none⟩ = some (.int .i64 y.2.2)) (by kernel_rfl) (by kernel_rfl) ⟨e0, d0, d2, y0, y2⟩ (fun hHeld => ?_)
          clear hHeld
          simp only [List.map_cons, List.map_nil, List.getElem?_toArray, List.getElem?_cons_zero, List.getElem?_cons_succ]
          repeat (first | (refine seq_skip (by rfl) ?_; try simp only [Act.put, List.setIfInBounds_toArray, List.set_cons_zero, List.set_cons_succ]) | (refine seq_not (by rfl) (by assumption) ?_; try simp only [Act.put, List.setIfInBounds_toArray, List.set_cons_zero, List.set_cons_succ]) | (refine seq_take (v := ?_) (by rfl) ?_ ?_; rotate_left; (focus ((intro w hSw; (try dsimp only at hSw); go_simp; (try with_reducible rfl)); done)); try simp only [Act.put, List.setIfInBounds_toArray, List.set_cons_zero, List.set_cons_succ]))
          refine seq_done ?_
          go_wp2
          go_roundw
          case rel =>
            refine ⟨k + 1, i, by omega, by go_num, rfl, HB2.out.drew, .inr ⟨i, rfl, by omega, HBF.out, fun j h1 h2 => ?_⟩⟩
            by_cases h : j = k
            · rw [h, HX.out, HY.out]
              have := HL.out
              omega
            · exact HAF.out j h1 (by omega)
          case measure => simp [intOf]; omega
        · have k1 : decide (x.1 < y.1) = false := decide_eq_false (by omega)
          have k2 : (x.1 == y.1) = false := by simp; omega
          have HL := Lib.hid hgt
          clear hgt htr
          go_wp2
          refine wp_region_seq [(0, true), (1, true), (2, true), (3, true), (4, true), (5, true), (6, true), (7, true), (8, true), (9, true), (10, true), (11, true), (12, true), (13, true), (14, true), (15, true), (16, true), (17, true), (18, true), (19, true), (20, true), (21, true), (22, true), (23, true), (24, true), (25, true), (26, true), (27, true), (28, true), (29, true), (30, true), (31, true), (32, true), (33, true), (34, true), (35, true), (36, true), (37, true), (38, true), (39, true), (40, true)] (fun w' => w'.cell? ⟨m, 0, none⟩ = some (.slice (some ⟨g, 0, none⟩) N c) ∧ w'.cell? ⟨wr.heap.size, 0, none⟩ = some (.int .i64 x.1) ∧ w'.cell? ⟨wr.heap.size, 2, none⟩ = some (.int .i64 x.2.2) ∧ w'.cell? ⟨g, i * 3, none⟩ = some (.int .i64 y.1) ∧ w'.cell? ⟨g, i * 3 + 2, none⟩ = some (.int .i64 y.2.2)) (by kernel_rfl) (by kernel_rfl) ⟨e0, d0, d2, y0, y2⟩ (fun hHeld => ?_)
          clear hHeld
          simp only [List.map_cons, List.map_nil, List.getElem?_toArray, List.getElem?_cons_zero, List.getElem?_cons_succ]
          repeat (first | (refine seq_skip (by rfl) ?_; try simp only [Act.put, List.setIfInBounds_toArray, List.set_cons_zero, List.set_cons_succ]) | (refine seq_not (by rfl) (by assumption) ?_; try simp only [Act.put, List.setIfInBounds_toArray, List.set_cons_zero, List.set_cons_succ]) | (refine seq_take (v := ?_) (by rfl) ?_ ?_; rotate_left; (focus ((intro w hSw; (try dsimp only at hSw); go_simp; (try with_reducible rfl)); done)); try simp only [Act.put, List.setIfInBounds_toArray, List.set_cons_zero, List.set_cons_succ]))
          refine seq_done ?_
          go_wp2
          go_roundw
          case rel =>
            refine ⟨k + 1, i, by omega, by go_num, rfl, HB2.out.drew, .inr ⟨i, rfl, by omega, HBF.out, fun j h1 h2 => ?_⟩⟩
            by_cases h : j = k
            · rw [h, HX.out, HY.out]
              have := HL.out
              omega
            · exact HAF.out j h1 (by omega)
          case measure => simp [intOf]; omega
    · have hk : k = N := by omega
      subst hk
      go_wp2
      go_ret
      refine ⟨⟨b, rfl, ?_⟩, HB.out⟩
      rcases HF.out with ⟨h1, h2⟩ | ⟨i, h1, h2, h3, h4⟩
      · exact .inl ⟨List.eq_nil_of_length_eq_zero (by omega), h2⟩
      · exact .inr ⟨i, h1, by omega, h3, fun j h5 h6 => h4 j h5 (by omega)⟩
theorem Rf.grown {w w' : World} {m base : Nat} {M : List Tw} {t : Int} {v : Value} {l : List Int} (h : Rf w m M t) (ho : Oi .i64 3 w base v l) (hm : m < base) (hg : w.grownBy w' v.ownBlock) : Rf w' m M t := by
  obtain ⟨A, c, hb, hA⟩ := h
  refine ⟨A, c, hb.grown hg (fun e => by have := (ho.owner m e.symm).1; omega), fun h0 => ?_⟩
  obtain ⟨g, rfl, h1, h2⟩ := hA h0
  refine ⟨g, rfl, h1, h2.kp (S := fun k => some k = v.ownBlock) ((Kp.refl _ _).grown hg (fun q e => .inl e.symm)) (fun e => ?_)⟩
  obtain ⟨⟨C, hC⟩, _⟩ := h2
  rcases ho.2 with ⟨rfl, _⟩ | ⟨q, c', cur, rfl, _, hq, _⟩
  · cases e
  · injection e with e
    exact Blk.ne_ hC (show Blk w q 3 cur from hq) (by decide) e
set_option maxRecDepth 100000 in
set_option maxHeartbeats 2000000 in
theorem rdue_ok (m : Nat) (M : List Tw) (t now : Int) (w : World) (hR : Rf w m M t) (hM : Md M t) :
    Calls Try.prog 14 #[.pointer (some ⟨m, 0, none⟩), .int .i64 now] w fun e w' => (∃ v, e = .returned v ∧ Oi .i64 3 w' w.heap.size v (dues (srt M) now)) ∧ (∃ M', Rf w' m M' t ∧ Md M' t ∧ srt M' = left (srt M) now) ∧ Kp (· = m) w w' := by
  have HR := Lib.hid hR
  have HM := Lib.hid hM
  have hmlt := hR.lt
  have hl := hM.len
  clear hR hM
  go_enter Try.func14, Try.ntmps14
  go_wp2
  go_loopg [5, 6] M.length (fun gg s5 _ wr => ∃ ds M', Aside (M'.length ≤ gg ∧ ds.length + M'.length ≤ 16 ∧ ds ++ dues (srt M') now = dues (srt M) now ∧ left (srt M') now = left (srt M) now ∧ Rf wr m M' t ∧ Md M' t ∧ Kp (· = m) w wr ∧ Oi .i64 3 wr w.heap.size s5 ds))
  case atStart => exact ⟨[], M, Nat.le_refl _, by simpa using hl, by simp, rfl, HR.out, HM.out, Kp.refl _ _, Oi.nil _ _ _ _⟩
  case round =>
    obtain ⟨ds, M', hX⟩ := hrel
    have HX := Lib.hid hX.out
    have hMd := HX.out.2.2.2.2.2.1
    have HFI := Lib.hid (first_ok m M' t t wr HX.out.2.2.2.2.1 hMd)
    have hsz := HX.out.2.2.2.2.2.2.1.size
    clear hX HR HM
    go_upto_region 3 with (go_at_call 23; (with_reducible refine Calls.mono HFI.out ?_); rintro e w1 ⟨⟨b, rfl, hb⟩, hb1⟩; have HFA := Lib.hid hb; have HB1 := Lib.hid hb1; clear hb hb1)
    have HR1 := Lib.hid (HX.out.2.2.2.2.1.keeps HB1.out)
    have HO1 := Lib.hid (HX.out.2.2.2.2.2.2.2.below HB1.out)
    have HK1 := Lib.hid (HX.out.2.2.2.2.2.2.1.below HB1.out)
    have hsz1 := HB1.out.size
    have hfa := HFA.out
    clear HFI HFA hMd HB1
    rcases hfa with ⟨rfl, rfl⟩ | ⟨i, rfl, hF⟩
    · go_wp2
      go_ret
      refine ⟨⟨_, rfl, ?_⟩, ⟨[], HR1.out, md_nil t, HX.out.2.2.2.1⟩, HK1.out⟩
      have h1 := HX.out.2.2.1
      rw [show dues (srt []) now = [] from rfl, List.append_nil] at h1
      rw [← h1]
      exact HO1.out
    · obtain ⟨l, hl1, hl2⟩ := drop_first HX.out.2.2.2.2.2.1 hF
      obtain ⟨A, c, hbm, hA⟩ := HR1.out
      have hiN := hF.lt
      obtain ⟨g, rfl, _, hE⟩ := hA (by omega)
      obtain ⟨x0, x1, _⟩ := hE.2 i hiN
      have c0 : w1.cell? ⟨m, 0, none⟩ = some (.slice (some ⟨g, 0, none⟩) M'.length c) := hbm.cell 0
      obtain ⟨x, hx⟩ : ∃ x, M'.getD i (0, 0, 0) = x := ⟨_, rfl⟩
      rw [hx] at x0 x1 hl1 hl2
      have HXE := Lib.hid hx
      have HL1 := Lib.hid hl1
      have HL2 := Lib.hid hl2
      obtain ⟨N, hN⟩ : ∃ N, M'.length = N := ⟨_, rfl⟩
      rw [hN] at c0 hiN
      have n1 : (i : Int) < (N : Int) := by omega
      have n0 : ¬ ((i : Int) < 0) := by omega
      clear hbm hA hE hl1 hl2 hx hF
      by_cases hnow : now < x.1
      · have k1 : decide (now < x.1) = true := decide_eq_true hnow
        have HN := Lib.hid hnow
        clear hnow
        go_wp2
        go_ret
        have hd : dues (srt M') now = [] := by rw [HL1.out, dues_cons, if_neg (by have := HN.out; show ¬ x.1 ≤ now; omega)]
        have hlf : left (srt M') now = srt M' := by rw [HL1.out, left_cons, if_neg (by have := HN.out; show ¬ x.1 ≤ now; omega)]
        refine ⟨⟨_, rfl, ?_⟩, ⟨M', HR1.out, HX.out.2.2.2.2.2.1, by rw [← hlf]; exact HX.out.2.2.2.1⟩, HK1.out⟩
        have h1 := HX.out.2.2.1
        rw [hd, List.append_nil] at h1
        rw [← h1]
        exact HO1.out
      · have k1 : decide (now < x.1) = false := decide_eq_false hnow
        have HN := Lib.hid hnow
        have HO2 := Lib.hid (HO1.out.alloc (.cells #[.int .i64 x.2.1] 3))
        have HXR := Lib.hid (Ri.lit .i64 3 w1 [x.2.1] (by simp [maxLen]) #[.int .i64 x.2.1] rfl (mk := (0, 0)))
        have HK2 := Lib.hid (HK1.out.alloc (.cells #[.int .i64 x.2.1] 3))
        have HR2 := Lib.hid (HR1.out.keeps ((Below.refl _ w1).alloc (Nat.le_refl _) (.cells #[.int .i64 x.2.1] 3)))
        have hds := HX.out.2.1
        have hge := HX.out.1
        clear hnow
        go_upto_region 6 with (at_builtin; refine wp_append .i64 3 _ w.heap.size (.int .i64 0) 8 rfl _ _ 22 rfl Try.underlying22 (by kernel_rfl) rfl _ ds _ _ [x.2.1] 1 rfl rfl rfl HO2.out HXR.out ?_ ?_ ?_ ?_)
        · unfold maxLen
          first | omega | (simp only [List.length_singleton]; omega)
        · first | omega | (simp only [List.length_singleton]; omega)
        · have := HK2.out.size; omega
        intro v' w2 ho hg hown
        have HR3 := Lib.hid (HR2.out.grown HO2.out hmlt hg)
        have HO3 := Lib.hid ho
        have HK3 := Lib.hid (HK2.out.grown hg (fun p hp => .inr (HO2.out.owner p hp).1))
        have HDR := Lib.hid (rdrop_ok m M' t x.2.1 w2 HR3.out (by omega))
        obtain ⟨A', c', hbm, hA⟩ := HR3.out
        obtain ⟨g', rfl, _, hE⟩ := hA (by omega)
        obtain ⟨y0, y1, _⟩ := hE.2 i (by omega)
        have hb3 : w2.cell? ⟨m, 0, none⟩ = some (.slice (some ⟨g', 0, none⟩) N c') := by have := hbm.cell 0; rw [hN] at this; exact this
        rw [HXE.out] at y0 y1
        have hg7 := hg.size
        have hfl : (fil x.2.1 M').length < M'.length := by
          have := congrArg List.length HL2.out
          rw [srt_length] at this
          have h2 := congrArg List.length HL1.out
          rw [srt_length, List.length_cons] at h2
          omega
        clear hbm hA hE ho hg hown x0 x1 c0 HR2 HO2 HK2 HXR HR1 HO1 HK1
        go_wp2_with (go_at_call 13; (with_reducible refine Calls.mono HDR.out ?_); rintro e w3 ⟨⟨rfl, hr3, hk3⟩, _⟩; have HR4 := Lib.hid hr3; have HK4 := Lib.hid (HK3.out.trans hk3); have HO4 := Lib.hid (oi_kp HO3.out hk3 (fun q hq e => by have := (HO3.out.owner q hq).1; omega)); clear hr3 hk3)
        go_roundg (fil x.2.1 M').length
        case measure => omega
        case rel =>
          refine ⟨ds ++ [x.2.1], fil x.2.1 M', (show Aside _ from ⟨Nat.le_refl _, by simp only [List.length_append, List.length_singleton]; omega, ?_, ?_, HR4.out, md_fil HX.out.2.2.2.2.2.1 _, HK4.out, HO4.out⟩)⟩
          · have h1 := HX.out.2.2.1
            rw [HL1.out, dues_cons, if_pos (show (two x).1 ≤ now by have := HN.out; show x.1 ≤ now; omega)] at h1
            rw [HL2.out, ← h1, List.append_assoc]
            rfl
          · have h1 := HX.out.2.2.2.1
            rw [HL1.out, left_cons, if_pos (show (two x).1 ≤ now by have := HN.out; show x.1 ≤ now; omega)] at h1
            rw [HL2.out, ← h1]
end Go.Proofs.Ytmheabnpkbhadaa.Rm
