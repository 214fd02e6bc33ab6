/- The row's box; find, Drop, Len, Set. -/
import Derived.Test.YtmheabnpkbhadaaIs
import Derived.Test.YtmheabnpkbhadaaTq
import Derived.Test.YtmheabnpkbhadaaSp
import Derived.Deep.DeepCutAuto
import Derived.Deep.CutBlock
namespace Go.Proofs.Ytmheabnpkbhadaa.Se
open Go.RowKit Go.Proofs.Ytmheabnpkbhadaa.Sq Go.Proofs.Ytmheabnpkbhadaa.Sp Go.Proofs.Ytmheabnpkbhadaa.Bk Go.Proofs.Ytmheabnpkbhadaa.Kp Go.Proofs.Ytmheabnpkbhadaa.Rw Go.Proofs.Ytmheabnpkbhadaa.Tp Go.Proofs.Ytmheabnpkbhadaa.Tl Go.Proofs.Ytmheabnpkbhadaa.Tq Go.Proofs.Ytmheabnpkbhadaa.Is
/-- Box r is a row of these timers; block q is its cells' (r itself: none yet). -/
def RB (w : World) (r q : Nat) (l : List One) : Prop := ∃ v, Blk w r 26 #[v] ∧ ((v = .slice none 0 0 ∧ l = [] ∧ q = r) ∨ (Rs w v q l ∧ q ≠ r))
section
variable {w w' : World} {r q : Nat} {l : List One}
theorem RB.rn (h : RB w r q l) : ∃ v, Blk w r 26 #[v] ∧ Rn w v q l := by
  obtain ⟨v, hb, h⟩ := h
  exact ⟨v, hb, h.imp (fun h => ⟨h.1, h.2.1⟩) (·.1)⟩
theorem RB.ltr (h : RB w r q l) : r < w.heap.size := by
  obtain ⟨v, hb, _⟩ := h
  exact hb.lt
theorem RB.ltq (h : RB w r q l) : q < w.heap.size := by
  obtain ⟨v, hb, h | h⟩ := h
  · rw [h.2.2]; exact hb.lt
  · exact h.1.lt
theorem RB.kp {S : Nat → Prop} (h : RB w r q l) (hk : Kp S w w') (hr : ¬ S r) (hq : ¬ S q) : RB w' r q l := by
  obtain ⟨v, hb, h⟩ := h
  exact ⟨v, blk_kp hb hk hr, h.imp id fun h => ⟨h.1.kp hk hq, h.2⟩⟩
theorem RB.keeps (h : RB w r q l) (hb : Below w.heap.size w w') : RB w' r q l := by
  obtain ⟨v, h1, h⟩ := h
  exact ⟨v, h1.keeps hb, h.imp id fun h => ⟨h.1.keeps hb, h.2⟩⟩
theorem RB.new (w : World) : RB (w.alloc (.cells #[.slice none 0 0] 26)) w.heap.size w.heap.size [] := ⟨_, Blk.new w 26 _, .inl ⟨rfl, rfl, rfl⟩⟩
theorem RB.drew (h : RB w r q l) : RB w.drew r q l := h
theorem RB.alloc (h : RB w r q l) (o : Obj) : RB (w.alloc o) r q l := h.keeps ((Below.refl _ _).alloc (Nat.le_refl _) _)
end
theorem pred25 (what : Int) (B : Nat) (w : World) (hc : w.cell? ⟨B, 0, none⟩ = some (.int .i64 what)) (hB : B < w.heap.size) (W : World) (x : One) (hb : Below w.heap.size w W) :
    Calls Try.prog 25 (#[.agg #[.int .i64 x.1, .int .i64 x.2]] ++ #[.pointer (some ⟨B, 0, none⟩)]) W fun e w' => e = .returned (.bool (x.2 == what)) ∧ Below w.heap.size w w' := by
  have h1 : W.cell? ⟨B, 0, none⟩ = some (.int .i64 what) := (hb.cell (p := ⟨B, 0, none⟩) hB).trans hc
  have hW : B < W.heap.size := Nat.lt_of_lt_of_le hB hb.size
  have hne : B ≠ W.heap.size := by omega
  have HB := Lib.hid (hb.alloc hb.size (.cells #[.int .i64 x.1, .int .i64 x.2] 51))
  show Calls Try.prog 25 #[.agg #[.int .i64 x.1, .int .i64 x.2], .pointer (some ⟨B, 0, none⟩)] W _
  clear hb hc hB
  go_enter Try.func25, Try.ntmps25
  go_wp2
  all_goals (go_ret; exact ⟨by first | rfl | (simp_all; done), HB.out⟩)
theorem pred20 (t : Int) (B : Nat) (w : World) (hc : w.cell? ⟨B, 0, none⟩ = some (.int .i64 t)) (hB : B < w.heap.size) (W : World) (x : One) (hb : Below w.heap.size w W) :
    Calls Try.prog 20 (#[.agg #[.int .i64 x.1, .int .i64 x.2]] ++ #[.pointer (some ⟨B, 0, none⟩)]) W fun e w' => e = .returned (.bool (decide (x.1 > t))) ∧ Below w.heap.size w w' := by
  have h1 : W.cell? ⟨B, 0, none⟩ = some (.int .i64 t) := (hb.cell (p := ⟨B, 0, none⟩) hB).trans hc
  have hW : B < W.heap.size := Nat.lt_of_lt_of_le hB hb.size
  have hne : B ≠ W.heap.size := by omega
  have HB := Lib.hid (hb.alloc hb.size (.cells #[.int .i64 x.1, .int .i64 x.2] 51))
  show Calls Try.prog 20 #[.agg #[.int .i64 x.1, .int .i64 x.2], .pointer (some ⟨B, 0, none⟩)] W _
  clear hb hc hB
  go_enter Try.func20, Try.ntmps20
  go_wp2
  all_goals (go_ret; exact ⟨by first | rfl | (simp_all; done), HB.out⟩)
set_option maxHeartbeats 1000000 in
theorem find_ok (r q : Nat) (l : List One) (what : Int) (w : World) (hR : RB w r q l) :
    Calls Try.prog 17 #[.pointer (some ⟨r, 0, none⟩), .int .i64 what] w fun e w' => e = .returned (.int .i64 (idx (fun x => x.2 == what) l)) ∧ Below w.heap.size w w' := by
  obtain ⟨v, hb, hn⟩ := hR.rn
  have c0 : (w.alloc (.cells #[.int .i64 what] 3)).cell? ⟨r, 0, none⟩ = some v := (hb.alloc _).cell 0
  have hcon := index_ok 25 #[.pointer (some ⟨w.heap.size, 0, none⟩)] (fun x => x.2 == what) (enters_of Try.func25 (by kernel_rfl) rfl) v q l (w.alloc (.cells #[.int .i64 what] 3)) (hn.keeps ((Below.refl _ _).alloc (Nat.le_refl _) _))
    (pred25 what w.heap.size _ ((Blk.new w 3 #[.int .i64 what]).cell 0) (by simp))
  have hrB := hb.lt
  have HC := Lib.hid hcon
  have HB := Lib.hid ((Below.refl w.heap.size w).alloc (Nat.le_refl _) (.cells #[.int .i64 what] 3))
  clear hcon hn hR hb
  go_enter Try.func17, Try.ntmps17
  go_wp2_with (go_at_call 19; (with_reducible refine Calls.mono HC.out ?_); rintro e w' ⟨rfl, hb'⟩)
  go_ret
  exact ⟨rfl, HB.out.trans (hb'.mono (by simp))⟩
theorem len_ok (r q : Nat) (l : List One) (w : World) (hR : RB w r q l) :
    Calls Try.prog 10 #[.pointer (some ⟨r, 0, none⟩)] w fun e w' => e = .returned (.int .i64 l.length) ∧ w = w' := by
  obtain ⟨v, hb, hn⟩ := hR.rn
  obtain ⟨A, c, rfl, _, _, _⟩ := hn.form
  have c0 := hb.cell 0
  clear hb hn hR
  go_enter Try.func10, Try.ntmps10
  go_wp2
  go_ret
  exact ⟨rfl, rfl⟩
theorem len_nil (w : World) : Calls Try.prog 10 #[.pointer none] w fun e w' => e = .returned (.int .i64 0) ∧ w = w' := by
  go_enter Try.func10, Try.ntmps10
  go_wp2
  go_ret
  exact ⟨rfl, rfl⟩
/-- What a call leaves of the row: these timers; in the old block, or in a new one. -/
def PostR (r q : Nat) (l' : List One) (w w' : World) : Prop := (∃ q', RB w' r q' l' ∧ (q' = q ∨ w.heap.size ≤ q')) ∧ Kp (fun k => k = r ∨ k = q) w w'
theorem post_below {r q : Nat} {l : List One} {w w' : World} (h : RB w r q l) (hb : Below w.heap.size w w') : PostR r q l w w' := ⟨⟨q, h.keeps hb, .inl rfl⟩, Kp.of_below hb⟩
/-- The slice is laid into the box. -/
theorem rb_store {r q q' : Nat} {l' : List One} {v v' : Value} {w w1 w2 : World} (hb : Blk w r 26 #[v]) (hB : Below w.heap.size w w1) (hk : Kp (· = q) w1 w2) (hrq : r ≠ q) (hR : Rs w2 v' q' l') (hq : q' = q ∨ w1.heap.size ≤ q') :
    PostR r q l' w (w2.setCell ⟨r, 0, none⟩ v') := by
  have hr := hb.lt
  have hs := hB.size
  have hne : q' ≠ r := by rcases hq with h | h <;> omega
  refine ⟨⟨q', ⟨v', ?_, .inr ⟨?_, hne⟩⟩, hq.imp id (fun h => by omega)⟩, ?_⟩
  · have h2 : Blk w2 r 26 #[v] := blk_kp (hb.keeps hB) hk (fun h => hrq h)
    exact h2.set_ 0 v'
  · exact hR.kp (S := (· = r)) (Kp.set_ (S := (· = r)) (Kp.refl _ _) ⟨r, 0, none⟩ (.inl rfl) v') hne
  · exact (((Kp.of_below hB).trans ((hk.mono (S' := fun k => k = r ∨ k = q) (fun k _ h => .inr h)))).set_ _ (.inl (.inl rfl)) _)
/-- Is it there? -/
def has (l : List One) (what : Int) : Bool := l.any fun x => x.2 == what
theorem has_miss {l : List One} {what : Int} (h : ∀ x ∈ l, (x.2 == what) = false) : has l what = false := by
  unfold has
  rw [List.any_eq_false]
  intro x hx
  rw [h x hx]
  simp
theorem has_hit {l : List One} {what : Int} {i : Nat} (hi : i < l.length) (h : ((l.getD i (0, 0)).2 == what) = true) : has l what = true := by
  unfold has
  rw [List.any_eq_true]
  refine ⟨l.getD i (0, 0), ?_, h⟩
  rw [List.getD_eq_getElem?_getD, List.getElem?_eq_getElem hi]
  exact List.getElem_mem hi
set_option maxRecDepth 100000 in
set_option maxHeartbeats 2000000 in
theorem drop_ok (r q : Nat) (l : List One) (what : Int) (w : World) (hR : RB w r q l) (hO : Ok l) :
    Calls Try.prog 12 #[.pointer (some ⟨r, 0, none⟩), .int .i64 what] w fun e w' => e = .returned (.bool (has l what)) ∧ PostR r q (out what l) w w' := by
  have HF := Lib.hid (find_ok r q l what w hR)
  rcases idx_spec (fun x => x.2 == what) l with ⟨h1, h2⟩ | ⟨i, h1, h2, h3, _⟩
  · rw [has_miss h2, out_none what l h2]
    rw [h1] at HF
    have HR := Lib.hid hR
    clear hR
    go_enter Try.func12, Try.ntmps12
    go_wp2_with (go_at_call 17; (with_reducible refine Calls.mono HF.out ?_); rintro e w' ⟨rfl, hb'⟩)
    go_ret
    exact ⟨rfl, post_below HR.out hb'⟩
  · rw [has_hit h2 h3, ← out_at what l i hO.nd h2 h3]
    rw [h1] at HF
    obtain ⟨v, hb, hn⟩ := hR
    have hl0 : l ≠ [] := by rintro rfl; simp at h2
    obtain ⟨hRs, hqr⟩ : Rs w v q l ∧ q ≠ r := by
      rcases hn with ⟨_, h, _⟩ | h
      · exact absurd h hl0
      · exact h
    have h16 := hO.len
    have hD := fun w1 (hB : Below w.heap.size w w1) => Dl.delete_ok v q l i (i + 1) w1 (hRs.keeps hB) h2 rfl
    rw [show ((i + 1 : Nat) : Int) = (i : Int) + 1 by omega] at hD
    have HD := Lib.hid hD
    have HBK := Lib.hid hb
    have hw1 : IntKind.i64.wrap ((i : Int) + 1) = (i : Int) + 1 := by rw [IntKind.wrap_i64]; omega
    clear hn hb hRs h3 hl0 hO hD
    go_enter Try.func12, Try.ntmps12
    go_wp2_with (first
      | (go_at_call 17
         (with_reducible refine Calls.mono HF.out ?_)
         rintro e w1 ⟨rfl, hb1⟩
         have HB1 := Lib.hid hb1
         have c1 : w1.cell? ⟨r, 0, none⟩ = some v := (HBK.out.keeps hb1).cell 0
         clear hb1)
      | (go_at_call 18
         (with_reducible refine Calls.mono (HD.out _ HB1.out) ?_)
         rintro e w2 ⟨⟨v2, rfl, hR2⟩, hk2⟩
         obtain ⟨A2, n2, c2', rfl⟩ : ∃ A n c, v2 = .slice A n c := by
           obtain ⟨o, c, C, h, _⟩ := hR2
           exact ⟨_, _, _, h⟩
         have c2 : w2.cell? ⟨r, 0, none⟩ = some v := (blk_kp (HBK.out.keeps HB1.out) hk2 (fun h => hqr h.symm)).cell 0
         have f2 := (blk_kp (HBK.out.keeps HB1.out) hk2 (fun h => hqr h.symm)).frozen 0
         have HR2 := Lib.hid hR2
         have HK2 := Lib.hid hk2
         clear hR2 hk2 c1))
    go_ret
    exact ⟨rfl, rb_store HBK.out HB1.out HK2.out (fun h => hqr h.symm) HR2.out (.inl rfl)⟩
theorem kp_more {S S' : Nat → Prop} {w w1 w2 : World} (h : Kp S w w1) (h2 : Kp S' w1 w2) (hs : ∀ k, k < w.heap.size → S' k → S k) : Kp S w w2 :=
  ⟨h2.os.trans h.os, h2.tape.trans h.tape, h2.output.trans h.output, Nat.le_trans h.size h2.size, fun k hk hn => (h2.block k (Nat.lt_of_lt_of_le hk h.size) (fun h => hn (hs k hk h))).trans (h.block k hk hn)⟩
theorem post_trans {r q q3 : Nat} {l' : List One} {w W w' : World} (hk : Kp (fun k => k = r ∨ k = q) w W) (hq : q3 = q ∨ w.heap.size ≤ q3) (h : PostR r q3 l' W w') : PostR r q l' w w' := by
  obtain ⟨⟨q', h1, h2⟩, h3⟩ := h
  have hs := hk.size
  refine ⟨⟨q', h1, ?_⟩, ?_⟩
  · rcases h2 with rfl | h2
    · exact hq
    · exact .inr (by omega)
  · refine ⟨h3.os.trans hk.os, h3.tape.trans hk.tape, h3.output.trans hk.output, Nat.le_trans hk.size h3.size, fun k hlt hn => ?_⟩
    rw [h3.block k (by omega) (fun h => ?_), hk.block k hlt hn]
    rcases h with h | h
    · exact hn (.inl h)
    · rcases hq with e | e
      · exact hn (.inr (h.trans e))
      · omega
set_option maxRecDepth 100000 in
set_option maxHeartbeats 4000000 in
theorem set_ok (r q : Nat) (l : List One) (t what : Int) (w : World) (hR : RB w r q l) (hO : Ok l) :
    Calls Try.prog 8 #[.pointer (some ⟨r, 0, none⟩), .int .i64 t, .int .i64 what] w fun e w' => e = .returned (.int .i64 (code l what)) ∧ PostR r q (put l t what) w w' := by
  have hr := hR.ltr
  have hqlt := hR.ltq
  have hR0 := hR.alloc (.cells #[.int .i64 t] 3)
  have HF := Lib.hid (find_ok r q l what _ hR0)
  have HA0 := Lib.hid (Blk.new w 3 #[.int .i64 t])
  have HB0 := Lib.hid ((Below.refl w.heap.size w).alloc (Nat.le_refl _) (.cells #[.int .i64 t] 3))
  have hml := out_length what l
  have h16 := hO.len
  obtain ⟨m, hm⟩ : ∃ m, out what l = m := ⟨_, rfl⟩
  rw [hm] at hml
  rcases idx_spec (fun x => x.2 == what) l with ⟨h1, h2⟩ | ⟨i, h1, h2, h3, _⟩
  · have hml' : out what l = l := out_none what l h2
    rw [h1] at HF
    have HR0 := Lib.hid hR0
    have HM := Lib.hid (hm.symm.trans hml')
    clear hR hR0 hO h2 hml' h1
    go_enter Try.func8, Try.ntmps8
    go_upto_region 6 with (go_at_call 17; (with_reducible refine Calls.mono HF.out ?_); rintro e w2 ⟨rfl, hb'⟩; have HB2 := Lib.hid hb'; clear hb')
    · have HR2 : Hid (RB w2 r q m) := by rw [HM.out]; exact HR0.out.keeps HB2.out
      have HA : Hid (Blk w2 w.heap.size 3 #[.int .i64 t]) := HA0.out.keeps HB2.out
      have HP2 : Hid (PostR r q m w w2) := ⟨⟨q, HR2.out, .inl rfl⟩, Kp.of_below (HB0.out.trans (HB2.out.mono (by simp)))⟩
      obtain ⟨q2, hq2⟩ : ∃ q2, q = q2 := ⟨_, rfl⟩
      have HQ2 : Hid (q2 = q ∨ w.heap.size < q2) := .inl hq2.symm
      rw [hq2] at HR2
      clear HR0 HA0 HB2 HF HM hq2
      obtain ⟨v, hbv, hq3⟩ := HR2.out
      have HBV := Lib.hid hbv
      have hBlt := HA.out.lt
      have hrlt := hbv.lt
      have hBr : w.heap.size ≠ r := by omega
      have hrn : Rn w2 v q2 m := hq3.imp (fun h => ⟨h.1, h.2.1⟩) (·.1)
      obtain ⟨A, c, hv, hlc, hcm, _⟩ := hrn.form
      subst hv
      have HRN := Lib.hid hrn
      have HQ3 := Lib.hid hq3
      have v0 : w2.cell? ⟨r, 0, none⟩ = some (.slice A m.length c) := hbv.cell 0
      have ml := hml
      by_cases h16 : m.length = 16
      · have hcode : code l what = 6 := by unfold code; rw [hm, if_pos h16]
        have hput : put l t what = m := by unfold put; rw [hm, if_pos h16]
        have HCO := Lib.hid hcode
        have HPU := Lib.hid hput
        clear hcode hput hml hq3 hbv hrn
        rw [h16] at v0
        go_wp2
        go_ret
        exact ⟨by rw [HCO.out]; rfl, by rw [HPU.out]; exact HP2.out⟩
      · have hcode : code l what = 0 := by unfold code; rw [hm, if_neg h16]
        have hput : put l t what = ins t what m := by unfold put; rw [hm, if_neg h16]
        have HCO := Lib.hid hcode
        have HPU := Lib.hid hput
        obtain ⟨N, hN⟩ : ∃ N, m.length = N := ⟨_, rfl⟩
        have h16i : ¬ ((N : Int) = 16) := by omega
        have HIX := Lib.hid (index_ok 20 #[.pointer (some ⟨w.heap.size, 0, none⟩)] (fun x => decide (x.1 > t)) (enters_of Try.func20 (by kernel_rfl) rfl) _ q2 m w2 hrn (pred20 t w.heap.size w2 (HA.out.cell 0) hBlt))
        clear hcode hput hq3 hbv hrn
        have HI : Hid (∀ (i : Nat) (W : World), i ≤ N → m.take i ++ (t, what) :: m.drop i = ins t what m → Below w2.heap.size w2 W → Calls Try.prog 21 #[.slice A N c, .int .i64 i, .slice (some ⟨W.heap.size, 0, none⟩) 1 1] (W.alloc (.cells #[.int .i64 t, .int .i64 what] 51)).drew fun e w5 =>
            (∃ v' q', e = .returned v' ∧ Rs w5 v' q' (ins t what m) ∧ ((q' = q2 ∧ q2 ≠ r) ∨ W.heap.size < q')) ∧ Kp (fun k => k = q2 ∧ k ≠ r) (W.alloc (.cells #[.int .i64 t, .int .i64 what] 51)).drew w5) := fun i W hi he hb => by
          have hs := hb.size
          rw [← hN] at hi ⊢
          rcases HQ3.out with ⟨e1, e2, e3⟩ | ⟨e1, e2⟩
          · have h := insert_ok _ (W.heap.size + 1) m i W.heap.size (t, what) (W.alloc (.cells #[.int .i64 t, .int .i64 what] 51)).drew (.inl ⟨e1, e2⟩) hi (by omega) (Blk.new W _ _).drew (by omega)
            refine h.mono fun e w5 ⟨⟨v', q', h1, h2, h3⟩, h4⟩ => ⟨⟨v', q', h1, ?_, .inr (by rcases h3 with h3 | h3 <;> (try simp at h3) <;> omega)⟩, h4.mono fun k hk h => ?_⟩
            · rw [he] at h2
              exact h2
            · simp at hk
              omega
          · have hq2lt := e1.lt
            have h := insert_ok _ q2 m i W.heap.size (t, what) (W.alloc (.cells #[.int .i64 t, .int .i64 what] 51)).drew (.inr (e1.keeps (hb.alloc hs _).drew)) hi (by omega) (Blk.new W _ _).drew (by omega)
            refine h.mono fun e w5 ⟨⟨v', q', h1, h2, h3⟩, h4⟩ => ⟨⟨v', q', h1, ?_, h3.imp (fun h => ⟨h, e2⟩) (fun h => by simp at h; omega)⟩, h4.mono fun k hk h => ⟨h, by rw [h]; exact e2⟩⟩
            rw [he] at h2
            exact h2
        rw [hN] at v0 ml HIX HRN hlc HBV
        rcases idx_spec (fun x => decide (x.1 > t)) m with ⟨e1, e2⟩ | ⟨i, e1, e2, e3, e4⟩
        · rw [e1] at HIX
          have HE := Lib.hid (ins_end t what m e2)
          rw [hN] at HE
          clear e2 hml
          go_wp2_with (go_at_call 19; (with_reducible refine Calls.mono HIX.out ?_); rintro e w3 ⟨rfl, hb3⟩; have v3 : w3.cell? ⟨r, 0, none⟩ = some (.slice A N c) := (HBV.out.keeps hb3).cell 0; have HB3 := Lib.hid hb3; clear hb3)
          have a3 : w3.cell? ⟨w.heap.size, 0, none⟩ = some (.int .i64 t) := (HA.out.keeps HB3.out).cell 0
          clear v0 HIX
          refine wp_region_tc 13 (.st true 0 (.st true 1 (.st true 2 (.st true 3 (.st true 4 (.st true 5 (.st true 6 (.st true 7 (.st true 8 (.st false 9 (.st false 10 (.st true 11 (.st true 12 (.fin [])))))))))))))) (fun w' => w'.cell? ⟨r, 0, none⟩ = some (.slice A N c) ∧ w'.cell? ⟨w.heap.size, 0, none⟩ = some (.int .i64 t)) (by kernel_rfl) (by kernel_rfl) ⟨v3, a3⟩ ?_
          simp only [Tc.res, List.map_cons, List.map_nil, List.getElem?_toArray, List.getElem?_cons_zero, List.getElem?_cons_succ]
          repeat (first | (refine tc_take (v := ?_) (by rfl) ?_ ?_; rotate_left; (focus ((intro w hSw; (try dsimp only at hSw); go_simp; (try with_reducible rfl)); done)); try simp only [Act.put, List.setIfInBounds_toArray, List.set_cons_zero, List.set_cons_succ]))
          refine tc_do (fun K hK => ?_)
          go_simp
          have v4 : (w3.alloc (.cells #[.int .i64 t, .int .i64 what] 51)).drew.cell? ⟨r, 0, none⟩ = some (.slice A N c) := ((HBV.out.keeps HB3.out).alloc _).drew.cell 0
          have a4 : (w3.alloc (.cells #[.int .i64 t, .int .i64 what] 51)).drew.cell? ⟨w.heap.size, 0, none⟩ = some (.int .i64 t) := ((HA.out.keeps HB3.out).alloc _).drew.cell 0
          refine hK.out _ _ ⟨v4, a4⟩ (fun hHeld1 => ?_)
          clear hK K
          refine tc_do (fun K hK => ?_)
          go_simp
          go_at_call 21
          (with_reducible refine Calls.mono (HI.out N w3 (by omega) HE.out HB3.out) ?_)
          rintro e w5 ⟨⟨v5, q5, rfl, hR5, hq5⟩, hk5⟩
          dsimp only
          obtain ⟨A5, n5, c5, rfl⟩ : ∃ A n c, v5 = .slice A n c := by
            obtain ⟨o, c, C, h, _⟩ := hR5
            exact ⟨_, _, _, h⟩
          have HW := Lib.hid (((HBV.out.keeps HB3.out).alloc (.cells #[.int .i64 t, .int .i64 what] 51)).drew)
          have HWA := Lib.hid (((HA.out.keeps HB3.out).alloc (.cells #[.int .i64 t, .int .i64 what] 51)).drew)
          have hb5 := blk_kp HW.out hk5 (fun h => h.2 rfl)
          have v5 : w5.cell? ⟨r, 0, none⟩ = some (.slice A N c) := hb5.cell 0
          have f5 := hb5.frozen 0
          have a5 : w5.cell? ⟨w.heap.size, 0, none⟩ = some (.int .i64 t) := (blk_kp HWA.out hk5 (fun h => by rcases HQ2.out with e | e <;> omega)).cell 0
          have HK5 := Lib.hid hk5
          have HR5 := Lib.hid hR5
          have HQ5 := Lib.hid hq5
          have HB5 := Lib.hid hb5
          refine hK.out _ _ ⟨v5, a5⟩ (fun hHeld2 => ?_)
          clear hK K hk5 hR5 hq5 hb5
          repeat (first | (refine tc_take (v := ?_) (by rfl) ?_ ?_; rotate_left; (focus ((intro w hSw; (try dsimp only at hSw); go_simp; (try with_reducible rfl)); done)); try simp only [Act.put, List.setIfInBounds_toArray, List.set_cons_zero, List.set_cons_succ]))
          refine tc_end (fun K hK => ?_)
          go_simp
          refine hK.out _ _ (tc_done ?_)
          clear hK K
          go_wp2
          go_ret
          refine ⟨by rw [HCO.out]; rfl, ?_⟩
          rw [HPU.out]
          have hs3 := HB3.out.size
          have hq2lt : q2 < w2.heap.size := by
            rcases HQ3.out with ⟨_, _, e⟩ | ⟨e, _⟩
            · omega
            · exact e.lt
          have hne5 : q5 ≠ r := by rcases HQ5.out with ⟨e, e'⟩ | e <;> omega
          refine ⟨⟨q5, ⟨_, HB5.out.set_ 0 _, .inr ⟨HR5.out.kp (S := (· = r)) (Kp.set_ (S := (· = r)) (Kp.refl _ _) ⟨r, 0, none⟩ (.inl rfl) _) hne5, hne5⟩⟩, ?_⟩, ?_⟩
          · rcases HQ5.out with ⟨e, _⟩ | e <;> rcases HQ2.out with e' | e' <;> omega
          · refine Kp.set_ (kp_more (((HP2.out.2.below HB3.out).alloc _).drew) HK5.out fun k hk h => ?_) ⟨r, 0, none⟩ (.inl (.inl rfl)) _
            rcases HQ2.out with e | e
            · exact .inr (h.1.trans e)
            · have := h.1
              omega
        · rw [e1] at HIX
          have HE := Lib.hid (ins_at t what m i e2 e4 e3)
          rw [hN] at e2
          clear e3 e4 hml
          go_wp2_with (go_at_call 19; (with_reducible refine Calls.mono HIX.out ?_); rintro e w3 ⟨rfl, hb3⟩; have v3 : w3.cell? ⟨r, 0, none⟩ = some (.slice A N c) := (HBV.out.keeps hb3).cell 0; have HB3 := Lib.hid hb3; clear hb3)
          have a3 : w3.cell? ⟨w.heap.size, 0, none⟩ = some (.int .i64 t) := (HA.out.keeps HB3.out).cell 0
          clear v0 HIX
          refine wp_region_tc 13 (.st true 0 (.st true 1 (.st true 2 (.st true 3 (.st true 4 (.st true 5 (.st true 6 (.st true 7 (.st true 8 (.st false 9 (.st false 10 (.st true 11 (.st true 12 (.fin [])))))))))))))) (fun w' => w'.cell? ⟨r, 0, none⟩ = some (.slice A N c) ∧ w'.cell? ⟨w.heap.size, 0, none⟩ = some (.int .i64 t)) (by kernel_rfl) (by kernel_rfl) ⟨v3, a3⟩ ?_
          simp only [Tc.res, List.map_cons, List.map_nil, List.getElem?_toArray, List.getElem?_cons_zero, List.getElem?_cons_succ]
          repeat (first | (refine tc_take (v := ?_) (by rfl) ?_ ?_; rotate_left; (focus ((intro w hSw; (try dsimp only at hSw); go_simp; (try with_reducible rfl)); done)); try simp only [Act.put, List.setIfInBounds_toArray, List.set_cons_zero, List.set_cons_succ]))
          refine tc_do (fun K hK => ?_)
          go_simp
          have v4 : (w3.alloc (.cells #[.int .i64 t, .int .i64 what] 51)).drew.cell? ⟨r, 0, none⟩ = some (.slice A N c) := ((HBV.out.keeps HB3.out).alloc _).drew.cell 0
          have a4 : (w3.alloc (.cells #[.int .i64 t, .int .i64 what] 51)).drew.cell? ⟨w.heap.size, 0, none⟩ = some (.int .i64 t) := ((HA.out.keeps HB3.out).alloc _).drew.cell 0
          refine hK.out _ _ ⟨v4, a4⟩ (fun hHeld1 => ?_)
          clear hK K
          refine tc_do (fun K hK => ?_)
          go_simp
          go_at_call 21
          (with_reducible refine Calls.mono (HI.out i w3 (by omega) HE.out HB3.out) ?_)
          rintro e w5 ⟨⟨v5, q5, rfl, hR5, hq5⟩, hk5⟩
          dsimp only
          obtain ⟨A5, n5, c5, rfl⟩ : ∃ A n c, v5 = .slice A n c := by
            obtain ⟨o, c, C, h, _⟩ := hR5
            exact ⟨_, _, _, h⟩
          have HW := Lib.hid (((HBV.out.keeps HB3.out).alloc (.cells #[.int .i64 t, .int .i64 what] 51)).drew)
          have HWA := Lib.hid (((HA.out.keeps HB3.out).alloc (.cells #[.int .i64 t, .int .i64 what] 51)).drew)
          have hb5 := blk_kp HW.out hk5 (fun h => h.2 rfl)
          have v5 : w5.cell? ⟨r, 0, none⟩ = some (.slice A N c) := hb5.cell 0
          have f5 := hb5.frozen 0
          have a5 : w5.cell? ⟨w.heap.size, 0, none⟩ = some (.int .i64 t) := (blk_kp HWA.out hk5 (fun h => by rcases HQ2.out with e | e <;> omega)).cell 0
          have HK5 := Lib.hid hk5
          have HR5 := Lib.hid hR5
          have HQ5 := Lib.hid hq5
          have HB5 := Lib.hid hb5
          refine hK.out _ _ ⟨v5, a5⟩ (fun hHeld2 => ?_)
          clear hK K hk5 hR5 hq5 hb5
          repeat (first | (refine tc_take (v := ?_) (by rfl) ?_ ?_; rotate_left; (focus ((intro w hSw; (try dsimp only at hSw); go_simp; (try with_reducible rfl)); done)); try simp only [Act.put, List.setIfInBounds_toArray, List.set_cons_zero, List.set_cons_succ]))
          refine tc_end (fun K hK => ?_)
          go_simp
          refine hK.out _ _ (tc_done ?_)
          clear hK K
          go_wp2
          go_ret
          refine ⟨by rw [HCO.out]; rfl, ?_⟩
          rw [HPU.out]
          have hs3 := HB3.out.size
          have hq2lt : q2 < w2.heap.size := by
            rcases HQ3.out with ⟨_, _, e⟩ | ⟨e, _⟩
            · omega
            · exact e.lt
          have hne5 : q5 ≠ r := by rcases HQ5.out with ⟨e, e'⟩ | e <;> omega
          refine ⟨⟨q5, ⟨_, HB5.out.set_ 0 _, .inr ⟨HR5.out.kp (S := (· = r)) (Kp.set_ (S := (· = r)) (Kp.refl _ _) ⟨r, 0, none⟩ (.inl rfl) _) hne5, hne5⟩⟩, ?_⟩, ?_⟩
          · rcases HQ5.out with ⟨e, _⟩ | e <;> rcases HQ2.out with e' | e' <;> omega
          · refine Kp.set_ (kp_more (((HP2.out.2.below HB3.out).alloc _).drew) HK5.out fun k hk h => ?_) ⟨r, 0, none⟩ (.inl (.inl rfl)) _
            rcases HQ2.out with e | e
            · exact .inr (h.1.trans e)
            · have := h.1
              omega
  · have hml' := out_at what l i hO.nd h2 h3
    rw [h1] at HF
    obtain ⟨v, hb, hn⟩ := hR0
    have hl0 : l ≠ [] := by rintro rfl; simp at h2
    obtain ⟨hRs, hqr⟩ : Rs (w.alloc (.cells #[.int .i64 t] 3)) v q l ∧ q ≠ r := by
      rcases hn with ⟨_, h, _⟩ | h
      · exact absurd h hl0
      · exact h
    have hD := fun w1 (hB : Below (w.alloc (.cells #[.int .i64 t] 3)).heap.size (w.alloc (.cells #[.int .i64 t] 3)) w1) => Dl.delete_ok v q l i (i + 1) w1 (hRs.keeps hB) h2 rfl
    rw [hml', hm, show ((i + 1 : Nat) : Int) = (i : Int) + 1 by omega] at hD
    have HD := Lib.hid hD
    have HBK := Lib.hid hb
    have hw1 : IntKind.i64.wrap ((i : Int) + 1) = (i : Int) + 1 := by rw [IntKind.wrap_i64]; omega
    clear hn hb hRs h3 hl0 hO hD hml' hR
    go_enter Try.func8, Try.ntmps8
    go_upto_region 6 with (first
      | (go_at_call 17
         (with_reducible refine Calls.mono HF.out ?_)
         rintro e w1 ⟨rfl, hb1⟩
         have HB1 := Lib.hid hb1
         have c1 : w1.cell? ⟨r, 0, none⟩ = some v := (HBK.out.keeps hb1).cell 0
         clear hb1)
      | (go_at_call 18
         (with_reducible refine Calls.mono (HD.out _ HB1.out) ?_)
         rintro e w2 ⟨⟨v2, rfl, hR2⟩, hk2⟩
         obtain ⟨A2, n2, c2', rfl⟩ : ∃ A n c, v2 = .slice A n c := by
           obtain ⟨o, c, C, h, _⟩ := hR2
           exact ⟨_, _, _, h⟩
         have c2 : w2.cell? ⟨r, 0, none⟩ = some v := (blk_kp (HBK.out.keeps HB1.out) hk2 (fun h => hqr h.symm)).cell 0
         have f2 := (blk_kp (HBK.out.keeps HB1.out) hk2 (fun h => hqr h.symm)).frozen 0
         have HR2 := Lib.hid hR2
         have HK2 := Lib.hid hk2
         clear hR2 hk2 c1))
    · have hpost := rb_store HBK.out HB1.out HK2.out (fun h => hqr h.symm) HR2.out (.inl rfl)
      have HA : Hid (Blk (w2.setCell ⟨r, 0, none⟩ (.slice A2 n2 c2')) w.heap.size 3 #[.int .i64 t]) := (blk_kp (HA0.out.keeps HB1.out) HK2.out (fun h => by omega)).far (p := ⟨r, 0, none⟩) (show w.heap.size ≠ r by omega) _
      obtain ⟨⟨q2, hR2, hq2⟩, hk⟩ := hpost
      have HP2 : Hid (PostR r q m w (w2.setCell ⟨r, 0, none⟩ (.slice A2 n2 c2'))) := ⟨⟨q2, hR2, hq2.imp id (fun h => by simp at h; omega)⟩, kp_more (Kp.of_below HB0.out) hk (fun _ _ h => h)⟩
      have HQ2 : Hid (q2 = q ∨ w.heap.size < q2) := hq2.imp id (fun h => by simp at h; omega)
      clear HR2 HK2 c2 f2 hq2 hk
      have HR2 := Lib.hid hR2
      clear hR2 HBK HB1 HD HF HA0
      generalize w2.setCell ⟨r, 0, none⟩ (.slice A2 n2 c2') = w2 at HA HP2 HR2 ⊢
      obtain ⟨v, hbv, hq3⟩ := HR2.out
      have HBV := Lib.hid hbv
      have hBlt := HA.out.lt
      have hrlt := hbv.lt
      have hBr : w.heap.size ≠ r := by omega
      have hrn : Rn w2 v q2 m := hq3.imp (fun h => ⟨h.1, h.2.1⟩) (·.1)
      obtain ⟨A, c, hv, hlc, hcm, _⟩ := hrn.form
      subst hv
      have HRN := Lib.hid hrn
      have HQ3 := Lib.hid hq3
      have v0 : w2.cell? ⟨r, 0, none⟩ = some (.slice A m.length c) := hbv.cell 0
      have ml := hml
      by_cases h16 : m.length = 16
      · have hcode : code l what = 6 := by unfold code; rw [hm, if_pos h16]
        have hput : put l t what = m := by unfold put; rw [hm, if_pos h16]
        have HCO := Lib.hid hcode
        have HPU := Lib.hid hput
        clear hcode hput hml hq3 hbv hrn
        rw [h16] at v0
        go_wp2
        go_ret
        exact ⟨by rw [HCO.out]; rfl, by rw [HPU.out]; exact HP2.out⟩
      · have hcode : code l what = 0 := by unfold code; rw [hm, if_neg h16]
        have hput : put l t what = ins t what m := by unfold put; rw [hm, if_neg h16]
        have HCO := Lib.hid hcode
        have HPU := Lib.hid hput
        obtain ⟨N, hN⟩ : ∃ N, m.length = N := ⟨_, rfl⟩
        have h16i : ¬ ((N : Int) = 16) := by omega
        have HIX := Lib.hid (index_ok 20 #[.pointer (some ⟨w.heap.size, 0, none⟩)] (fun x => decide (x.1 > t)) (enters_of Try.func20 (by kernel_rfl) rfl) _ q2 m w2 hrn (pred20 t w.heap.size w2 (HA.out.cell 0) hBlt))
        clear hcode hput hq3 hbv hrn
        have HI : Hid (∀ (i : Nat) (W : World), i ≤ N → m.take i ++ (t, what) :: m.drop i = ins t what m → Below w2.heap.size w2 W → Calls Try.prog 21 #[.slice A N c, .int .i64 i, .slice (some ⟨W.heap.size, 0, none⟩) 1 1] (W.alloc (.cells #[.int .i64 t, .int .i64 what] 51)).drew fun e w5 =>
            (∃ v' q', e = .returned v' ∧ Rs w5 v' q' (ins t what m) ∧ ((q' = q2 ∧ q2 ≠ r) ∨ W.heap.size < q')) ∧ Kp (fun k => k = q2 ∧ k ≠ r) (W.alloc (.cells #[.int .i64 t, .int .i64 what] 51)).drew w5) := fun i W hi he hb => by
          have hs := hb.size
          rw [← hN] at hi ⊢
          rcases HQ3.out with ⟨e1, e2, e3⟩ | ⟨e1, e2⟩
          · have h := insert_ok _ (W.heap.size + 1) m i W.heap.size (t, what) (W.alloc (.cells #[.int .i64 t, .int .i64 what] 51)).drew (.inl ⟨e1, e2⟩) hi (by omega) (Blk.new W _ _).drew (by omega)
            refine h.mono fun e w5 ⟨⟨v', q', h1, h2, h3⟩, h4⟩ => ⟨⟨v', q', h1, ?_, .inr (by rcases h3 with h3 | h3 <;> (try simp at h3) <;> omega)⟩, h4.mono fun k hk h => ?_⟩
            · rw [he] at h2
              exact h2
            · simp at hk
              omega
          · have hq2lt := e1.lt
            have h := insert_ok _ q2 m i W.heap.size (t, what) (W.alloc (.cells #[.int .i64 t, .int .i64 what] 51)).drew (.inr (e1.keeps (hb.alloc hs _).drew)) hi (by omega) (Blk.new W _ _).drew (by omega)
            refine h.mono fun e w5 ⟨⟨v', q', h1, h2, h3⟩, h4⟩ => ⟨⟨v', q', h1, ?_, h3.imp (fun h => ⟨h, e2⟩) (fun h => by simp at h; omega)⟩, h4.mono fun k hk h => ⟨h, by rw [h]; exact e2⟩⟩
            rw [he] at h2
            exact h2
        rw [hN] at v0 ml HIX HRN hlc HBV
        rcases idx_spec (fun x => decide (x.1 > t)) m with ⟨e1, e2⟩ | ⟨i, e1, e2, e3, e4⟩
        · rw [e1] at HIX
          have HE := Lib.hid (ins_end t what m e2)
          rw [hN] at HE
          clear e2 hml
          go_wp2_with (go_at_call 19; (with_reducible refine Calls.mono HIX.out ?_); rintro e w3 ⟨rfl, hb3⟩; have v3 : w3.cell? ⟨r, 0, none⟩ = some (.slice A N c) := (HBV.out.keeps hb3).cell 0; have HB3 := Lib.hid hb3; clear hb3)
          have a3 : w3.cell? ⟨w.heap.size, 0, none⟩ = some (.int .i64 t) := (HA.out.keeps HB3.out).cell 0
          clear v0 HIX
          refine wp_region_tc 13 (.st true 0 (.st true 1 (.st true 2 (.st true 3 (.st true 4 (.st true 5 (.st true 6 (.st true 7 (.st true 8 (.st false 9 (.st false 10 (.st true 11 (.st true 12 (.fin [])))))))))))))) (fun w' => w'.cell? ⟨r, 0, none⟩ = some (.slice A N c) ∧ w'.cell? ⟨w.heap.size, 0, none⟩ = some (.int .i64 t)) (by kernel_rfl) (by kernel_rfl) ⟨v3, a3⟩ ?_
          simp only [Tc.res, List.map_cons, List.map_nil, List.getElem?_toArray, List.getElem?_cons_zero, List.getElem?_cons_succ]
          repeat (first | (refine tc_take (v := ?_) (by rfl) ?_ ?_; rotate_left; (focus ((intro w hSw; (try dsimp only at hSw); go_simp; (try with_reducible rfl)); done)); try simp only [Act.put, List.setIfInBounds_toArray, List.set_cons_zero, List.set_cons_succ]))
          refine tc_do (fun K hK => ?_)
          go_simp
          have v4 : (w3.alloc (.cells #[.int .i64 t, .int .i64 what] 51)).drew.cell? ⟨r, 0, none⟩ = some (.slice A N c) := ((HBV.out.keeps HB3.out).alloc _).drew.cell 0
          have a4 : (w3.alloc (.cells #[.int .i64 t, .int .i64 what] 51)).drew.cell? ⟨w.heap.size, 0, none⟩ = some (.int .i64 t) := ((HA.out.keeps HB3.out).alloc _).drew.cell 0
          refine hK.out _ _ ⟨v4, a4⟩ (fun hHeld1 => ?_)
          clear hK K
          refine tc_do (fun K hK => ?_)
          go_simp
          go_at_call 21
          (with_reducible refine Calls.mono (HI.out N w3 (by omega) HE.out HB3.out) ?_)
          rintro e w5 ⟨⟨v5, q5, rfl, hR5, hq5⟩, hk5⟩
          dsimp only
          obtain ⟨A5, n5, c5, rfl⟩ : ∃ A n c, v5 = .slice A n c := by
            obtain ⟨o, c, C, h, _⟩ := hR5
            exact ⟨_, _, _, h⟩
          have HW := Lib.hid (((HBV.out.keeps HB3.out).alloc (.cells #[.int .i64 t, .int .i64 what] 51)).drew)
          have HWA := Lib.hid (((HA.out.keeps HB3.out).alloc (.cells #[.int .i64 t, .int .i64 what] 51)).drew)
          have hb5 := blk_kp HW.out hk5 (fun h => h.2 rfl)
          have v5 : w5.cell? ⟨r, 0, none⟩ = some (.slice A N c) := hb5.cell 0
          have f5 := hb5.frozen 0
          have a5 : w5.cell? ⟨w.heap.size, 0, none⟩ = some (.int .i64 t) := (blk_kp HWA.out hk5 (fun h => by rcases HQ2.out with e | e <;> omega)).cell 0
          have HK5 := Lib.hid hk5
          have HR5 := Lib.hid hR5
          have HQ5 := Lib.hid hq5
          have HB5 := Lib.hid hb5
          refine hK.out _ _ ⟨v5, a5⟩ (fun hHeld2 => ?_)
          clear hK K hk5 hR5 hq5 hb5
          repeat (first | (refine tc_take (v := ?_) (by rfl) ?_ ?_; rotate_left; (focus ((intro w hSw; (try dsimp only at hSw); go_simp; (try with_reducible rfl)); done)); try simp only [Act.put, List.setIfInBounds_toArray, List.set_cons_zero, List.set_cons_succ]))
          refine tc_end (fun K hK => ?_)
          go_simp
          refine hK.out _ _ (tc_done ?_)
          clear hK K
          go_wp2
          go_ret
          refine ⟨by rw [HCO.out]; rfl, ?_⟩
          rw [HPU.out]
          have hs3 := HB3.out.size
          have hq2lt : q2 < w2.heap.size := by
            rcases HQ3.out with ⟨_, _, e⟩ | ⟨e, _⟩
            · omega
            · exact e.lt
          have hne5 : q5 ≠ r := by rcases HQ5.out with ⟨e, e'⟩ | e <;> omega
          refine ⟨⟨q5, ⟨_, HB5.out.set_ 0 _, .inr ⟨HR5.out.kp (S := (· = r)) (Kp.set_ (S := (· = r)) (Kp.refl _ _) ⟨r, 0, none⟩ (.inl rfl) _) hne5, hne5⟩⟩, ?_⟩, ?_⟩
          · rcases HQ5.out with ⟨e, _⟩ | e <;> rcases HQ2.out with e' | e' <;> omega
          · refine Kp.set_ (kp_more (((HP2.out.2.below HB3.out).alloc _).drew) HK5.out fun k hk h => ?_) ⟨r, 0, none⟩ (.inl (.inl rfl)) _
            rcases HQ2.out with e | e
            · exact .inr (h.1.trans e)
            · have := h.1
              omega
        · rw [e1] at HIX
          have HE := Lib.hid (ins_at t what m i e2 e4 e3)
          rw [hN] at e2
          clear e3 e4 hml
          go_wp2_with (go_at_call 19; (with_reducible refine Calls.mono HIX.out ?_); rintro e w3 ⟨rfl, hb3⟩; have v3 : w3.cell? ⟨r, 0, none⟩ = some (.slice A N c) := (HBV.out.keeps hb3).cell 0; have HB3 := Lib.hid hb3; clear hb3)
          have a3 : w3.cell? ⟨w.heap.size, 0, none⟩ = some (.int .i64 t) := (HA.out.keeps HB3.out).cell 0
          clear v0 HIX
          refine wp_region_tc 13 (.st true 0 (.st true 1 (.st true 2 (.st true 3 (.st true 4 (.st true 5 (.st true 6 (.st true 7 (.st true 8 (.st false 9 (.st false 10 (.st true 11 (.st true 12 (.fin [])))))))))))))) (fun w' => w'.cell? ⟨r, 0, none⟩ = some (.slice A N c) ∧ w'.cell? ⟨w.heap.size, 0, none⟩ = some (.int .i64 t)) (by kernel_rfl) (by kernel_rfl) ⟨v3, a3⟩ ?_
          simp only [Tc.res, List.map_cons, List.map_nil, List.getElem?_toArray, List.getElem?_cons_zero, List.getElem?_cons_succ]
          repeat (first | (refine tc_take (v := ?_) (by rfl) ?_ ?_; rotate_left; (focus ((intro w hSw; (try dsimp only at hSw); go_simp; (try with_reducible rfl)); done)); try simp only [Act.put, List.setIfInBounds_toArray, List.set_cons_zero, List.set_cons_succ]))
          refine tc_do (fun K hK => ?_)
          go_simp
          have v4 : (w3.alloc (.cells #[.int .i64 t, .int .i64 what] 51)).drew.cell? ⟨r, 0, none⟩ = some (.slice A N c) := ((HBV.out.keeps HB3.out).alloc _).drew.cell 0
          have a4 : (w3.alloc (.cells #[.int .i64 t, .int .i64 what] 51)).drew.cell? ⟨w.heap.size, 0, none⟩ = some (.int .i64 t) := ((HA.out.keeps HB3.out).alloc _).drew.cell 0
          refine hK.out _ _ ⟨v4, a4⟩ (fun hHeld1 => ?_)
          clear hK K
          refine tc_do (fun K hK => ?_)
          go_simp
          go_at_call 21
          (with_reducible refine Calls.mono (HI.out i w3 (by omega) HE.out HB3.out) ?_)
          rintro e w5 ⟨⟨v5, q5, rfl, hR5, hq5⟩, hk5⟩
          dsimp only
          obtain ⟨A5, n5, c5, rfl⟩ : ∃ A n c, v5 = .slice A n c := by
            obtain ⟨o, c, C, h, _⟩ := hR5
            exact ⟨_, _, _, h⟩
          have HW := Lib.hid (((HBV.out.keeps HB3.out).alloc (.cells #[.int .i64 t, .int .i64 what] 51)).drew)
          have HWA := Lib.hid (((HA.out.keeps HB3.out).alloc (.cells #[.int .i64 t, .int .i64 what] 51)).drew)
          have hb5 := blk_kp HW.out hk5 (fun h => h.2 rfl)
          have v5 : w5.cell? ⟨r, 0, none⟩ = some (.slice A N c) := hb5.cell 0
          have f5 := hb5.frozen 0
          have a5 : w5.cell? ⟨w.heap.size, 0, none⟩ = some (.int .i64 t) := (blk_kp HWA.out hk5 (fun h => by rcases HQ2.out with e | e <;> omega)).cell 0
          have HK5 := Lib.hid hk5
          have HR5 := Lib.hid hR5
          have HQ5 := Lib.hid hq5
          have HB5 := Lib.hid hb5
          refine hK.out _ _ ⟨v5, a5⟩ (fun hHeld2 => ?_)
          clear hK K hk5 hR5 hq5 hb5
          repeat (first | (refine tc_take (v := ?_) (by rfl) ?_ ?_; rotate_left; (focus ((intro w hSw; (try dsimp only at hSw); go_simp; (try with_reducible rfl)); done)); try simp only [Act.put, List.setIfInBounds_toArray, List.set_cons_zero, List.set_cons_succ]))
          refine tc_end (fun K hK => ?_)
          go_simp
          refine hK.out _ _ (tc_done ?_)
          clear hK K
          go_wp2
          go_ret
          refine ⟨by rw [HCO.out]; rfl, ?_⟩
          rw [HPU.out]
          have hs3 := HB3.out.size
          have hq2lt : q2 < w2.heap.size := by
            rcases HQ3.out with ⟨_, _, e⟩ | ⟨e, _⟩
            · omega
            · exact e.lt
          have hne5 : q5 ≠ r := by rcases HQ5.out with ⟨e, e'⟩ | e <;> omega
          refine ⟨⟨q5, ⟨_, HB5.out.set_ 0 _, .inr ⟨HR5.out.kp (S := (· = r)) (Kp.set_ (S := (· = r)) (Kp.refl _ _) ⟨r, 0, none⟩ (.inl rfl) _) hne5, hne5⟩⟩, ?_⟩, ?_⟩
          · rcases HQ5.out with ⟨e, _⟩ | e <;> rcases HQ2.out with e' | e' <;> omega
          · refine Kp.set_ (kp_more (((HP2.out.2.below HB3.out).alloc _).drew) HK5.out fun k hk h => ?_) ⟨r, 0, none⟩ (.inl (.inl rfl)) _
            rcases HQ2.out with e | e
            · exact .inr (h.1.trans e)
            · have := h.1
              omega
end Go.Proofs.Ytmheabnpkbhadaa.Se
