/- The reference's node: its cells, Beat, Mark. -/
import Derived.Test.YthnnejflgbminaaRf
namespace Go.Proofs.Ythnnejflgbminaa.El
open Go.RowKit Go.Proofs.Ythnnejflgbminaa.Bk Go.Proofs.Ythnnejflgbminaa.Rw Go.Proofs.Ythnnejflgbminaa.Ow Go.Proofs.Ythnnejflgbminaa.Kp Go.Proofs.Ythnnejflgbminaa.Sq Go.Proofs.Ythnnejflgbminaa.Ck Go.Proofs.Ythnnejflgbminaa.Ck2 Go.Proofs.Ythnnejflgbminaa.Mp

section
variable {w w' : World} {r : Nat} {me t g : Int} {s : St} {f : Int → Option (Int × Int)}
theorem Re.lt (h : Re w r me t g s f) : r < w.heap.size := Cs.lt h
theorem Re.alloc (h : Re w r me t g s f) (o : Obj) : Re (w.alloc o) r me t g s f := Cs.alloc h o
theorem Re.drew (h : Re w r me t g s f) : Re w.drew r me t g s f := Cs.drew h
theorem Re.kp {S : Nat → Prop} (h : Re w r me t g s f) (hk : Kp S w w') (hb : ¬ S r) : Re w' r me t g s f := Cs.kp h hk hb
theorem Re.keeps (h : Re w r me t g s f) (hb : Below w.heap.size w w') : Re w' r me t g s f := Cs.keeps h hb
theorem Re.far {b i : Nat} {u : Value} (h : Re w r me t g s f) (hb : ¬ r = b) : Re (w.setCell ⟨b, i, none⟩ u) r me t g s f := Cs.far h hb
theorem Re.cells (h : Re w r me t g s f) : w.cell? ⟨r, 0, none⟩ = some (.int .i64 me) ∧ w.cell? ⟨r, 1, none⟩ = some (.int .i64 t) ∧ w.cell? ⟨r, 2, none⟩ = some (.int .i64 g) ∧ w.cell? ⟨r, 3, none⟩ = some (.int .u16 s.boot) ∧ w.cell? ⟨r, 4, none⟩ = some (.int .u16 s.seq) ∧ w.cell? ⟨r, 5, none⟩ = some (.int .i64 s.root) ∧ w.cell? ⟨r, 6, none⟩ = some (.int .i64 s.beats) ∧ w.cell? ⟨r, 7, none⟩ = some (.int .i64 s.quiet) :=
  ⟨Cs.cell h (i := 0) (by decide), Cs.cell h (i := 1) (by decide), Cs.cell h (i := 2) (by decide), Cs.cell h (i := 3) (by decide), Cs.cell h (i := 4) (by decide), Cs.cell h (i := 5) (by decide), Cs.cell h (i := 6) (by decide), Cs.cell h (i := 7) (by decide)⟩
theorem Re.known (h : Re w r me t g s f) {x : Nat} (hx : x < 64) : w.cell? ⟨r, 8 + x, none⟩ = some (.bool (f x).isSome) := by
  have := Cs.cell h (i := 8 + x) (by omega)
  rw [this]
  unfold rc
  rw [if_neg (by omega), if_pos (by omega)]
  congr 3
  congr 1
  omega
theorem Re.boots (h : Re w r me t g s f) {x : Nat} (hx : x < 64) : w.cell? ⟨r, 72 + x, none⟩ = some (.int .u16 ((f x).getD (0, 0)).1) := by
  have := Cs.cell h (i := 72 + x) (by omega)
  rw [this]
  unfold rc
  rw [if_neg (by omega), if_neg (by omega), if_pos (by omega), show ((72 + x : Nat) : Int) - 72 = x by omega]
theorem Re.seqs (h : Re w r me t g s f) {x : Nat} (hx : x < 64) : w.cell? ⟨r, 136 + x, none⟩ = some (.int .u16 ((f x).getD (0, 0)).2) := by
  have := Cs.cell h (i := 136 + x) (by omega)
  rw [this]
  unfold rc
  rw [if_neg (by omega), if_neg (by omega), if_neg (by omega), show ((136 + x : Nat) : Int) - 136 = x by omega]
theorem Re.frozen (h : Re w r me t g s f) (i : Nat) : w.frozen? ⟨r, i, none⟩ = false := Cs.frozen h i
theorem hd_cases {P : Nat → Prop} (h0 : P 0) (h1 : P 1) (h2 : P 2) (h3 : P 3) (h4 : P 4) (h5 : P 5) (h6 : P 6) (h7 : P 7) (i : Nat) (h : i < 8) : P i := by
  have : i = 0 ∨ i = 1 ∨ i = 2 ∨ i = 3 ∨ i = 4 ∨ i = 5 ∨ i = 6 ∨ i = 7 := by omega
  rcases this with rfl | rfl | rfl | rfl | rfl | rfl | rfl | rfl <;> assumption
theorem rc_high (s s' : St) (i : Nat) (h : ¬ i < 8) : rc me t g s f i = rc me t g s' f i := by
  unfold rc
  rw [if_neg h, if_neg h]
theorem Re.head (h : Re w r me t g s f) (s' : St) (k : Nat) (u : Value) (hk : k < 8) (he : ∀ i, i < 8 → (if i = k then u else rc me t g s f i) = rc me t g s' f i) : Re (w.setCell ⟨r, k, none⟩ u) r me t g s' f := by
  refine Cs.congr (Cs.set h k u) fun i _ => ?_
  by_cases h8 : i < 8
  · exact he i h8
  · simp only [if_neg (show ¬ i = k by omega)]
    exact rc_high s s' i h8
theorem Re.seq (h : Re w r me t g s f) (x : Int) : Re (w.setCell ⟨r, 4, none⟩ (.int .u16 x)) r me t g { s with seq := x } f := h.head _ 4 _ (by decide) (hd_cases rfl rfl rfl rfl rfl rfl rfl rfl)
theorem Re.root (h : Re w r me t g s f) (x : Int) : Re (w.setCell ⟨r, 5, none⟩ (.int .i64 x)) r me t g { s with root := x } f := h.head _ 5 _ (by decide) (hd_cases rfl rfl rfl rfl rfl rfl rfl rfl)
theorem Re.beats (h : Re w r me t g s f) (x : Int) : Re (w.setCell ⟨r, 6, none⟩ (.int .i64 x)) r me t g { s with beats := x } f := h.head _ 6 _ (by decide) (hd_cases rfl rfl rfl rfl rfl rfl rfl rfl)
theorem Re.quiet (h : Re w r me t g s f) (x : Int) : Re (w.setCell ⟨r, 7, none⟩ (.int .i64 x)) r me t g { s with quiet := x } f := h.head _ 7 _ (by decide) (hd_cases rfl rfl rfl rfl rfl rfl rfl rfl)
/-- A mark is laid into the three arrays. -/
theorem Re.put (h : Re w r me t g s f) (x : Nat) (hx : x < 64) (m : Int × Int) : Re (((w.setCell ⟨r, 8 + x, none⟩ (.bool true)).setCell ⟨r, 72 + x, none⟩ (.int .u16 m.1)).setCell ⟨r, 136 + x, none⟩ (.int .u16 m.2)) r me t g s (put f x m) := by
  refine Cs.congr (Cs.set (Cs.set (Cs.set h (8 + x) (.bool true)) (72 + x) (.int .u16 m.1)) (136 + x) (.int .u16 m.2)) fun i _ => ?_
  unfold rc
  by_cases h8 : i < 8
  · rw [if_neg (by omega), if_neg (by omega), if_neg (by omega), if_pos h8, if_pos h8]
  rw [if_neg h8, if_neg h8]
  by_cases h72 : i < 72
  · rw [if_neg (by omega), if_neg (by omega), if_pos h72, if_pos h72]
    by_cases e : i = 8 + x
    · rw [if_pos e]
      subst e
      rw [show ((8 + x : Nat) : Int) - 8 = x by omega]
      simp [Mp.put]
    · rw [if_neg e]
      have : ¬ ((i : Int) - 8 = x) := by omega
      simp [Mp.put, this]
  rw [if_neg h72, if_neg h72]
  by_cases h136 : i < 136
  · rw [if_neg (by omega), if_pos h136, if_pos h136]
    by_cases e : i = 72 + x
    · rw [if_pos e]
      subst e
      rw [show ((72 + x : Nat) : Int) - 72 = x by omega]
      simp [Mp.put]
    · rw [if_neg e, if_neg (by omega)]
      have : ¬ ((i : Int) - 72 = x) := by omega
      simp [Mp.put, this]
  rw [if_neg h136, if_neg h136]
  by_cases e : i = 136 + x
  · rw [if_pos e]
    subst e
    rw [show ((136 + x : Nat) : Int) - 136 = x by omega]
    simp [Mp.put]
  · rw [if_neg e, if_neg (by omega), if_neg (by omega)]
    have : ¬ ((i : Int) - 136 = x) := by omega
    simp [Mp.put, this]
end
set_option maxRecDepth 100000 in
theorem rbeat_ok (r : Nat) (me t g : Int) (s : St) (f : Int → Option (Int × Int)) (w : World) (h : Re w r me t g s f) (hr : RuOk me t g) (hs : StOk me t g s) :
    Calls Try.prog 22 #[.pointer (some ⟨r, 0, none⟩)] w fun e w' => e = .returned (.bool (beat me t g s).1) ∧ Re w' r me t g (beat me t g s).2 f ∧ Kp (fun k => k = r) w w' := by
  have b0 := hs.b0
  have b1 := hs.b1
  have q0 := hs.q0
  have q1 := hs.q1
  have t1 := hr.t1
  have g1 := hr.g1
  have hc := h.drew.cells
  obtain ⟨c0, c1, c2, c3, c4, c5, c6, c7⟩ := hc
  have f5 := h.drew.frozen 5
  have f6 := h.drew.frozen 6
  have f7 := h.drew.frozen 7
  rcases hm : s.root == me with _ | _
  · have h1 : Re (w.setCell ⟨r, 6, none⟩ (.int .i64 (s.beats + 1))).drew.drew r me t g { s with beats := s.beats + 1 } f := (h.beats _).drew.drew
    have hk : Kp (fun k => k = r) w (w.setCell ⟨r, 6, none⟩ (.int .i64 (s.beats + 1))).drew.drew := by (repeat (first | (with_reducible assumption) | (with_reducible apply Kp.drew) | ((with_reducible apply kp_set); (focus (first | exact .inl rfl | (right; (try simp only [size_set, size_drew, World.size_alloc]); omega)))) | (with_reducible apply Kp.alloc) | (with_reducible exact Kp.refl _ _)))
    have hc := h1.cells
    obtain ⟨d0, d1, d2, d3, d4, d5, d6, d7⟩ := hc
    have e5 := h1.frozen 5
    have e6 := h1.frozen 6
    have e7 := h1.frozen 7
    by_cases ht : s.beats + 1 < t
    · have hb : beat me t g s = (false, { s with beats := s.beats + 1 }) := by unfold beat; rw [if_neg (by rw [hm]; simp), if_pos ht]
      rw [hb]
      have H := Lib.hid h1
      have HK := Lib.hid hk
      clear h hs hr hb h1 hk
      go_enter Try.func22, Try.ntmps22
      go_wp2_with fail
      go_region
      go_wp2_with fail
      go_region
      go_wp2
      go_ret
      exact ⟨rfl, H.out, HK.out⟩
    · have hb : beat me t g s = (true, { s with root := me, beats := 0, quiet := g }) := by unfold beat; rw [if_neg (by rw [hm]; simp), if_neg ht]
      rw [hb]
      have H1 := Lib.hid h1
      have HK := Lib.hid hk
      clear h hs hr hb h1 hk
      go_enter Try.func22, Try.ntmps22
      go_wp2_with fail
      go_region
      go_wp2_with fail
      go_region
      generalize (w.setCell ⟨r, 6, none⟩ (.int .i64 (s.beats + 1))).drew.drew = w1 at H1 HK ⊢
      clear d0 d1 d2 d3 d4 d5 d6 d7 e5 e6 e7 c0 c1 c2 c3 c4 c5 c6 c7 f5 f6 f7
      have hc := H1.out.cells
      obtain ⟨c0, c1, c2, c3, c4, c5, c6, c7⟩ := hc
      have f5 := H1.out.frozen 5
      have f6 := H1.out.frozen 6
      have f7 := H1.out.frozen 7
      go_wp2
      go_ret
      have hk := HK.out
      exact ⟨rfl, ((H1.out.root me).beats 0).quiet g, by (repeat (first | (with_reducible assumption) | (with_reducible apply Kp.drew) | ((with_reducible apply kp_set); (focus (first | exact .inl rfl | (right; (try simp only [size_set, size_drew, World.size_alloc]); omega)))) | (with_reducible apply Kp.alloc) | (with_reducible exact Kp.refl _ _)))⟩
  · have hb : beat me t g s = (false, { s with quiet := max (s.quiet - 1) 0 }) := by unfold beat; rw [if_pos hm]
    rw [hb]
    have H := Lib.hid h
    clear h hs hr hb
    by_cases hq : 0 < s.quiet
    · rw [show max (s.quiet - 1) 0 = s.quiet - 1 by omega]
      go_enter Try.func22, Try.ntmps22
      go_wp2_with fail
      go_region
      go_wp2
      go_ret
      exact ⟨rfl, (H.out.quiet _).drew, by (repeat (first | (with_reducible assumption) | (with_reducible apply Kp.drew) | ((with_reducible apply kp_set); (focus (first | exact .inl rfl | (right; (try simp only [size_set, size_drew, World.size_alloc]); omega)))) | (with_reducible apply Kp.alloc) | (with_reducible exact Kp.refl _ _)))⟩
    · rw [show max (s.quiet - 1) 0 = s.quiet by omega]
      go_enter Try.func22, Try.ntmps22
      go_wp2_with fail
      go_region
      go_wp2
      go_ret
      exact ⟨rfl, H.out.drew, (Kp.refl _ _).drew⟩
/-- A result of three. -/
theorem ret_rmark (Q : Ending → World → Prop) (a : Act) (W : World) (x y : Int) (ok : Bool) (h2 : a.tmps.getD 2 undef = .int .u16 x) (h3 : a.tmps.getD 3 undef = .int .u16 y) (h4 : a.tmps.getD 4 undef = .bool ok) (hd : a.defers = [])
    (hq : Q (.returned (.tuple #[.int .u16 x, .int .u16 y, .bool ok])) W) : bodyPost Try.prog Try.f24 Q .ret a W := by
  obtain ⟨tmps, defers⟩ := a
  simp only at h2 h3 h4 hd
  subst hd
  rw [Array.getD_eq_getD_getElem?] at h2 h3 h4
  refine bodyPost_ret (v := .tuple #[.int .u16 x, .int .u16 y, .bool ok]) ?_ rfl hq
  simp [results, Try.results24, go_sem, h2, h3, h4]
theorem rmark_ok (r : Nat) (me t g : Int) (s : St) (f : Int → Option (Int × Int)) (w : World) (h : Re w r me t g s f) (hr : RuOk me t g) (hs : StOk me t g s) :
    Calls Try.prog 24 #[.pointer (some ⟨r, 0, none⟩)] w fun e w' => e = .returned (.tuple #[.int .u16 (mark me s f).1.1, .int .u16 (mark me s f).1.2, .bool (mark me s f).2]) ∧ Below w.heap.size w w' := by
  have r0 := hs.r0
  have r1 := hs.r1
  have m1 := hr.m1
  have hc := h.cells
  obtain ⟨c0, c1, c2, c3, c4, c5, c6, c7⟩ := hc
  unfold mark
  by_cases h0 : s.root < 0
  · rw [if_pos h0]
    clear hs hr
    go_enter Try.func24, Try.ntmps24
    go_wp2
    exact ret_rmark _ _ _ _ _ _ rfl rfl rfl rfl ⟨rfl, by first | exact Below.refl _ _ | exact below_drew (below_drew (Below.refl _ _))⟩
  rw [if_neg h0]
  rcases hm : s.root == me with _ | _
  · rw [if_neg (by simp)]
    have hx : s.root.toNat < 64 := by omega
    have k1 := h.boots hx
    have k2 := h.seqs hx
    rw [show ((s.root.toNat : Nat) : Int) = s.root by omega] at k1 k2
    obtain ⟨v, hv⟩ : ∃ v, (f s.root).getD (0, 0) = v := ⟨_, rfl⟩
    rw [hv] at k1 k2 ⊢
    clear hs hr hv
    go_enter Try.func24, Try.ntmps24
    go_wp2_with fail
    go_region
    go_wp2_with fail
    go_region
    go_wp2
    exact ret_rmark _ _ _ _ _ _ rfl rfl rfl rfl ⟨rfl, by first | exact Below.refl _ _ | exact below_drew (below_drew (Below.refl _ _))⟩
  · rw [if_pos rfl]
    clear hs hr
    go_enter Try.func24, Try.ntmps24
    go_wp2_with fail
    go_region
    go_wp2_with fail
    go_region
    go_wp2
    exact ret_rmark _ _ _ _ _ _ rfl rfl rfl rfl ⟨rfl, by first | exact Below.refl _ _ | exact below_drew (below_drew (Below.refl _ _))⟩
end Go.Proofs.Ythnnejflgbminaa.El
