/- The reference's frames: Fields, Good, Only. -/
import Derived.Test.YtjkngcpmcmffmaaAl
namespace Go.Proofs.Ytjkngcpmcmffmaa.Rd
open Go.RowKit Go.Proofs.Ytjkngcpmcmffmaa.Bk Go.Proofs.Ytjkngcpmcmffmaa.Rw Go.Proofs.Ytjkngcpmcmffmaa.Ow Go.Proofs.Ytjkngcpmcmffmaa.Kp Go.Proofs.Ytjkngcpmcmffmaa.Sq Go.Proofs.Ytjkngcpmcmffmaa.Octet Go.Proofs.Ytjkngcpmcmffmaa.Fr Go.Proofs.Ytjkngcpmcmffmaa.Pn Go.Proofs.Ytjkngcpmcmffmaa.Crc Go.Proofs.Ytjkngcpmcmffmaa.Cr Go.Proofs.Ytjkngcpmcmffmaa.Gn Go.Proofs.Ytjkngcpmcmffmaa.Kd Go.Proofs.Ytjkngcpmcmffmaa.Dc Go.Proofs.Ytjkngcpmcmffmaa.De Go.Proofs.Ytjkngcpmcmffmaa.Pl Go.Proofs.Ytjkngcpmcmffmaa.Al
/-- The fields that the reference tells. -/
def rf (p : Pl) : List Fld := if inK p then flds (kn p) (nums p (kn p)) else []
/-- A row of fields. -/
def Rf (w : World) (A : Option Addr) (fs : List Fld) : Prop := (fs = [] ∧ A = none) ∨ ∃ g, A = some ⟨g, 0, none⟩ ∧ Blk w g 71 (fs.flatMap Fld.cs).toArray
theorem Rf.below {w w' : World} {A : Option Addr} {fs : List Fld} (h : Rf w A fs) (hb : Below w.heap.size w w') : Rf w' A fs := by
  rcases h with h | ⟨g, h1, h2⟩
  · exact .inl h
  · exact .inr ⟨g, h1, h2.keeps hb⟩
theorem Rf.at_ {w : World} {A : Option Addr} {fs : List Fld} (h : Rf w A fs) {j : Nat} (hj : j < fs.length) : ∃ g f, A = some ⟨g, 0, none⟩ ∧ fs[j]? = some f ∧ Blk w g 71 (fs.flatMap Fld.cs).toArray ∧ w.cell? ⟨g, j * 3, none⟩ = some (.int .i64 f.size) ∧ w.cell? ⟨g, j * 3 + 1, none⟩ = some (.int .i64 f.n) ∧ w.cell? ⟨g, j * 3 + 2, none⟩ = some (.int .i64 f.most) := by
  rcases h with ⟨h, _⟩ | ⟨g, h1, hb⟩
  · subst h; simp at hj
  · obtain ⟨f, hf⟩ : ∃ f, fs[j]? = some f := ⟨_, List.getElem?_eq_getElem hj⟩
    refine ⟨g, f, h1, hf, hb, ?_, ?_, ?_⟩
    · have h := fd_at fs j f hf 0 _ rfl
      rw [Nat.add_zero] at h
      have := hb.cell (j * 3)
      rw [List.getElem?_toArray, h] at this
      exact this
    · have := hb.cell (j * 3 + 1)
      rw [List.getElem?_toArray, fd_at fs j f hf 1 _ rfl] at this
      exact this
    · have := hb.cell (j * 3 + 2)
      rw [List.getElem?_toArray, fd_at fs j f hf 2 _ rfl] at this
      exact this
theorem blk_new_at {w : World} {t : TypeId} {cs : Array Value} {n : Nat} (h : w.heap.size = n) : Blk (w.alloc (.cells cs t)) n t cs := h ▸ Blk.new w t cs
set_option maxRecDepth 100000 in
set_option maxHeartbeats 8000000 in
theorem fields_ok (p : Pl) (hp : Oks p) (w : World) : Calls Try.prog 26 #[p.v] w fun e w' => (∃ A, e = .returned (.slice A (rf p).length (rf p).length) ∧ Rf w' A (rf p)) ∧ Below w.heap.size w w' := by
  obtain ⟨kind, from_, to_, root, boot, seq, hops, time, level, sent, got, back, glob, tai⟩ := p
  have hx := Blk.new w 31 (Pl.cs ⟨kind, from_, to_, root, boot, seq, hops, time, level, sent, got, back, glob, tai⟩)
  have hb := (Below.refl w.heap.size w).alloc (Nat.le_refl _) (.cells (Pl.cs ⟨kind, from_, to_, root, boot, seq, hops, time, level, sent, got, back, glob, tai⟩) 31)
  unfold Oks at hp
  unfold Pl.v at *
  unfold Pl.cs at *
  simp only at *
  obtain ⟨hb1, hb2⟩ := hp
  have k1 : IntKind.i64.wrap boot = boot := by rw [IntKind.wrap_i64]; omega
  have k2 : IntKind.i64.wrap seq = seq := by rw [IntKind.wrap_i64]; omega
  obtain ⟨c0, c1, -⟩ := reads14 hx
  obtain ⟨d0, d1, d2, d3, d4, d5, d6, d7, d8, d9, d10, d11, d12, d13⟩ := reads14 (hx.alloc (.cells #[.int .i64 1, .int .i64 from_, .int .i64 63] 71))
  have hy := Blk.new (w.alloc (.cells #[.int .i64 kind, .int .i64 from_, .int .i64 to_, .int .i64 root, .int .u16 boot, .int .u16 seq, .int .i64 hops, .int .i64 time, .int .i64 level, .int .i64 sent, .int .i64 got, .int .i64 back, .int .i64 glob, .int .i64 tai] 31)) 71 #[.int .i64 1, .int .i64 from_, .int .i64 63]
  rw [World.size_alloc] at hy
  have e0 := hy.cell 0
  have e1 := hy.cell 1
  have e2 := hy.cell 2
  simp only [List.getElem?_toArray, List.getElem?_cons_zero, List.getElem?_cons_succ] at e0 e1 e2
  have HB := Lib.hid (hb.alloc (by simp) (.cells #[.int .i64 1, .int .i64 from_, .int .i64 63] 71))
  clear hx hb hy
  have HS : ((w.alloc (.cells #[.int .i64 kind, .int .i64 from_, .int .i64 to_, .int .i64 root, .int .u16 boot, .int .u16 seq, .int .i64 hops, .int .i64 time, .int .i64 level, .int .i64 sent, .int .i64 got, .int .i64 back, .int .i64 glob, .int .i64 tai] 31)).alloc (.cells #[.int .i64 1, .int .i64 from_, .int .i64 63] 71)).heap.size = w.heap.size + 1 + 1 := by simp
  have HN := Lib.hid HS
  clear HS
  by_cases h1 : kind = 1
  · subst h1
    go_enter Try.func26, Try.ntmps26
    go_wp2
    go_ret
    exact ⟨⟨some ⟨w.heap.size + 1 + 1, 0, none⟩, rfl, .inr ⟨_, rfl, blk_new_at HN.out⟩⟩, HB.out.alloc HB.out.size _⟩
  by_cases h2 : kind = 2
  · subst h2
    go_enter Try.func26, Try.ntmps26
    go_wp2
    go_ret
    exact ⟨⟨some ⟨w.heap.size + 1 + 1, 0, none⟩, rfl, .inr ⟨_, rfl, blk_new_at HN.out⟩⟩, HB.out.alloc HB.out.size _⟩
  by_cases h3 : kind = 3
  · subst h3
    go_enter Try.func26, Try.ntmps26
    go_wp2
    go_ret
    exact ⟨⟨some ⟨w.heap.size + 1 + 1, 0, none⟩, rfl, .inr ⟨_, rfl, blk_new_at HN.out⟩⟩, HB.out.alloc HB.out.size _⟩
  by_cases h4 : kind = 4
  · subst h4
    go_enter Try.func26, Try.ntmps26
    go_wp2
    go_ret
    exact ⟨⟨some ⟨w.heap.size + 1 + 1, 0, none⟩, rfl, .inr ⟨_, rfl, blk_new_at HN.out⟩⟩, HB.out.alloc HB.out.size _⟩
  by_cases h5 : kind = 5
  · subst h5
    go_enter Try.func26, Try.ntmps26
    go_wp2
    go_ret
    exact ⟨⟨some ⟨w.heap.size + 1 + 1, 0, none⟩, rfl, .inr ⟨_, rfl, blk_new_at HN.out⟩⟩, HB.out.alloc HB.out.size _⟩
  by_cases h6 : kind = 6
  · subst h6
    go_enter Try.func26, Try.ntmps26
    go_wp2
    go_ret
    exact ⟨⟨some ⟨w.heap.size + 1 + 1, 0, none⟩, rfl, .inr ⟨_, rfl, blk_new_at HN.out⟩⟩, HB.out.alloc HB.out.size _⟩
  have hk : ¬ (1 ≤ kind ∧ kind ≤ 6) := by omega
  have q1 : (kind == 1) = false := by simpa using h1
  have q2 : (kind == 2) = false := by simpa using h2
  have q3 : (kind == 3) = false := by simpa using h3
  have q4 : (kind == 4) = false := by simpa using h4
  have q5 : (kind == 5) = false := by simpa using h5
  have q6 : (kind == 6) = false := by simpa using h6
  have HN := Lib.hid (show rf ⟨kind, from_, to_, root, boot, seq, hops, time, level, sent, got, back, glob, tai⟩ = [] from if_neg hk)
  clear h1 h2 h3 h4 h5 h6 hk
  go_enter Try.func26, Try.ntmps26
  go_wp2
  go_ret
  rw [HN.out]
  exact ⟨⟨none, rfl, .inl ⟨rfl, rfl⟩⟩, HB.out⟩
theorem rf_out {p : Pl} (h : ¬ inK p) : rf p = [] := if_neg h
theorem rf_in {p : Pl} (h : inK p) : rf p = flds (kn p) (nums p (kn p)) := if_pos h
theorem rf_pos {p : Pl} (h : inK p) : 0 < (rf p).length := by
  rw [rf_in h]
  have hk := kn_in h
  unfold flds
  rw [List.length_zipWith, nums_length, Nat.min_self]
  rcases (by omega : kn p = 1 ∨ kn p = 2 ∨ kn p = 3 ∨ kn p = 4 ∨ kn p = 5 ∨ kn p = 6) with h | h | h | h | h | h <;> rw [h] <;> decide
theorem rf_le (p : Pl) : (rf p).length ≤ 8 := by
  by_cases h : inK p
  · rw [rf_in h]
    have hk := kn_in h
    unfold flds
    rw [List.length_zipWith, nums_length, Nat.min_self]
    rcases (by omega : kn p = 1 ∨ kn p = 2 ∨ kn p = 3 ∨ kn p = 4 ∨ kn p = 5 ∨ kn p = 6) with h | h | h | h | h | h <;> rw [h] <;> decide
  · rw [rf_out h]; simp
theorem good_rf (p : Pl) : good p = ((rf p).all Fld.ok && decide (0 < (rf p).length)) := by
  by_cases h : inK p
  · rw [decide_eq_true (rf_pos h), Bool.and_true, rf_in h]
    unfold good
    rw [decide_eq_true h, Bool.true_and]
  · rw [rf_out h]
    unfold good
    rw [decide_eq_false h]
    rfl
set_option maxRecDepth 100000 in
set_option maxHeartbeats 4000000 in
theorem goodr_ok (p : Pl) (hp : Oks p) (w : World) : Calls Try.prog 17 #[p.v] w fun e w' => e = .returned (.bool (good p)) ∧ Below w.heap.size w w' := by
  have CF := Lib.hid (fields_ok p hp)
  have HG := Lib.hid (good_rf p)
  have hle := rf_le p
  have HX := Lib.hid (Blk.new w 31 p.cs)
  have HB0 := Lib.hid ((Below.refl w.heap.size w).alloc (Nat.le_refl _) (.cells p.cs 31))
  obtain ⟨fs, hfs⟩ : ∃ fs, rf p = fs := ⟨_, rfl⟩
  obtain ⟨RES, hRES⟩ : ∃ RES, good p = RES := ⟨_, rfl⟩
  rw [hfs] at CF hle
  rw [hfs, hRES] at HG
  rw [hRES]
  clear hfs hRES hp
  obtain ⟨kind, from_, to_, root, boot, seq, hops, time, level, sent, got, back, glob, tai⟩ := p
  simp only [Pl.v, Pl.cs] at *
  obtain ⟨c0, c1, c2, c3, c4, c5, c6, c7, c8, c9, c10, c11, c12, c13⟩ := reads14 HX.out
  go_enter Try.func17, Try.ntmps17
  go_wp2_with (go_at_call 26; (with_reducible refine Calls.mono (CF.out _) ?_); rintro e w1 ⟨⟨A, rfl, hr⟩, hb⟩; have HR := Lib.hid hr; have HB := Lib.hid (HB0.out.trans (hb.mono HB0.out.size)); clear hr hb)
  clear CF HX HB0 c0 c1 c2 c3 c4 c5 c6 c7 c8 c9 c10 c11 c12 c13
  go_loopw [5, 10] (fun _ i wr => ∃ k : Nat, k ≤ fs.length ∧ i = .int .i64 k ∧ (fs.take k).all Fld.ok = true ∧ Rf wr A fs ∧ Below w.heap.size w wr) (fun _ i _ => fs.length - (intOf i).toNat)
  case atStart => exact ⟨0, Nat.zero_le _, rfl, by simp, HR.out, HB.out⟩
  case round =>
    obtain ⟨k, hk, rfl, ha, hr, hw⟩ := hrel
    have HA := Lib.hid ha
    have HR1 := Lib.hid hr
    have HW1 := Lib.hid hw
    clear ha hr hw HR HB
    by_cases hlt : k < fs.length
    · obtain ⟨g, f, rfl, hf, hb, x0, x1, x2⟩ := HR1.out.at_ hlt
      have HT := Lib.hid (all_take_succ fs k f hf)
      have HF2 := Lib.hid hf
      have HRN := Lib.hid (fun o => HR1.out.below ((Below.refl _ wr).alloc (Nat.le_refl _) o))
      have HWN := Lib.hid (fun o => HW1.out.alloc HW1.out.size o)
      clear hb hf
      obtain ⟨fz, fn, fm⟩ := f
      simp only at x0 x1 x2
      have n1 : (k : Int) < (fs.length : Int) := by omega
      by_cases hok : Fld.ok ⟨fz, fn, fm⟩ = true
      · have hok2 : 0 ≤ fn ∧ fn ≤ fm := of_decide_eq_true hok
        have HOK := Lib.hid hok
        obtain ⟨h0, h1⟩ := hok2
        clear hok
        go_wp2
        go_roundw
        case rel => exact ⟨k + 1, hlt, by go_num, by rw [HT.out, HA.out, HOK.out]; rfl, HRN.out _, HWN.out _⟩
        case measure => simp [intOf]; omega
      · have hno : RES = false := by
          rw [HG.out, show fs.all Fld.ok = false by rw [List.all_eq_false]; exact ⟨_, List.mem_of_getElem? HF2.out, hok⟩]
          rfl
        have hok2 : ¬ (0 ≤ fn ∧ fn ≤ fm) := fun h => hok (decide_eq_true h)
        have HNO := Lib.hid hno
        clear hok hno
        by_cases h0 : fn < 0
        · clear hok2
          go_wp2
          go_ret
          exact ⟨by rw [HNO.out]; rfl, HWN.out _⟩
        · have h1 : fm < fn := by omega
          clear hok2
          go_wp2
          go_ret
          exact ⟨by rw [HNO.out]; rfl, HWN.out _⟩
    · have hall : RES = decide (0 < fs.length) := by
        have := HA.out
        rw [List.take_of_length_le (by omega)] at this
        rw [HG.out, this, Bool.true_and]
      have HALL := Lib.hid hall
      have n1 : ¬ (k : Int) < (fs.length : Int) := by omega
      clear hall
      by_cases h0 : 0 < fs.length
      · have q0 : (0 : Int) < (fs.length : Int) := by omega
        go_wp2
        go_ret
        exact ⟨by rw [HALL.out, decide_eq_true h0]; rfl, HW1.out⟩
      · have q0 : ¬ (0 : Int) < (fs.length : Int) := by omega
        go_wp2
        go_ret
        exact ⟨by rw [HALL.out, decide_eq_false h0]; rfl, HW1.out⟩
theorem reto (Q : Ending → World → Prop) (a : Act) (W : World) (b : Nat) (p : Pl) (h2 : a.tmps.getD 2 undef = .pointer (some ⟨b, 0, none⟩)) (hd : a.defers = [])
    (hb : Blk W b 31 p.cs) (hq : Q (.returned p.v) W) : bodyPost Try.prog Try.f15 Q .ret a W := by
  have q0 : W.cell? ⟨b, 0, none⟩ = some (.int .i64 p.kind) := hb.cell 0
  have q1 : W.cell? ⟨b, 1, none⟩ = some (.int .i64 p.from_) := hb.cell 1
  have q2 : W.cell? ⟨b, 2, none⟩ = some (.int .i64 p.to_) := hb.cell 2
  have q3 : W.cell? ⟨b, 3, none⟩ = some (.int .i64 p.root) := hb.cell 3
  have q4 : W.cell? ⟨b, 4, none⟩ = some (.int .u16 p.boot) := hb.cell 4
  have q5 : W.cell? ⟨b, 5, none⟩ = some (.int .u16 p.seq) := hb.cell 5
  have q6 : W.cell? ⟨b, 6, none⟩ = some (.int .i64 p.hops) := hb.cell 6
  have q7 : W.cell? ⟨b, 7, none⟩ = some (.int .i64 p.time) := hb.cell 7
  have q8 : W.cell? ⟨b, 8, none⟩ = some (.int .i64 p.level) := hb.cell 8
  have q9 : W.cell? ⟨b, 9, none⟩ = some (.int .i64 p.sent) := hb.cell 9
  have q10 : W.cell? ⟨b, 10, none⟩ = some (.int .i64 p.got) := hb.cell 10
  have q11 : W.cell? ⟨b, 11, none⟩ = some (.int .i64 p.back) := hb.cell 11
  have q12 : W.cell? ⟨b, 12, none⟩ = some (.int .i64 p.glob) := hb.cell 12
  have q13 : W.cell? ⟨b, 13, none⟩ = some (.int .i64 p.tai) := hb.cell 13
  obtain ⟨tmps, defers⟩ := a
  simp only at h2 hd
  subst hd
  rw [Array.getD_eq_getD_getElem?] at h2
  refine bodyPost_ret (v := p.v) ?_ rfl hq
  simp [results, Try.results15, go_sem, h2, q0, q1, q2, q3, q4, q5, q6, q7, q8, q9, q10, q11, q12, q13, Pl.v, Pl.cs]
/-- A frame with the fields of its kind alone. -/
def onl (p : Pl) : Pl := if inK p then pln (kn p) (nums p (kn p)) else pl0
set_option maxRecDepth 100000 in
set_option maxHeartbeats 8000000 in
theorem only_ok (p : Pl) (w : World) : Calls Try.prog 15 #[p.v] w fun e w' => e = .returned (onl p).v ∧ Below w.heap.size w w' := by
  obtain ⟨o, ho⟩ : ∃ o, onl p = o := ⟨_, rfl⟩
  rw [ho]
  obtain ⟨kind, from_, to_, root, boot, seq, hops, time, level, sent, got, back, glob, tai⟩ := p
  obtain ⟨r, hr⟩ : ∃ r, o.v = r := ⟨_, rfl⟩
  rw [hr]
  have HO := Lib.hid ho
  have HR := Lib.hid hr
  clear ho hr
  simp only [Pl.v, Pl.cs]
  by_cases h1 : kind = 1
  · subst h1
    go_enter Try.func15, Try.ntmps15
    go_wp2
    exact reto _ _ _ (w.heap.size + 1) o rfl rfl (HO.out ▸ blk_new_at (by simp)) ⟨by rw [HR.out], ((Below.refl _ w).alloc (Nat.le_refl _) _).alloc (by simp) _⟩
  by_cases h2 : kind = 2
  · subst h2
    go_enter Try.func15, Try.ntmps15
    go_wp2
    exact reto _ _ _ (w.heap.size + 1) o rfl rfl (HO.out ▸ blk_new_at (by simp)) ⟨by rw [HR.out], ((Below.refl _ w).alloc (Nat.le_refl _) _).alloc (by simp) _⟩
  by_cases h3 : kind = 3
  · subst h3
    go_enter Try.func15, Try.ntmps15
    go_wp2
    exact reto _ _ _ (w.heap.size + 1) o rfl rfl (HO.out ▸ blk_new_at (by simp)) ⟨by rw [HR.out], ((Below.refl _ w).alloc (Nat.le_refl _) _).alloc (by simp) _⟩
  by_cases h4 : kind = 4
  · subst h4
    go_enter Try.func15, Try.ntmps15
    go_wp2
    exact reto _ _ _ (w.heap.size + 1) o rfl rfl (HO.out ▸ blk_new_at (by simp)) ⟨by rw [HR.out], ((Below.refl _ w).alloc (Nat.le_refl _) _).alloc (by simp) _⟩
  by_cases h5 : kind = 5
  · subst h5
    go_enter Try.func15, Try.ntmps15
    go_wp2
    exact reto _ _ _ (w.heap.size + 1) o rfl rfl (HO.out ▸ blk_new_at (by simp)) ⟨by rw [HR.out], ((Below.refl _ w).alloc (Nat.le_refl _) _).alloc (by simp) _⟩
  by_cases h6 : kind = 6
  · subst h6
    go_enter Try.func15, Try.ntmps15
    go_wp2
    exact reto _ _ _ (w.heap.size + 1) o rfl rfl (HO.out ▸ blk_new_at (by simp)) ⟨by rw [HR.out], ((Below.refl _ w).alloc (Nat.le_refl _) _).alloc (by simp) _⟩
  have hk : ¬ (1 ≤ kind ∧ kind ≤ 6) := by omega
  have q1 : (kind == 1) = false := by simpa using h1
  have q2 : (kind == 2) = false := by simpa using h2
  have q3 : (kind == 3) = false := by simpa using h3
  have q4 : (kind == 4) = false := by simpa using h4
  have q5 : (kind == 5) = false := by simpa using h5
  have q6 : (kind == 6) = false := by simpa using h6
  have HN := Lib.hid (show o = pl0 from HO.out.symm.trans (if_neg hk))
  clear h1 h2 h3 h4 h5 h6 hk
  go_enter Try.func15, Try.ntmps15
  go_wp2
  exact reto _ _ _ (w.heap.size + 1) o rfl rfl (HN.out ▸ blk_new_at (by simp)) ⟨by rw [HR.out], ((Below.refl _ w).alloc (Nat.le_refl _) _).alloc (by simp) _⟩
end Go.Proofs.Ytjkngcpmcmffmaa.Rd
