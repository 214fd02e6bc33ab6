/- The reference's Read. -/
import Derived.Test.YtjkngcpmcmffmaaGe
namespace Go.Proofs.Ytjkngcpmcmffmaa.Rx
open Go.RowKit Go.Proofs.Ytjkngcpmcmffmaa.Bk Go.Proofs.Ytjkngcpmcmffmaa.Rw Go.Proofs.Ytjkngcpmcmffmaa.Ow Go.Proofs.Ytjkngcpmcmffmaa.Kp Go.Proofs.Ytjkngcpmcmffmaa.Sq Go.Proofs.Ytjkngcpmcmffmaa.Octet Go.Proofs.Ytjkngcpmcmffmaa.Fr Go.Proofs.Ytjkngcpmcmffmaa.Pn Go.Proofs.Ytjkngcpmcmffmaa.Crc Go.Proofs.Ytjkngcpmcmffmaa.Cr Go.Proofs.Ytjkngcpmcmffmaa.Gn Go.Proofs.Ytjkngcpmcmffmaa.Kd Go.Proofs.Ytjkngcpmcmffmaa.Dc Go.Proofs.Ytjkngcpmcmffmaa.De Go.Proofs.Ytjkngcpmcmffmaa.Pl Go.Proofs.Ytjkngcpmcmffmaa.Al Go.Proofs.Ytjkngcpmcmffmaa.Rd Go.Proofs.Ytjkngcpmcmffmaa.Re Go.Proofs.Ytjkngcpmcmffmaa.Ge
theorem ret11 (Q : Ending → World → Prop) (a : Act) (W : World) (b : Nat) (p : Pl) (n : Int) (h2 : a.tmps.getD 2 undef = .pointer (some ⟨b, 0, none⟩)) (h3 : a.tmps.getD 3 undef = .int .i64 n) (hd : a.defers = [])
    (hb : Blk W b 31 p.cs) (hq : Q (.returned (.tuple #[p.v, .int .i64 n])) W) : bodyPost Try.prog Try.f11 Q .ret a W := by
  have q0 : W.cell? ⟨b, 0, none⟩ = some (.int .i64 p.kind) := hb.cell 0
  have q1 : W.cell? ⟨b, 1, none⟩ = some (.int .i64 p.from_) := hb.cell 1
  have q2 : W.cell? ⟨b, 2, none⟩ = some (.int .i64 p.to_) := hb.cell 2
  have q3 : W.cell? ⟨b, 3, none⟩ = some (.int .i64 p.root) := hb.cell 3
  have q4 : W.cell? ⟨b, 4, none⟩ = some (.int .u16 p.boot) := hb.cell 4
  have q5 : W.cell? ⟨b, 5, none⟩ = some (.int .u16 p.seq) := hb.cell 5
  have q6 : W.cell? ⟨b, 6, none⟩ = some (.int .i64 p.hops) := hb.cell 6
  have q7 : W.cell? ⟨b, 7, none⟩ = some (.int .i64 p.time) := hb.cell 7
  have q8 : W.cell? ⟨b, 8, none⟩ = some (.int .i64 p.level) := hb.cell 8
  have q9 : W.cell? ⟨b, 9, none⟩ = some (.int .i64 p.sent) := hb.cell 9
  have q10 : W.cell? ⟨b, 10, none⟩ = some (.int .i64 p.got) := hb.cell 10
  have q11 : W.cell? ⟨b, 11, none⟩ = some (.int .i64 p.back) := hb.cell 11
  have q12 : W.cell? ⟨b, 12, none⟩ = some (.int .i64 p.glob) := hb.cell 12
  have q13 : W.cell? ⟨b, 13, none⟩ = some (.int .i64 p.tai) := hb.cell 13
  obtain ⟨tmps, defers⟩ := a
  simp only at h2 h3 hd
  subst hd
  rw [Array.getD_eq_getD_getElem?] at h2 h3
  refine bodyPost_ret (v := .tuple #[p.v, .int .i64 n]) ?_ rfl hq
  simp [results, Try.results11, go_sem, h2, h3, q0, q1, q2, q3, q4, q5, q6, q7, q8, q9, q10, q11, q12, q13, Pl.v, Pl.cs]
theorem pl0_cs : pl0.cs = #[.int .i64 0, .int .i64 0, .int .i64 0, .int .i64 0, .int .u16 0, .int .u16 0, .int .i64 0, .int .i64 0, .int .i64 0, .int .i64 0, .int .i64 0, .int .i64 0, .int .i64 0, .int .i64 0] := rfl
/-- The whole frame stored anew. -/
def W14 (w : World) (g : Nat) (p : Pl) : World := (((((((((((((w.setCell ⟨g, 0, none⟩ (.int .i64 p.kind)).setCell ⟨g, 1, none⟩ (.int .i64 p.from_)).setCell ⟨g, 2, none⟩ (.int .i64 p.to_)).setCell ⟨g, 3, none⟩ (.int .i64 p.root)).setCell ⟨g, 4, none⟩ (.int .u16 p.boot)).setCell ⟨g, 5, none⟩ (.int .u16 p.seq)).setCell ⟨g, 6, none⟩ (.int .i64 p.hops)).setCell ⟨g, 7, none⟩ (.int .i64 p.time)).setCell ⟨g, 8, none⟩ (.int .i64 p.level)).setCell ⟨g, 9, none⟩ (.int .i64 p.sent)).setCell ⟨g, 10, none⟩ (.int .i64 p.got)).setCell ⟨g, 11, none⟩ (.int .i64 p.back)).setCell ⟨g, 12, none⟩ (.int .i64 p.glob)).setCell ⟨g, 13, none⟩ (.int .i64 p.tai)
theorem set14 (p : Pl) : ((((((((((((((pl0.cs.setIfInBounds 0 (.int .i64 p.kind)).setIfInBounds 1 (.int .i64 p.from_)).setIfInBounds 2 (.int .i64 p.to_)).setIfInBounds 3 (.int .i64 p.root)).setIfInBounds 4 (.int .u16 p.boot)).setIfInBounds 5 (.int .u16 p.seq)).setIfInBounds 6 (.int .i64 p.hops)).setIfInBounds 7 (.int .i64 p.time)).setIfInBounds 8 (.int .i64 p.level)).setIfInBounds 9 (.int .i64 p.sent)).setIfInBounds 10 (.int .i64 p.got)).setIfInBounds 11 (.int .i64 p.back)).setIfInBounds 12 (.int .i64 p.glob)).setIfInBounds 13 (.int .i64 p.tai)) = p.cs := by
  simp [Pl.cs, pl0, List.setIfInBounds_toArray]
theorem blk14 {w : World} {g : Nat} (h : Blk w g 31 pl0.cs) (p : Pl) : Blk (W14 w g p) g 31 p.cs := by
  have h2 := ((((((((((((((h.set_ 0 (.int .i64 p.kind)).set_ 1 (.int .i64 p.from_)).set_ 2 (.int .i64 p.to_)).set_ 3 (.int .i64 p.root)).set_ 4 (.int .u16 p.boot)).set_ 5 (.int .u16 p.seq)).set_ 6 (.int .i64 p.hops)).set_ 7 (.int .i64 p.time)).set_ 8 (.int .i64 p.level)).set_ 9 (.int .i64 p.sent)).set_ 10 (.int .i64 p.got)).set_ 11 (.int .i64 p.back)).set_ 12 (.int .i64 p.glob)).set_ 13 (.int .i64 p.tai))
  rw [set14] at h2
  exact h2
theorem below14 {w0 w : World} {B g : Nat} (h : Below B w0 w) (hg : B ≤ g) (p : Pl) : Below B w0 (W14 w g p) :=
  (((((((((((((h.setCell (p := ⟨g, 0, none⟩) hg _).setCell (p := ⟨g, 1, none⟩) hg _).setCell (p := ⟨g, 2, none⟩) hg _).setCell (p := ⟨g, 3, none⟩) hg _).setCell (p := ⟨g, 4, none⟩) hg _).setCell (p := ⟨g, 5, none⟩) hg _).setCell (p := ⟨g, 6, none⟩) hg _).setCell (p := ⟨g, 7, none⟩) hg _).setCell (p := ⟨g, 8, none⟩) hg _).setCell (p := ⟨g, 9, none⟩) hg _).setCell (p := ⟨g, 10, none⟩) hg _).setCell (p := ⟨g, 11, none⟩) hg _).setCell (p := ⟨g, 12, none⟩) hg _).setCell (p := ⟨g, 13, none⟩) hg _
theorem froz14 {w : World} {b : Nat} (h : Blk w b 31 pl0.cs) : w.frozen? ⟨b, 0, none⟩ = false ∧ w.frozen? ⟨b, 1, none⟩ = false ∧ w.frozen? ⟨b, 2, none⟩ = false ∧ w.frozen? ⟨b, 3, none⟩ = false ∧ w.frozen? ⟨b, 4, none⟩ = false ∧ w.frozen? ⟨b, 5, none⟩ = false ∧ w.frozen? ⟨b, 6, none⟩ = false ∧ w.frozen? ⟨b, 7, none⟩ = false ∧ w.frozen? ⟨b, 8, none⟩ = false ∧ w.frozen? ⟨b, 9, none⟩ = false ∧ w.frozen? ⟨b, 10, none⟩ = false ∧ w.frozen? ⟨b, 11, none⟩ = false ∧ w.frozen? ⟨b, 12, none⟩ = false ∧ w.frozen? ⟨b, 13, none⟩ = false :=
  ⟨h.frozen 0, h.frozen 1, h.frozen 2, h.frozen 3, h.frozen 4, h.frozen 5, h.frozen 6, h.frozen 7, h.frozen 8, h.frozen 9, h.frozen 10, h.frozen 11, h.frozen 12, h.frozen 13⟩
set_option maxRecDepth 100000 in
set_option maxHeartbeats 8000000 in
theorem read_early (A : Option Addr) (c : Nat) (l : List Int) (w : World) (h : 64 < l.length ∨ l.length = 0) :
    Calls Try.prog 11 #[.slice A l.length c] w fun e w' => e = .returned (.tuple #[(rpl l).v, .int .i64 (de l)]) ∧ Below w.heap.size w w' := by
  have hd : rpl l = pl0 ∧ de l = if 64 < l.length then 5 else 3 := by
    have e : de l = if 64 < l.length then 5 else 3 := by
      unfold de
      by_cases h1 : 64 < l.length
      · rw [if_pos h1, if_pos h1]
      · rw [if_neg h1, if_neg h1, if_pos (.inl (by omega))]
    refine ⟨?_, e⟩
    unfold rpl
    rw [if_neg (by rw [e]; split <;> decide)]
  have HB := Lib.hid ((Below.refl w.heap.size w).alloc (Nat.le_refl _) (.cells pl0.cs 31))
  have HX := Lib.hid (Blk.new w 31 pl0.cs)
  rw [hd.1, hd.2]
  by_cases h1 : 64 < l.length
  · rw [if_pos h1]
    have n1 : (64 : Int) < (l.length : Int) := by omega
    clear h hd
    go_enter Try.func11, Try.ntmps11
    go_wp2
    exact ret11 _ _ _ w.heap.size pl0 5 rfl rfl rfl HX.out ⟨rfl, HB.out⟩
  · rw [if_neg h1]
    have n1 : ¬ (64 : Int) < (l.length : Int) := by omega
    have n2 : (l.length : Int) = 0 := by omega
    have n3 : ((l.length : Int) == 0) = true := by simpa using n2
    clear h hd
    go_enter Try.func11, Try.ntmps11
    go_wp2
    exact ret11 _ _ _ w.heap.size pl0 3 rfl rfl rfl HX.out ⟨rfl, HB.out⟩
theorem blk_oi {w w2 : World} {g t : Nat} {C : Array Value} {k : IntKind} {e : TypeId} {base : Nat} {v : Value} {l : List Int} (hb : Blk w g t C) (ho : Oi k e w base v l) (hne : t ≠ e) (hg : w.grownBy w2 v.ownBlock) : Blk w2 g t C := by
  refine hb.grown hg (fun h => ?_)
  rcases ho.2 with ⟨rfl, _⟩ | ⟨q, c, cur, rfl, _, hq, _⟩
  · cases h
  · injection h with h
    exact Blk.ne_ hb (show Blk w q e cur from hq) hne h
theorem rf_oi {w w2 : World} {A : Option Addr} {fs : List Fld} {k : IntKind} {e : TypeId} {base : Nat} {v : Value} {l : List Int} (h : Rf w A fs) (ho : Oi k e w base v l) (hne : 71 ≠ e) (hg : w.grownBy w2 v.ownBlock) : Rf w2 A fs := by
  rcases h with h | ⟨g, h1, hb⟩
  · exact .inl h
  · exact .inr ⟨g, h1, blk_oi hb ho hne hg⟩
theorem de_3 {l : List Int} (h64 : l.length ≤ 64) (h : ¬ (1 ≤ dk l ∧ dk l ≤ 6) ∨ (l.length : Int) ≠ tot (dk l) + 3) : de l = 3 ∧ rpl l = pl0 := by
  have e : de l = 3 := by unfold de; rw [if_neg (by omega), if_pos (.inr h)]
  exact ⟨e, by unfold rpl; rw [e]; rfl⟩
theorem de_4 {l : List Int} (h64 : l.length ≤ 64) (h0 : 0 < l.length) (hk : 1 ≤ dk l ∧ dk l ≤ 6) (ht : (l.length : Int) = tot (dk l) + 3) (hg : goes 65535 l ≠ 0) : de l = 4 ∧ rpl l = pl0 := by
  have e : de l = 4 := by unfold de; rw [if_neg (by omega), if_neg (by rintro (h | h | h) <;> omega), if_pos hg]
  exact ⟨e, by unfold rpl; rw [e]; rfl⟩
theorem de_end {l : List Int} (h64 : l.length ≤ 64) (h0 : 0 < l.length) (hk : 1 ≤ dk l ∧ dk l ≤ 6) (ht : (l.length : Int) = tot (dk l) + 3) (hg : goes 65535 l = 0) : ((flds (dk l) (dn l)).all Fld.ok = true → de l = 0 ∧ rpl l = pln (dk l) (dn l)) ∧ ((flds (dk l) (dn l)).all Fld.ok = false → de l = 3 ∧ rpl l = pl0) := by
  have e : de l = if (flds (dk l) (dn l)).all Fld.ok then 0 else 3 := by unfold de; rw [if_neg (by omega), if_neg (by rintro (h | h | h) <;> omega), if_neg (fun h => h hg)]
  constructor
  · intro h
    rw [h] at e
    exact ⟨e, by unfold rpl; rw [e]; rfl⟩
  · intro h
    rw [h] at e
    exact ⟨e, by unfold rpl; rw [e]; rfl⟩
/-- The row of eight numbers, of which the first ones are laid. -/
def vl (ps : List Int) (j : Nat) : Array Value := ((ps.take j ++ List.replicate (8 - j) 0).map (Value.int .i64)).toArray
theorem vl_set {ps : List Int} {j : Nat} (hj : j < ps.length) (h8 : ps.length ≤ 8) : (vl ps j).setIfInBounds j (.int .i64 (ps.getD j 0)) = vl ps (j + 1) := by
  unfold vl
  rw [List.setIfInBounds_toArray]
  congr 1
  apply List.ext_getElem?
  intro i
  rw [List.getElem?_set, List.getElem?_map, List.getElem?_map, List.getElem?_append, List.getElem?_append]
  simp only [List.length_map, List.length_append, List.length_take, List.length_replicate]
  by_cases h1 : j = i
  · subst h1
    rw [if_pos rfl, if_pos (by omega), if_pos (by omega), List.getElem?_take, if_pos (by omega), List.getD_eq_getElem?_getD, List.getElem?_eq_getElem hj]
    rfl
  · rw [if_neg h1]
    by_cases h2 : i < j
    · rw [if_pos (by omega), if_pos (by omega), List.getElem?_take, List.getElem?_take, if_pos h2, if_pos (by omega)]
    · rw [if_neg (by omega), if_neg (by omega), List.getElem?_replicate, List.getElem?_replicate]
      by_cases h3 : i < 8
      · rw [if_pos (by omega), if_pos (by omega)]
      · rw [if_neg (by omega), if_neg (by omega)]
theorem vl_size {ps : List Int} {j : Nat} (h8 : ps.length ≤ 8) (hj : j ≤ ps.length) : (vl ps j).size = 8 := by
  unfold vl
  simp only [List.size_toArray, List.length_map, List.length_append, List.length_take, List.length_replicate]
  omega
theorem list1 {l : List Int} (h : l.length = 1) : ∃ a0, l = [a0] := match l, h with | [a0], _ => ⟨a0, rfl⟩
theorem list2 {l : List Int} (h : l.length = 2) : ∃ a0 a1, l = [a0, a1] := match l, h with | [a0, a1], _ => ⟨a0, a1, rfl⟩
theorem list3 {l : List Int} (h : l.length = 3) : ∃ a0 a1 a2, l = [a0, a1, a2] := match l, h with | [a0, a1, a2], _ => ⟨a0, a1, a2, rfl⟩
theorem list6 {l : List Int} (h : l.length = 6) : ∃ a0 a1 a2 a3 a4 a5, l = [a0, a1, a2, a3, a4, a5] := match l, h with | [a0, a1, a2, a3, a4, a5], _ => ⟨a0, a1, a2, a3, a4, a5, rfl⟩
theorem list8 {l : List Int} (h : l.length = 8) : ∃ a0 a1 a2 a3 a4 a5 a6 a7, l = [a0, a1, a2, a3, a4, a5, a6, a7] := match l, h with | [a0, a1, a2, a3, a4, a5, a6, a7], _ => ⟨a0, a1, a2, a3, a4, a5, a6, a7, rfl⟩
theorem blk14o {w : World} {g b t : Nat} {C : Array Value} (h : Blk w g t C) (hne : g ≠ b) (p : Pl) : Blk (W14 w b p) g t C :=
  (((((((((((((h.far (p := ⟨b, 0, none⟩) hne _).far (p := ⟨b, 1, none⟩) hne _).far (p := ⟨b, 2, none⟩) hne _).far (p := ⟨b, 3, none⟩) hne _).far (p := ⟨b, 4, none⟩) hne _).far (p := ⟨b, 5, none⟩) hne _).far (p := ⟨b, 6, none⟩) hne _).far (p := ⟨b, 7, none⟩) hne _).far (p := ⟨b, 8, none⟩) hne _).far (p := ⟨b, 9, none⟩) hne _).far (p := ⟨b, 10, none⟩) hne _).far (p := ⟨b, 11, none⟩) hne _).far (p := ⟨b, 12, none⟩) hne _).far (p := ⟨b, 13, none⟩) hne _
theorem take_drop8 {ps : List Int} : vl ps ps.length = ((ps ++ List.replicate (8 - ps.length) 0).map (Value.int .i64)).toArray := by
  unfold vl
  rw [List.take_length]
set_option maxRecDepth 100000 in
set_option maxHeartbeats 8000000 in
theorem read_main (A : Option Addr) (c : Nat) (l : List Int) (hl : Bytes l) (hlc : l.length ≤ c) (w : World) (hR : Ri .u8 w A l) (h64 : l.length ≤ 64) (h0 : 0 < l.length) :
    Calls Try.prog 11 #[.slice A l.length c] w fun e w' => e = .returned (.tuple #[(rpl l).v, .int .i64 (de l)]) ∧ Below w.heap.size w w' := by
  have HL := Lib.hid hl
  have HRA := Lib.hid hR
  obtain ⟨ad, rfl, hadlt, hc0⟩ := hR.at_ h0
  have hx := p0_rf hl h0
  have hxb : 0 ≤ l.getD 0 0 ∧ l.getD 0 0 ≤ 255 := by
    rw [List.getD_eq_getElem?_getD, List.getElem?_eq_getElem h0]
    exact hl _ (List.getElem_mem h0)
  have CF := Lib.hid (fields_ok (p0 l) (p0_oks l))
  rw [hx] at CF
  have HX2 := Lib.hid ((Blk.new w 31 pl0.cs).alloc (.cells (p0 l).cs 31))
  have HX4 := Lib.hid (show Blk ((w.alloc (.cells pl0.cs 31)).alloc (.cells (p0 l).cs 31)) (w.heap.size + 1) 31 (p0 l).cs from blk_new_at (by simp))
  have HB0 := Lib.hid (((Below.refl w.heap.size w).alloc (Nat.le_refl _) (.cells pl0.cs 31)).alloc (by simp) (.cells (p0 l).cs 31))
  have HKD := Lib.hid (show (l.getD 0 0).toNat = dk l from rfl)
  obtain ⟨fs, hfs⟩ : ∃ fs, (if 1 ≤ dk l ∧ dk l ≤ 6 then zf (dk l) else []) = fs := ⟨_, rfl⟩
  rw [hfs] at CF
  have HFS := Lib.hid hfs
  have hf8 : fs.length ≤ 8 := by rw [← hfs, ← hx]; exact rf_le _
  have HSZ := Lib.hid (show ∀ f ∈ fs, ∃ s : Nat, f.size = s ∧ s ≤ 8 from fun f hf => by
    rw [← hfs] at hf
    split at hf
    · rename_i hk; exact flds_sz hk f hf
    · cases hf)
  have HC0 := Lib.hid (show ((w.alloc (.cells pl0.cs 31))).cell? (ad.add 0) = some (.int .u8 (l.getD 0 0)) from (World.cell?_alloc_lt w _ _ (by rw [block_of_add]; exact hadlt)).trans hc0)
  have y0 := HC0.out
  rw [Addr.add_zero'] at y0
  unfold Pl.v p0 Pl.cs at CF
  unfold p0 Pl.cs at HX2 HX4 HB0
  unfold Pl.cs at y0
  unfold pl0 at CF HX2 HX4 HB0 y0
  simp only at CF HX2 HX4 HB0 y0
  obtain ⟨x, hxe⟩ : ∃ x, l.getD 0 0 = x := ⟨_, rfl⟩
  rw [hxe] at CF HX2 HX4 HB0 y0 hxb HKD
  have n1 : ¬ (64 : Int) < (l.length : Int) := by omega
  have n3 : ((l.length : Int) == 0) = false := by rw [beq_eq_false_iff_ne]; omega
  have n4 : IntKind.i64.wrap x = x := by rw [IntKind.wrap_i64]; omega
  obtain ⟨RP, hRP⟩ : ∃ RP, (rpl l).v = RP := ⟨_, rfl⟩
  obtain ⟨DE, hDE⟩ : ∃ DE, de l = DE := ⟨_, rfl⟩
  rw [hRP, hDE]
  have HRP := Lib.hid hRP
  have HDE := Lib.hid hDE
  clear hl hR hx hfs hxe hc0 HC0 hRP hDE
  go_enter Try.func11, Try.ntmps11
  go_wp2_with (go_at_call 26; (with_reducible refine Calls.mono (CF.out _) ?_); rintro e w1 ⟨⟨A1, rfl, hr⟩, hb⟩; have HR := Lib.hid hr; have HB1 := Lib.hid (HB0.out.trans (hb.mono HB0.out.size)); have HY2 := Lib.hid (HX2.out.keeps hb); have HY4 := Lib.hid (HX4.out.keeps hb); clear hr hb)
  clear HX2 HX4 HB0 y0
  have HBZ := Lib.hid (show w.heap.size ≤ w.heap.size ∧ w.heap.size ≤ w.heap.size + 1 from ⟨Nat.le_refl _, Nat.le_succ _⟩)
  obtain ⟨b2, hb2⟩ : ∃ b, w.heap.size = b := ⟨_, rfl⟩
  obtain ⟨b4, hb4⟩ : ∃ b, w.heap.size + 1 = b := ⟨_, rfl⟩
  rw [hb4] at HY4 ⊢
  rw [hb2] at HY2
  have HB2 := Lib.hid hb2
  have HSB := Lib.hid (show w.heap.size ≤ b2 from Nat.le_of_eq hb2)
  clear hb4 HBZ
  rw [show (Value.pointer (some ⟨w.heap.size, 0, none⟩)) = .pointer (some ⟨b2, 0, none⟩) by rw [hb2]]
  clear hb2
  go_loopw [5, 7, 33] (fun n _ i wr => ∃ j : Nat, Aside (j ≤ fs.length ∧ i = .int .i64 j ∧ n = .int .i64 (3 + total (fs.take j)) ∧ Blk wr b2 31 #[.int .i64 0, .int .i64 0, .int .i64 0, .int .i64 0, .int .u16 0, .int .u16 0, .int .i64 0, .int .i64 0, .int .i64 0, .int .i64 0, .int .i64 0, .int .i64 0, .int .i64 0, .int .i64 0] ∧ Blk wr b4 31 #[.int .i64 x, .int .i64 0, .int .i64 0, .int .i64 0, .int .u16 0, .int .u16 0, .int .i64 0, .int .i64 0, .int .i64 0, .int .i64 0, .int .i64 0, .int .i64 0, .int .i64 0, .int .i64 0] ∧ Rf wr A1 fs ∧ Below w.heap.size w wr)) (fun _ _ i _ => fs.length - (intOf i).toNat)
  case atStart => exact ⟨0, Nat.zero_le _, rfl, rfl, HY2.out, HY4.out, HR.out, HB1.out⟩
  case round =>
    obtain ⟨j, hX⟩ := hrel
    obtain ⟨hj, rfl, rfl, h2, h4, hr, hb⟩ := hX.out
    have K2 := Lib.hid h2
    have K4 := Lib.hid h4
    have KR := Lib.hid hr
    have KB := Lib.hid hb
    clear hX h2 h4 hr hb HY2 HY4 HR HB1
    by_cases hlt : j < fs.length
    · obtain ⟨g, f, rfl, hf, hbk, x0, x1, x2⟩ := KR.out.at_ hlt
      have HT := Lib.hid (total_take fs j f hf)
      obtain ⟨s, hs1, hs2⟩ := HSZ.out f (List.mem_of_getElem? hf)
      have htb := total_bd (fs := fs.take j) (fun f hf => HSZ.out f (List.mem_of_mem_take hf))
      have hl2 : (fs.take j).length ≤ 8 := by rw [List.length_take]; omega
      have N2 := Lib.hid (fun o => K2.out.alloc o)
      have N4 := Lib.hid (fun o => K4.out.alloc o)
      have NR := Lib.hid (fun o => KR.out.below ((Below.refl _ wr).alloc (Nat.le_refl _) o))
      have NB := Lib.hid (fun o => KB.out.alloc KB.out.size o)
      obtain ⟨fz, fn, fm⟩ := f
      simp only at x0 x1 x2 hs1 HT
      subst hs1
      obtain ⟨y, hy⟩ : ∃ y, total (fs.take j) = y := ⟨_, rfl⟩
      rw [hy] at HT htb ⊢
      have q1 : IntKind.i64.wrap (3 + y + (s : Int)) = 3 + y + (s : Int) := by rw [IntKind.wrap_i64]; omega
      have q2 : (j : Int) < (fs.length : Int) := by omega
      clear hf hbk hy
      go_wp2
      go_roundw
      case rel => exact ⟨j + 1, by omega, by go_num, by rw [HT.out]; go_num, N2.out _, N4.out _, NR.out _, NB.out _⟩
      case measure => simp [intOf]; omega
    · have hjk : fs.take j = fs := List.take_of_length_le (by omega)
      rw [hjk]
      have q3 : ¬ (j : Int) < (fs.length : Int) := by omega
      have htb := total_bd HSZ.out
      clear hjk
      by_cases hk : 1 ≤ dk l ∧ dk l ≤ 6
      · have hfs : zf (dk l) = fs := by have := HFS.out; rwa [if_pos hk] at this
        have htt : total fs = tot (dk l) := by rw [← hfs]; rfl
        have htl := tot_le hk
        have q4 : (3 + total fs == 3) = false := by rw [beq_eq_false_iff_ne]; omega
        by_cases ht : (l.length : Int) = tot (dk l) + 3
        · have q5 : (3 + total fs != (l.length : Int)) = false := by rw [bne_eq_false_iff_eq]; omega
          have HK := Lib.hid hk
          have HTT := Lib.hid ht
          have HZF := Lib.hid hfs
          have HTO := Lib.hid htt
          have CS := Lib.hid (fun (w : World) (h : Ri .u8 w (some ad) l) => refsum_ok (some ad) c l HL.out w h)
          have HAr := Lib.hid (HRA.out.below KB.out)
          by_cases hg : goes 65535 l = 0
          · have q6 : (goes 65535 l != 0) = false := by rw [hg]; rfl
            have HGZ := Lib.hid hg
            rw [hg] at CS
            clear hg hk ht hfs htt htl
            obtain ⟨TT, hTT⟩ : ∃ TT, 3 + total fs = TT := ⟨_, rfl⟩
            rw [hTT] at q4 q5
            rw [hTT]
            clear hTT
            obtain ⟨y0, y1, y2, y3, y4, y5, y6, y7, y8, y9, y10, y11, y12, y13⟩ := reads14 K4.out
            go_wp2_with (first
              | (go_at_call 16; (with_reducible refine Calls.mono (CS.out _ HAr.out) ?_); rintro e w6 ⟨rfl, rfl⟩)
              | (go_at_call 26; (with_reducible refine Calls.mono (CF.out _) ?_); rintro e w3 ⟨⟨A3, rfl, hr3⟩, hb3⟩; have L2 := Lib.hid (K2.out.keeps hb3); have L4 := Lib.hid (K4.out.keeps hb3); have LR := Lib.hid hr3; have LB := Lib.hid (KB.out.trans (hb3.mono KB.out.size)); clear hr3 hb3))
            clear y0 y1 y2 y3 y4 y5 y6 y7 y8 y9 y10 y11 y12 y13 K2 K4 KR KB HAr CS
            go_loopw [8, 9, 11, 58] (fun s8 s9 _ i wr => ∃ j : Nat, Aside (j ≤ fs.length ∧ i = .int .i64 j ∧ s9 = .int .i64 ((1 + off fs j : Nat) : Int) ∧ Oi .u64 55 wr w.heap.size s8 (parts fs l j) ∧ Blk wr b2 31 #[.int .i64 0, .int .i64 0, .int .i64 0, .int .i64 0, .int .u16 0, .int .u16 0, .int .i64 0, .int .i64 0, .int .i64 0, .int .i64 0, .int .i64 0, .int .i64 0, .int .i64 0, .int .i64 0] ∧ Blk wr b4 31 #[.int .i64 x, .int .i64 0, .int .i64 0, .int .i64 0, .int .u16 0, .int .u16 0, .int .i64 0, .int .i64 0, .int .i64 0, .int .i64 0, .int .i64 0, .int .i64 0, .int .i64 0, .int .i64 0] ∧ Rf wr A3 fs ∧ Below w.heap.size w wr)) (fun _ _ _ i _ => fs.length - (intOf i).toNat)
            case atStart => exact ⟨0, Nat.zero_le _, rfl, rfl, Oi.nil _ _ _ _, L2.out, L4.out, LR.out, LB.out⟩
            case round =>
              obtain ⟨j, hX⟩ := hrel
              obtain ⟨hj, rfl, rfl, ho, h2, h4, hr, hb⟩ := hX.out
              have K2 := Lib.hid h2
              have K4 := Lib.hid h4
              have KR := Lib.hid hr
              have KB := Lib.hid hb
              have KO := Lib.hid ho
              clear hX h2 h4 hr hb ho L2 L4 LR LB
              by_cases hlt : j < fs.length
              · obtain ⟨g, f, rfl, hf, hbk, x0, x1, x2⟩ := KR.out.at_ hlt
                have hp := part_val HL.out HK.out HTT.out (j := j) (f := f) (by rw [HZF.out]; exact hf)
                rw [HZF.out] at hp
                have htk := total_take fs j f hf
                have htb := total_bd (fs := fs.take j) (fun f hf => HSZ.out f (List.mem_of_mem_take hf))
                obtain ⟨s, hs1, hs2⟩ := HSZ.out f (List.mem_of_getElem? hf)
                have hs3 : 1 ≤ s := by
                  rcases (by have := HZF.out; exact zf_spec (k := dk l) (j := j) (f := f) (by rw [HZF.out]; exact hf)) with ⟨sp, h1, h2⟩
                  have h3 := spec_sz HK.out (List.mem_of_getElem? h1)
                  rw [h2] at hs1
                  simp only at hs1
                  omega
                have N2 := Lib.hid (K2.out.alloc (.cells #[.int .i64 f.size, .int .i64 f.n, .int .i64 f.most] 71))
                have N4 := Lib.hid (K4.out.alloc (.cells #[.int .i64 f.size, .int .i64 f.n, .int .i64 f.most] 71))
                have NR := Lib.hid (KR.out.below ((Below.refl _ wr).alloc (Nat.le_refl _) (.cells #[.int .i64 f.size, .int .i64 f.n, .int .i64 f.most] 71)))
                have NB := Lib.hid (KB.out.alloc KB.out.size (.cells #[.int .i64 f.size, .int .i64 f.n, .int .i64 f.most] 71))
                have NO := Lib.hid (KO.out.alloc (.cells #[.int .i64 f.size, .int .i64 f.n, .int .i64 f.most] 71))
                obtain ⟨fz, fn, fm⟩ := f
                simp only at x0 x1 x2 hs1 htk hp N2 N4 NR NB NO
                subst hs1
                rw [Int.toNat_natCast] at hp
                obtain ⟨_, _, hfit, hlq, hpt⟩ := hp
                have HOF := Lib.hid (show 1 + off fs (j + 1) = 1 + off fs j + s by unfold off; rw [htk]; omega)
                have HPA := Lib.hid (show parts fs l (j + 1) = parts fs l j ++ [val ((l.drop (1 + off fs j)).take s)] by rw [parts_succ, hpt])
                have hnl : 1 + off fs j < l.length := by omega
                have HRI := Lib.hid (fun (w : World) (h : Ri .u8 w (some ad) l) => (ri_drop h hnl).take s)
                have HQB := Lib.hid (show Bytes ((l.drop (1 + off fs j)).take s) from (bytes_drop HL.out _).take s)
                obtain ⟨n, hn⟩ : ∃ n, 1 + off fs j = n := ⟨_, rfl⟩
                rw [hn] at HOF HPA HRI HQB hlq hnl hfit ⊢
                obtain ⟨Q, hQ⟩ : ∃ Q, (l.drop n).take s = Q := ⟨_, rfl⟩
                rw [hQ] at HPA HRI HQB hlq
                have hplen : (parts fs l j).length = j := by simp [parts]
                have CG := Lib.hid (fun (w : World) (c : Nat) (h : Ri .u8 w (some ad) l) => get_ok (some (ad.add n)) c Q HQB.out (by omega) w (HRI.out w h))
                rw [hlq] at CG
                have q1 : IntKind.i64.wrap ((n : Int) + (s : Int)) = (n : Int) + (s : Int) := by rw [IntKind.wrap_i64]; omega
                have q2 : (j : Int) < (fs.length : Int) := by omega
                have q7 : (n : Int) ≤ (n : Int) + (s : Int) := by omega
                have q8 : (n : Int) + (s : Int) ≤ (c : Int) := by omega
                have q9 : n < c := by omega
                clear hf hbk htk htb hpt hn hQ
                have NRI := Lib.hid (HRA.out.below NB.out)
                obtain ⟨y, hy⟩ : ∃ y, val Q = y := ⟨_, rfl⟩
                rw [hy] at CG HPA
                clear hy
                obtain ⟨ls, hls⟩ : ∃ ls, parts fs l j = ls := ⟨_, rfl⟩
                rw [hls] at HPA hplen NO
                clear hls
                go_wp2_with (first
                  | (go_at_call 27
                     (with_reducible refine Calls.mono (CG.out _ _ NRI.out) ?_)
                     rintro e w7 ⟨rfl, rfl⟩
                     have hx8 := Ri.lit .u64 55 (wr.alloc (.cells #[.int .i64 s, .int .i64 fn, .int .i64 fm] 71)) [y] (by simp [maxLen]) #[.int .u64 y] rfl (mk := (0, 0))
                     rw [World.size_alloc] at hx8
                     have HX8 := Lib.hid hx8
                     clear hx8
                     have HO8 := Lib.hid (NO.out.alloc (.cells #[.int .u64 y] 55)))
                  | (at_builtin; refine wp_append .u64 55 _ w.heap.size (.int .u64 0) 8 rfl _ _ 62 rfl Try.underlying62 (by kernel_rfl) rfl _ ls _ _ [y] 1 rfl rfl rfl HO8.out HX8.out ?_ ?_ ?_ ?_))
                · unfold maxLen; simp only [List.length_singleton]; omega
                · simp only [List.length_singleton]; omega
                · have := NB.out.size; simp at this ⊢; omega
                intro v9 w9 ho9 hg9 _
                have M2 := Lib.hid (blk_oi (N2.out.alloc (.cells #[.int .u64 y] 55)) HO8.out (by decide) hg9)
                have M4 := Lib.hid (blk_oi (N4.out.alloc (.cells #[.int .u64 y] 55)) HO8.out (by decide) hg9)
                have MR := Lib.hid (rf_oi (NR.out.below ((Below.refl _ _).alloc (Nat.le_refl _) (.cells #[.int .u64 y] 55))) HO8.out (by decide) hg9)
                have MX := Lib.hid (blk_oi ((Blk.new wr 71 #[.int .i64 s, .int .i64 fn, .int .i64 fm]).alloc (.cells #[.int .u64 y] 55)) HO8.out (by decide) hg9)
                have MB := Lib.hid (Below.of_owned (NB.out.alloc NB.out.size (.cells #[.int .u64 y] 55)) (by have := NB.out.size; simp at this ⊢; omega) hg9 (fun q hq => (HO8.out.owner q hq).1))
                have MO := Lib.hid ho9
                have u0 : w9.cell? ⟨wr.heap.size, 0, none⟩ = some (.int .i64 s) := MX.out.cell 0
                clear ho9 hg9
                go_wp2
                go_roundw
                case rel => exact ⟨j + 1, by omega, by go_num, by rw [HOF.out]; go_num, by rw [HPA.out]; exact MO.out, M2.out, M4.out, MR.out, MB.out⟩
                case measure => simp [intOf]; omega
              · have hjl : j = fs.length := by omega
                subst hjl
                have q3 : ¬ (fs.length : Int) < (fs.length : Int) := by omega
                obtain ⟨y0, y1, y2, y3, y4, y5, y6, y7, y8, y9, y10, y11, y12, y13⟩ := reads14 K4.out
                obtain ⟨ps, hps⟩ : ∃ ps, parts fs l fs.length = ps := ⟨_, rfl⟩
                have hpl : ps.length = fs.length := by rw [← hps]; simp [parts]
                have HPG := Lib.hid (show ∀ i, i < fs.length → ps.getD i 0 = Dc.part fs l i from fun i hi => by
                  rw [← hps, parts, List.getD_eq_getElem?_getD, List.getElem?_map, List.getElem?_range hi]
                  rfl)
                rw [hps] at KO
                have HPS := Lib.hid hps
                obtain ⟨A8, c8, rfl, hc8, _⟩ := KO.out.ri
                rw [hpl] at hc8 KO
                rw [hpl]
                clear hps
                go_wp2_with (go_at_call 26; (with_reducible refine Calls.mono (CF.out _) ?_); rintro e w3 ⟨⟨A5, rfl, hr3⟩, hb3⟩; have L2 := Lib.hid (K2.out.keeps hb3); have L4 := Lib.hid (K4.out.keeps hb3); have LR := Lib.hid hr3; have LO := Lib.hid (KO.out.below hb3); have LB := Lib.hid (KB.out.trans (hb3.mono KB.out.size)); clear hr3 hb3)
                clear y0 y1 y2 y3 y4 y5 y6 y7 y8 y9 y10 y11 y12 y13 K2 K4 KR KB KO
                go_loopw [12, 13, 81] (fun _ _ i wr => ∃ j : Nat, Aside (j ≤ fs.length ∧ i = .int .i64 j ∧ (∀ i f, i < j → fs[i]? = some f → Dc.part fs l i ≤ f.most) ∧ Oi .u64 55 wr w.heap.size (.slice A8 fs.length c8) ps ∧ Blk wr b2 31 #[.int .i64 0, .int .i64 0, .int .i64 0, .int .i64 0, .int .u16 0, .int .u16 0, .int .i64 0, .int .i64 0, .int .i64 0, .int .i64 0, .int .i64 0, .int .i64 0, .int .i64 0, .int .i64 0] ∧ Blk wr b4 31 #[.int .i64 x, .int .i64 0, .int .i64 0, .int .i64 0, .int .u16 0, .int .u16 0, .int .i64 0, .int .i64 0, .int .i64 0, .int .i64 0, .int .i64 0, .int .i64 0, .int .i64 0, .int .i64 0] ∧ Rf wr A5 fs ∧ Below w.heap.size w wr)) (fun _ _ i _ => fs.length - (intOf i).toNat)
                case atStart => exact ⟨0, Nat.zero_le _, rfl, fun i f h _ => absurd h (by omega), LO.out, L2.out, L4.out, LR.out, LB.out⟩
                case round =>
                  obtain ⟨j, hX⟩ := hrel
                  obtain ⟨hj, rfl, hall, ho, h2, h4, hr, hb⟩ := hX.out
                  have K2 := Lib.hid h2
                  have K4 := Lib.hid h4
                  have KR := Lib.hid hr
                  have KB := Lib.hid hb
                  have KO := Lib.hid ho
                  have HALL := Lib.hid hall
                  clear hX h2 h4 hr hb ho hall L2 L4 LR LB LO
                  by_cases hlt : j < fs.length
                  · obtain ⟨g, f, rfl, hf, hbk, x0, x1, x2⟩ := KR.out.at_ hlt
                    have N2 := Lib.hid (K2.out.alloc (.cells #[.int .i64 f.size, .int .i64 f.n, .int .i64 f.most] 71)).drew
                    have N4 := Lib.hid (K4.out.alloc (.cells #[.int .i64 f.size, .int .i64 f.n, .int .i64 f.most] 71)).drew
                    have NR := Lib.hid (KR.out.below ((Below.refl _ wr).alloc (Nat.le_refl _) (.cells #[.int .i64 f.size, .int .i64 f.n, .int .i64 f.most] 71)).drew)
                    have NB := Lib.hid (Pn.below_drew_ (KB.out.alloc KB.out.size (.cells #[.int .i64 f.size, .int .i64 f.n, .int .i64 f.most] 71)))
                    have NO := Lib.hid (KO.out.alloc (.cells #[.int .i64 f.size, .int .i64 f.n, .int .i64 f.most] 71)).drew
                    have NX := Lib.hid (Blk.new wr 71 #[.int .i64 f.size, .int .i64 f.n, .int .i64 f.most]).drew
                    have HF := Lib.hid hf
                    have hmo : 0 ≤ f.most ∧ f.most < 18446744073709551616 := by
                      rcases zf_spec (k := dk l) (j := j) (f := f) (by rw [HZF.out]; exact hf) with ⟨sp, h1, h2⟩
                      have h3 := spec_sz HK.out (List.mem_of_getElem? h1)
                      rw [h2]
                      simp only
                      omega
                    obtain ⟨A9, c9, he9, _, hr9⟩ := NO.out.ri
                    injection he9 with e1 e2 e3
                    clear e2
                    subst e1 e3
                    obtain ⟨ad8, rfl, _, p0c⟩ := hr9.at_ (j := j) (by rw [hpl]; exact hlt)
                    rw [HPG.out j hlt] at p0c
                    obtain ⟨fz, fn, fm⟩ := f
                    simp only at x0 x1 x2 hmo N2 N4 NR NB NO NX p0c
                    have NP := Lib.hid p0c
                    obtain ⟨v, hv⟩ : ∃ v, Dc.part fs l j = v := ⟨_, rfl⟩
                    rw [hv] at NP
                    have HV := Lib.hid hv
                    have q1 : IntKind.u64.wrap fm = fm := by rw [IntKind.wrap_u64]; omega
                    have q2 : (j : Int) < (fs.length : Int) := by omega
                    clear hf hbk hv p0c hr9
                    have NT := Lib.hid (total_take fs j _ HF.out)
                    clear hpl NT
                    go_wp2
                    refine wp_region_seq [(0, true), (1, true), (2, true), (3, true), (4, true), (5, true), (6, true), (7, true)] (fun w' => w'.cell? (ad8.add j) = some (.int .u64 v) ∧ w'.cell? ⟨wr.heap.size, 2, none⟩ = some (.int .i64 fm)) (by kernel_rfl) (by kernel_rfl) ⟨NP.out, NX.out.cell 2⟩ (fun hHeld => ?_)
                    simp only [List.map_cons, List.map_nil, List.getElem?_toArray, List.getElem?_cons_zero, List.getElem?_cons_succ]
                    repeat (first | (refine seq_skip (by rfl) ?_; try simp only [Act.put, List.setIfInBounds_toArray, List.set_cons_zero, List.set_cons_succ]) | (refine seq_not (by rfl) (by assumption) ?_; try simp only [Act.put, List.setIfInBounds_toArray, List.set_cons_zero, List.set_cons_succ]) | (refine seq_take (v := ?_) (by rfl) ?_ ?_; rotate_left; (focus ((intro w hSw; (try dsimp only at hSw); go_simp; (try with_reducible rfl)); done)); try simp only [Act.put, List.setIfInBounds_toArray, List.set_cons_zero, List.set_cons_succ]))
                    refine seq_done ?_
                    clear hHeld
                    by_cases hvm : fm < v
                    · have HD := Lib.hid ((de_end h64 h0 HK.out HTT.out HGZ.out).2 (one_over HL.out HK.out HTT.out (j := j) (by rw [HZF.out]; exact HF.out) (by rw [HZF.out, HV.out]; exact hvm)))
                      have hnew : w.heap.size ≤ b2 := HSB.out
                      obtain ⟨z0, z1, z2, z3, z4, z5, z6, z7, z8, z9, z10, z11, z12, z13⟩ := froz14 N2.out
                      obtain ⟨y0, y1, y2, y3, y4, y5, y6, y7, y8, y9, y10, y11, y12, y13⟩ := reads14 N2.out
                      clear hnew
                      generalize (wr.alloc (.cells #[.int .i64 fz, .int .i64 fn, .int .i64 fm] 71)).drew = wq at *
                      go_wp2
                      refine ret11 _ _ _ b2 pl0 3 rfl rfl rfl ?_ ?_
                      · exact blk14 N2.out pl0
                      · exact ⟨by rw [← HRP.out, ← HDE.out, HD.out.1, HD.out.2], below14 NB.out HSB.out pl0⟩
                    · have HVM := Lib.hid (show v ≤ fm by omega)
                      go_wp2
                      go_roundw
                      case rel =>
                        refine ⟨j + 1, by omega, by go_num, fun i f hi hfi => ?_, NO.out, N2.out, N4.out, NR.out, NB.out⟩
                        rcases Nat.lt_or_ge i j with h | h
                        · exact HALL.out i f h hfi
                        · obtain rfl : i = j := by omega
                          rw [HF.out] at hfi
                          obtain rfl := Option.some.inj hfi
                          rw [HV.out]
                          exact HVM.out
                      case measure => simp [intOf]; omega
                  · have hjl : j = fs.length := by omega
                    subst hjl
                    have q3 : ¬ (fs.length : Int) < (fs.length : Int) := by omega
                    have HFIT := Lib.hid (all_fit HL.out HK.out HTT.out (fun i f hf => by rw [HZF.out] at hf ⊢; exact HALL.out i f (List.getElem?_eq_some_iff.1 hf).1 hf))
                    have HBD := Lib.hid (show ∀ i f, fs[i]? = some f → 0 ≤ ps.getD i 0 ∧ ps.getD i 0 ≤ f.most from fun i f hf => by
                      have h1 := (List.getElem?_eq_some_iff.1 hf).1
                      have h2 := part_val HL.out HK.out HTT.out (j := i) (f := f) (by rw [HZF.out]; exact hf)
                      rw [HZF.out] at h2
                      rw [HPG.out i h1]
                      exact ⟨h2.1, HALL.out i f h1 hf⟩)
                    have HEND := Lib.hid (show DE = 0 ∧ RP = (pln (dk l) ps).v from by
                      have h1 := (de_end h64 h0 HK.out HTT.out HGZ.out).1 HFIT.out.1
                      refine ⟨HDE.out.symm.trans h1.1, ?_⟩
                      rw [← HRP.out, h1.2, HFIT.out.2, HZF.out, HPS.out])
                    clear hlt HALL KR
                    have hps8 : ps.length ≤ 8 := by rw [hpl]; exact hf8
                    rename World => W8
                    go_wp2_with (with_reducible refine wp_full .i64 3 W8 w.heap.size 8 rfl 73 _ _ rfl Try.underlying73 (by kernel_rfl) .i64 .i64 _ _ 8 rfl rfl rfl rfl ?_ ?_ ?_ ?_)
                    · unfold maxLen; omega
                    · exact KB.out.size
                    intro w2 ho8 hg8
                    have ho9 : w2.ownsRow w.heap.size 3 1 (.slice (some ⟨W8.heap.size, 0, none⟩) 8 8) 8 ([0, 0, 0, 0, 0, 0, 0, 0].map (Value.int .i64)) := ho8
                    have hb9 := blk_of_row ho9
                    have HB9 := Lib.hid (show Blk w2 W8.heap.size 3 (vl ps 0) from hb9.1)
                    have hbw : Below W8.heap.size W8 w2 := (Below.refl _ W8).grown hg8 (Nat.le_refl _) (fun k hk => nomatch hk)
                    have HWW := Lib.hid hbw
                    clear ho8 hg8 ho9 hb9 hbw
                    obtain ⟨g8, hg8⟩ : ∃ g, W8.heap.size = g := ⟨_, rfl⟩
                    rw [hg8] at HB9 HWW ⊢
                    have HG8 := Lib.hid (show w.heap.size ≤ g8 by rw [← hg8]; exact KB.out.size)
                    have HK2 := Lib.hid (fun (u : World) (h : Below g8 W8 u) => K2.out.keeps (hg8.symm ▸ h))
                    have HK4 := Lib.hid (fun (u : World) (h : Below g8 W8 u) => K4.out.keeps (hg8.symm ▸ h))
                    have HKO := Lib.hid (fun (u : World) (h : Below g8 W8 u) => KO.out.below (hg8.symm ▸ h))
                    have HKB := Lib.hid (fun (u : World) (h : Below g8 W8 u) => KB.out.trans (h.mono (hg8 ▸ KB.out.size)))
                    clear hg8 K2 K4 KO KB
                    go_wp2
                    go_loopw [15, 16, 99] (fun _ _ i wr => ∃ j : Nat, Aside (j ≤ fs.length ∧ i = .int .i64 j ∧ Blk wr g8 3 (vl ps j) ∧ Below g8 W8 wr)) (fun _ _ i _ => fs.length - (intOf i).toNat)
                    case atStart => exact ⟨0, Nat.zero_le _, rfl, HB9.out, HWW.out⟩
                    case round =>
                      obtain ⟨j, hX⟩ := hrel
                      obtain ⟨hj, rfl, hb8, hbw⟩ := hX.out
                      have NB := Lib.hid hb8
                      have NW := Lib.hid hbw
                      clear hX hb8 hbw HB9 HWW
                      by_cases hlt : j < fs.length
                      · have KO := HKO.out _ NW.out
                        obtain ⟨A9, c9, he9, _, hr9⟩ := KO.ri
                        rw [← hpl] at he9
                        injection he9 with e1 e2 e3
                        clear e2
                        subst e1 e3
                        obtain ⟨ad8, hA8, _, p0c⟩ := hr9.at_ (j := j) (by rw [hpl]; exact hlt)
                        subst hA8
                        obtain ⟨f, hf⟩ : ∃ f, fs[j]? = some f := ⟨_, List.getElem?_eq_getElem hlt⟩
                        have hvb := HBD.out j f hf
                        obtain ⟨_, hsp, rfl⟩ := zf_spec (k := dk l) (j := j) (f := f) (by rw [HZF.out]; exact hf)
                        have hsz := spec_sz HK.out (List.mem_of_getElem? hsp)
                        have HS := Lib.hid (vl_set (ps := ps) (j := j) (by omega) hps8)
                        simp only at hvb
                        obtain ⟨v, hv⟩ : ∃ v, ps.getD j 0 = v := ⟨_, rfl⟩
                        rw [hv] at p0c HS hvb
                        have q1 : IntKind.i64.wrap v = v := by rw [IntKind.wrap_i64]; omega
                        have q2 : (j : Int) < (fs.length : Int) := by omega
                        have q3 : (j : Int) < 8 := by omega
                        have z0 := NB.out.frozen j
                        obtain ⟨u0, z1⟩ : ∃ u, wr.cell? ⟨g8, j, none⟩ = some u := ⟨_, (NB.out.cell j).trans (Array.getElem?_eq_getElem (by rw [vl_size hps8 (by omega)]; omega))⟩
                        clear hf hsp hsz hv hvb hr9 KO
                        go_wp2
                        go_roundw
                        case rel => exact ⟨j + 1, by omega, by go_num, by rw [← HS.out]; exact NB.out.set_ j _, NW.out.setCell (p := ⟨g8, j, none⟩) (Nat.le_refl _) _⟩
                        case measure => simp [intOf]; omega
                      · have hjl : j = fs.length := by omega
                        subst hjl
                        have q3 : ¬ (fs.length : Int) < (fs.length : Int) := by omega
                        have M2 := Lib.hid (HK2.out _ NW.out)
                        have M4 := Lib.hid (HK4.out _ NW.out)
                        have D2 := Lib.hid (HK2.out _ NW.out).drew
                        have MB := Lib.hid (HKB.out _ NW.out)
                        have DB := Lib.hid (Pn.below_drew_ (HKB.out _ NW.out))
                        rw [← hpl, take_drop8] at NB
                        have hxk : x = dk l := by have := HKD.out; omega
                        have HKK := HK.out
                        have hne : g8 ≠ b2 := fun h => Blk.ne_ NB.out M2.out (by decide) h
                        obtain ⟨y0, y1, y2, y3, y4, y5, y6, y7, y8, y9, y10, y11, y12, y13⟩ := reads14 M4.out
                        clear y1 y2 y3 y4 y5 y6 y7 y8 y9 y10 y11 y12 y13
                        obtain ⟨k, hk⟩ : ∃ k, dk l = k := ⟨_, rfl⟩
                        rw [hk] at HEND HKK hxk HZF
                        have hpl2 : ps.length = (zf k).length := by rw [hpl, HZF.out]
                        have hbd2 : ∀ i f, (zf k)[i]? = some f → 0 ≤ ps.getD i 0 ∧ ps.getD i 0 ≤ f.most := by rw [HZF.out]; exact HBD.out
                        clear HKO HK2 HK4 HKB NW HPG HPS HFIT HBD HZF HK HTT HGZ HTO HRP HDE HKD HFS HSZ CF HL HRA hk
                        have hk6 : k = 1 ∨ k = 2 ∨ k = 3 ∨ k = 4 ∨ k = 5 ∨ k = 6 := by omega
                        rcases hk6 with rfl | rfl | rfl | rfl | rfl | rfl
                        · obtain rfl : x = 1 := hxk
                          have hb2 := hbd2 2 ⟨2, 0, 65535⟩ rfl
                          have hb3 := hbd2 3 ⟨2, 0, 65535⟩ rfl
                          obtain ⟨a0, a1, a2, a3, a4, a5, rfl⟩ := list6 (l := ps) hpl2
                          have hw2 : IntKind.u16.wrap a2 = a2 := by
                            have h1 : 0 ≤ a2 ∧ a2 ≤ 65535 := hb2
                            rw [a_u16]; omega
                          have hw3 : IntKind.u16.wrap a3 = a3 := by
                            have h1 : 0 ≤ a3 ∧ a3 ≤ 65535 := hb3
                            rw [a_u16]; omega
                          clear hb2 hb3
                          have NV := Lib.hid (show Blk wr g8 3 #[.int .i64 a0, .int .i64 a1, .int .i64 a2, .int .i64 a3, .int .i64 a4, .int .i64 a5, .int .i64 0, .int .i64 0] from NB.out)
                          have DV := Lib.hid (show Blk wr.drew g8 3 #[.int .i64 a0, .int .i64 a1, .int .i64 a2, .int .i64 a3, .int .i64 a4, .int .i64 a5, .int .i64 0, .int .i64 0] from NB.out.drew)
                          clear NB hbd2 hpl2 hpl
                          go_wp2
                          refine wp_region_seq [(0, true), (1, true), (2, true), (3, true), (4, true), (5, true), (6, true), (7, true), (8, true), (9, true), (10, true), (11, true), (12, true), (13, true), (14, true), (15, true), (16, true), (17, true), (18, true), (19, true), (20, true), (21, false), (22, true)] (fun w' => w'.cell? ⟨g8, 0, none⟩ = some (.int .i64 a0) ∧ w'.cell? ⟨g8, 1, none⟩ = some (.int .i64 a1) ∧ w'.cell? ⟨g8, 2, none⟩ = some (.int .i64 a2) ∧ w'.cell? ⟨g8, 3, none⟩ = some (.int .i64 a3) ∧ w'.cell? ⟨g8, 4, none⟩ = some (.int .i64 a4) ∧ w'.cell? ⟨g8, 5, none⟩ = some (.int .i64 a5)) (by kernel_rfl) (by kernel_rfl) ⟨DV.out.cell 0, DV.out.cell 1, DV.out.cell 2, DV.out.cell 3, DV.out.cell 4, DV.out.cell 5⟩ (fun hHeld => ?_)
                          obtain ⟨z0, z1, z2, z3, z4, z5, z6, z7, z8, z9, z10, z11, z12, z13⟩ := froz14 D2.out
                          obtain ⟨y0, y1, y2, y3, y4, y5, y6, y7, y8, y9, y10, y11, y12, y13⟩ := reads14 D2.out
                          generalize wr.drew = wq at *
                          simp only [List.map_cons, List.map_nil, List.getElem?_toArray, List.getElem?_cons_zero, List.getElem?_cons_succ]
                          repeat (first | (refine seq_skip (by rfl) ?_; try simp only [Act.put, List.setIfInBounds_toArray, List.set_cons_zero, List.set_cons_succ]) | (refine seq_not (by rfl) (by assumption) ?_; try simp only [Act.put, List.setIfInBounds_toArray, List.set_cons_zero, List.set_cons_succ]) | (refine seq_take (v := ?_) (by rfl) ?_ ?_; rotate_left; (focus ((intro w hSw; (try dsimp only at hSw); go_simp; (try with_reducible rfl)); done)); try simp only [Act.put, List.setIfInBounds_toArray, List.set_cons_zero, List.set_cons_succ]))
                          refine seq_do (fun K hK => ?_)
                          go_simp
                          have NX := blk14o DV.out hne (pln 1 [a0, a1, a2, a3, a4, a5])
                          have NY := Lib.hid (blk14 D2.out (pln 1 [a0, a1, a2, a3, a4, a5]))
                          have NZ := Lib.hid (below14 DB.out HSB.out (pln 1 [a0, a1, a2, a3, a4, a5]))
                          refine hK.out _ _ ⟨NX.cell 0, NX.cell 1, NX.cell 2, NX.cell 3, NX.cell 4, NX.cell 5⟩ (fun hHeld => ?_)
                          clear hK K NX
                          repeat (first | (refine seq_skip (by rfl) ?_; try simp only [Act.put, List.setIfInBounds_toArray, List.set_cons_zero, List.set_cons_succ]) | (refine seq_not (by rfl) (by assumption) ?_; try simp only [Act.put, List.setIfInBounds_toArray, List.set_cons_zero, List.set_cons_succ]) | (refine seq_take (v := ?_) (by rfl) ?_ ?_; rotate_left; (focus ((intro w hSw; (try dsimp only at hSw); go_simp; (try with_reducible rfl)); done)); try simp only [Act.put, List.setIfInBounds_toArray, List.set_cons_zero, List.set_cons_succ]))
                          refine seq_done ?_
                          clear hHeld
                          go_wp2
                          refine ret11 _ _ _ b2 (pln 1 [a0, a1, a2, a3, a4, a5]) 0 rfl rfl rfl ?_ ?_
                          · exact NY.out
                          · exact ⟨by rw [HEND.out.1, HEND.out.2], NZ.out⟩
                        · obtain rfl : x = 2 := hxk
                          obtain ⟨a0, a1, rfl⟩ := list2 (l := ps) hpl2
                          have NV := Lib.hid (show Blk wr g8 3 #[.int .i64 a0, .int .i64 a1, .int .i64 0, .int .i64 0, .int .i64 0, .int .i64 0, .int .i64 0, .int .i64 0] from NB.out)
                          have DV := Lib.hid (show Blk wr.drew g8 3 #[.int .i64 a0, .int .i64 a1, .int .i64 0, .int .i64 0, .int .i64 0, .int .i64 0, .int .i64 0, .int .i64 0] from NB.out.drew)
                          clear NB hbd2 hpl2 hpl
                          go_wp2
                          refine wp_region_seq [(0, true), (1, true), (2, true), (3, true), (4, true), (5, true), (6, true), (7, false), (8, true)] (fun w' => w'.cell? ⟨g8, 0, none⟩ = some (.int .i64 a0) ∧ w'.cell? ⟨g8, 1, none⟩ = some (.int .i64 a1)) (by kernel_rfl) (by kernel_rfl) ⟨DV.out.cell 0, DV.out.cell 1⟩ (fun hHeld => ?_)
                          obtain ⟨z0, z1, z2, z3, z4, z5, z6, z7, z8, z9, z10, z11, z12, z13⟩ := froz14 D2.out
                          obtain ⟨y0, y1, y2, y3, y4, y5, y6, y7, y8, y9, y10, y11, y12, y13⟩ := reads14 D2.out
                          generalize wr.drew = wq at *
                          simp only [List.map_cons, List.map_nil, List.getElem?_toArray, List.getElem?_cons_zero, List.getElem?_cons_succ]
                          repeat (first | (refine seq_skip (by rfl) ?_; try simp only [Act.put, List.setIfInBounds_toArray, List.set_cons_zero, List.set_cons_succ]) | (refine seq_not (by rfl) (by assumption) ?_; try simp only [Act.put, List.setIfInBounds_toArray, List.set_cons_zero, List.set_cons_succ]) | (refine seq_take (v := ?_) (by rfl) ?_ ?_; rotate_left; (focus ((intro w hSw; (try dsimp only at hSw); go_simp; (try with_reducible rfl)); done)); try simp only [Act.put, List.setIfInBounds_toArray, List.set_cons_zero, List.set_cons_succ]))
                          refine seq_do (fun K hK => ?_)
                          go_simp
                          have NX := blk14o DV.out hne (pln 2 [a0, a1])
                          have NY := Lib.hid (blk14 D2.out (pln 2 [a0, a1]))
                          have NZ := Lib.hid (below14 DB.out HSB.out (pln 2 [a0, a1]))
                          refine hK.out _ _ ⟨NX.cell 0, NX.cell 1⟩ (fun hHeld => ?_)
                          clear hK K NX
                          repeat (first | (refine seq_skip (by rfl) ?_; try simp only [Act.put, List.setIfInBounds_toArray, List.set_cons_zero, List.set_cons_succ]) | (refine seq_not (by rfl) (by assumption) ?_; try simp only [Act.put, List.setIfInBounds_toArray, List.set_cons_zero, List.set_cons_succ]) | (refine seq_take (v := ?_) (by rfl) ?_ ?_; rotate_left; (focus ((intro w hSw; (try dsimp only at hSw); go_simp; (try with_reducible rfl)); done)); try simp only [Act.put, List.setIfInBounds_toArray, List.set_cons_zero, List.set_cons_succ]))
                          refine seq_done ?_
                          clear hHeld
                          go_wp2
                          refine ret11 _ _ _ b2 (pln 2 [a0, a1]) 0 rfl rfl rfl ?_ ?_
                          · exact NY.out
                          · exact ⟨by rw [HEND.out.1, HEND.out.2], NZ.out⟩
                        · obtain rfl : x = 3 := hxk
                          obtain ⟨a0, rfl⟩ := list1 (l := ps) hpl2
                          have NV := Lib.hid (show Blk wr g8 3 #[.int .i64 a0, .int .i64 0, .int .i64 0, .int .i64 0, .int .i64 0, .int .i64 0, .int .i64 0, .int .i64 0] from NB.out)
                          have DV := Lib.hid (show Blk wr.drew g8 3 #[.int .i64 a0, .int .i64 0, .int .i64 0, .int .i64 0, .int .i64 0, .int .i64 0, .int .i64 0, .int .i64 0] from NB.out.drew)
                          clear NB hbd2 hpl2 hpl
                          obtain ⟨z0, z1, z2, z3, z4, z5, z6, z7, z8, z9, z10, z11, z12, z13⟩ := froz14 M2.out
                          obtain ⟨u0, u1, u2, u3, u4, u5, u6, u7, u8, u9, u10, u11, u12, u13⟩ := reads14 M2.out
                          have x0 : wr.cell? ⟨g8, 0, none⟩ = some (.int .i64 a0) := NV.out.cell 0
                          go_wp2
                          refine ret11 _ _ _ b2 (pln 3 [a0]) 0 rfl rfl rfl ?_ ?_
                          · exact blk14 M2.out (pln 3 [a0])
                          · exact ⟨by rw [HEND.out.1, HEND.out.2], below14 MB.out HSB.out (pln 3 [a0])⟩
                        · obtain rfl : x = 4 := hxk
                          obtain ⟨a0, a1, a2, rfl⟩ := list3 (l := ps) hpl2
                          have NV := Lib.hid (show Blk wr g8 3 #[.int .i64 a0, .int .i64 a1, .int .i64 a2, .int .i64 0, .int .i64 0, .int .i64 0, .int .i64 0, .int .i64 0] from NB.out)
                          have DV := Lib.hid (show Blk wr.drew g8 3 #[.int .i64 a0, .int .i64 a1, .int .i64 a2, .int .i64 0, .int .i64 0, .int .i64 0, .int .i64 0, .int .i64 0] from NB.out.drew)
                          clear NB hbd2 hpl2 hpl
                          go_wp2
                          refine wp_region_seq [(0, true), (1, true), (2, true), (3, true), (4, true), (5, true), (6, true), (7, true), (8, true), (9, true), (10, false), (11, true)] (fun w' => w'.cell? ⟨g8, 0, none⟩ = some (.int .i64 a0) ∧ w'.cell? ⟨g8, 1, none⟩ = some (.int .i64 a1) ∧ w'.cell? ⟨g8, 2, none⟩ = some (.int .i64 a2)) (by kernel_rfl) (by kernel_rfl) ⟨DV.out.cell 0, DV.out.cell 1, DV.out.cell 2⟩ (fun hHeld => ?_)
                          obtain ⟨z0, z1, z2, z3, z4, z5, z6, z7, z8, z9, z10, z11, z12, z13⟩ := froz14 D2.out
                          obtain ⟨y0, y1, y2, y3, y4, y5, y6, y7, y8, y9, y10, y11, y12, y13⟩ := reads14 D2.out
                          generalize wr.drew = wq at *
                          simp only [List.map_cons, List.map_nil, List.getElem?_toArray, List.getElem?_cons_zero, List.getElem?_cons_succ]
                          repeat (first | (refine seq_skip (by rfl) ?_; try simp only [Act.put, List.setIfInBounds_toArray, List.set_cons_zero, List.set_cons_succ]) | (refine seq_not (by rfl) (by assumption) ?_; try simp only [Act.put, List.setIfInBounds_toArray, List.set_cons_zero, List.set_cons_succ]) | (refine seq_take (v := ?_) (by rfl) ?_ ?_; rotate_left; (focus ((intro w hSw; (try dsimp only at hSw); go_simp; (try with_reducible rfl)); done)); try simp only [Act.put, List.setIfInBounds_toArray, List.set_cons_zero, List.set_cons_succ]))
                          refine seq_do (fun K hK => ?_)
                          go_simp
                          have NX := blk14o DV.out hne (pln 4 [a0, a1, a2])
                          have NY := Lib.hid (blk14 D2.out (pln 4 [a0, a1, a2]))
                          have NZ := Lib.hid (below14 DB.out HSB.out (pln 4 [a0, a1, a2]))
                          refine hK.out _ _ ⟨NX.cell 0, NX.cell 1, NX.cell 2⟩ (fun hHeld => ?_)
                          clear hK K NX
                          repeat (first | (refine seq_skip (by rfl) ?_; try simp only [Act.put, List.setIfInBounds_toArray, List.set_cons_zero, List.set_cons_succ]) | (refine seq_not (by rfl) (by assumption) ?_; try simp only [Act.put, List.setIfInBounds_toArray, List.set_cons_zero, List.set_cons_succ]) | (refine seq_take (v := ?_) (by rfl) ?_ ?_; rotate_left; (focus ((intro w hSw; (try dsimp only at hSw); go_simp; (try with_reducible rfl)); done)); try simp only [Act.put, List.setIfInBounds_toArray, List.set_cons_zero, List.set_cons_succ]))
                          refine seq_done ?_
                          clear hHeld
                          go_wp2
                          refine ret11 _ _ _ b2 (pln 4 [a0, a1, a2]) 0 rfl rfl rfl ?_ ?_
                          · exact NY.out
                          · exact ⟨by rw [HEND.out.1, HEND.out.2], NZ.out⟩
                        · obtain rfl : x = 5 := hxk
                          have hb6 := hbd2 6 ⟨2, 0, 65535⟩ rfl
                          obtain ⟨a0, a1, a2, a3, a4, a5, a6, a7, rfl⟩ := list8 (l := ps) hpl2
                          have hw6 : IntKind.u16.wrap a6 = a6 := by
                            have h1 : 0 ≤ a6 ∧ a6 ≤ 65535 := hb6
                            rw [a_u16]; omega
                          clear hb6
                          have NV := Lib.hid (show Blk wr g8 3 #[.int .i64 a0, .int .i64 a1, .int .i64 a2, .int .i64 a3, .int .i64 a4, .int .i64 a5, .int .i64 a6, .int .i64 a7] from NB.out)
                          have DV := Lib.hid (show Blk wr.drew g8 3 #[.int .i64 a0, .int .i64 a1, .int .i64 a2, .int .i64 a3, .int .i64 a4, .int .i64 a5, .int .i64 a6, .int .i64 a7] from NB.out.drew)
                          clear NB hbd2 hpl2 hpl
                          go_wp2
                          refine wp_region_seq [(0, true), (1, true), (2, true), (3, true), (4, true), (5, true), (6, true), (7, true), (8, true), (9, true), (10, true), (11, true), (12, true), (13, true), (14, true), (15, true), (16, true), (17, true), (18, true), (19, true), (20, true), (21, true), (22, true), (23, true), (24, true), (25, true), (26, false), (27, true)] (fun w' => w'.cell? ⟨g8, 0, none⟩ = some (.int .i64 a0) ∧ w'.cell? ⟨g8, 1, none⟩ = some (.int .i64 a1) ∧ w'.cell? ⟨g8, 2, none⟩ = some (.int .i64 a2) ∧ w'.cell? ⟨g8, 3, none⟩ = some (.int .i64 a3) ∧ w'.cell? ⟨g8, 4, none⟩ = some (.int .i64 a4) ∧ w'.cell? ⟨g8, 5, none⟩ = some (.int .i64 a5) ∧ w'.cell? ⟨g8, 6, none⟩ = some (.int .i64 a6) ∧ w'.cell? ⟨g8, 7, none⟩ = some (.int .i64 a7)) (by kernel_rfl) (by kernel_rfl) ⟨DV.out.cell 0, DV.out.cell 1, DV.out.cell 2, DV.out.cell 3, DV.out.cell 4, DV.out.cell 5, DV.out.cell 6, DV.out.cell 7⟩ (fun hHeld => ?_)
                          obtain ⟨z0, z1, z2, z3, z4, z5, z6, z7, z8, z9, z10, z11, z12, z13⟩ := froz14 D2.out
                          obtain ⟨y0, y1, y2, y3, y4, y5, y6, y7, y8, y9, y10, y11, y12, y13⟩ := reads14 D2.out
                          generalize wr.drew = wq at *
                          simp only [List.map_cons, List.map_nil, List.getElem?_toArray, List.getElem?_cons_zero, List.getElem?_cons_succ]
                          repeat (first | (refine seq_skip (by rfl) ?_; try simp only [Act.put, List.setIfInBounds_toArray, List.set_cons_zero, List.set_cons_succ]) | (refine seq_not (by rfl) (by assumption) ?_; try simp only [Act.put, List.setIfInBounds_toArray, List.set_cons_zero, List.set_cons_succ]) | (refine seq_take (v := ?_) (by rfl) ?_ ?_; rotate_left; (focus ((intro w hSw; (try dsimp only at hSw); go_simp; (try with_reducible rfl)); done)); try simp only [Act.put, List.setIfInBounds_toArray, List.set_cons_zero, List.set_cons_succ]))
                          refine seq_do (fun K hK => ?_)
                          go_simp
                          have NX := blk14o DV.out hne (pln 5 [a0, a1, a2, a3, a4, a5, a6, a7])
                          have NY := Lib.hid (blk14 D2.out (pln 5 [a0, a1, a2, a3, a4, a5, a6, a7]))
                          have NZ := Lib.hid (below14 DB.out HSB.out (pln 5 [a0, a1, a2, a3, a4, a5, a6, a7]))
                          refine hK.out _ _ ⟨NX.cell 0, NX.cell 1, NX.cell 2, NX.cell 3, NX.cell 4, NX.cell 5, NX.cell 6, NX.cell 7⟩ (fun hHeld => ?_)
                          clear hK K NX
                          repeat (first | (refine seq_skip (by rfl) ?_; try simp only [Act.put, List.setIfInBounds_toArray, List.set_cons_zero, List.set_cons_succ]) | (refine seq_not (by rfl) (by assumption) ?_; try simp only [Act.put, List.setIfInBounds_toArray, List.set_cons_zero, List.set_cons_succ]) | (refine seq_take (v := ?_) (by rfl) ?_ ?_; rotate_left; (focus ((intro w hSw; (try dsimp only at hSw); go_simp; (try with_reducible rfl)); done)); try simp only [Act.put, List.setIfInBounds_toArray, List.set_cons_zero, List.set_cons_succ]))
                          refine seq_done ?_
                          clear hHeld
                          go_wp2
                          refine ret11 _ _ _ b2 (pln 5 [a0, a1, a2, a3, a4, a5, a6, a7]) 0 rfl rfl rfl ?_ ?_
                          · exact NY.out
                          · exact ⟨by rw [HEND.out.1, HEND.out.2], NZ.out⟩
                        · obtain rfl : x = 6 := hxk
                          have hb1 := hbd2 1 ⟨2, 0, 65535⟩ rfl
                          have hb3 := hbd2 3 ⟨2, 0, 65535⟩ rfl
                          obtain ⟨a0, a1, a2, a3, a4, a5, rfl⟩ := list6 (l := ps) hpl2
                          have hw1 : IntKind.u16.wrap a1 = a1 := by
                            have h1 : 0 ≤ a1 ∧ a1 ≤ 65535 := hb1
                            rw [a_u16]; omega
                          have hw3 : IntKind.u16.wrap a3 = a3 := by
                            have h1 : 0 ≤ a3 ∧ a3 ≤ 65535 := hb3
                            rw [a_u16]; omega
                          clear hb1 hb3
                          have NV := Lib.hid (show Blk wr g8 3 #[.int .i64 a0, .int .i64 a1, .int .i64 a2, .int .i64 a3, .int .i64 a4, .int .i64 a5, .int .i64 0, .int .i64 0] from NB.out)
                          have DV := Lib.hid (show Blk wr.drew g8 3 #[.int .i64 a0, .int .i64 a1, .int .i64 a2, .int .i64 a3, .int .i64 a4, .int .i64 a5, .int .i64 0, .int .i64 0] from NB.out.drew)
                          clear NB hbd2 hpl2 hpl
                          go_wp2
                          refine wp_region_seq [(0, true), (1, true), (2, true), (3, true), (4, true), (5, true), (6, true), (7, true), (8, true), (9, true), (10, true), (11, true), (12, true), (13, true), (14, true), (15, true), (16, true), (17, true), (18, true), (19, true), (20, true), (21, false), (22, true)] (fun w' => w'.cell? ⟨g8, 0, none⟩ = some (.int .i64 a0) ∧ w'.cell? ⟨g8, 1, none⟩ = some (.int .i64 a1) ∧ w'.cell? ⟨g8, 2, none⟩ = some (.int .i64 a2) ∧ w'.cell? ⟨g8, 3, none⟩ = some (.int .i64 a3) ∧ w'.cell? ⟨g8, 4, none⟩ = some (.int .i64 a4) ∧ w'.cell? ⟨g8, 5, none⟩ = some (.int .i64 a5)) (by kernel_rfl) (by kernel_rfl) ⟨DV.out.cell 0, DV.out.cell 1, DV.out.cell 2, DV.out.cell 3, DV.out.cell 4, DV.out.cell 5⟩ (fun hHeld => ?_)
                          obtain ⟨z0, z1, z2, z3, z4, z5, z6, z7, z8, z9, z10, z11, z12, z13⟩ := froz14 D2.out
                          obtain ⟨y0, y1, y2, y3, y4, y5, y6, y7, y8, y9, y10, y11, y12, y13⟩ := reads14 D2.out
                          generalize wr.drew = wq at *
                          simp only [List.map_cons, List.map_nil, List.getElem?_toArray, List.getElem?_cons_zero, List.getElem?_cons_succ]
                          repeat (first | (refine seq_skip (by rfl) ?_; try simp only [Act.put, List.setIfInBounds_toArray, List.set_cons_zero, List.set_cons_succ]) | (refine seq_not (by rfl) (by assumption) ?_; try simp only [Act.put, List.setIfInBounds_toArray, List.set_cons_zero, List.set_cons_succ]) | (refine seq_take (v := ?_) (by rfl) ?_ ?_; rotate_left; (focus ((intro w hSw; (try dsimp only at hSw); go_simp; (try with_reducible rfl)); done)); try simp only [Act.put, List.setIfInBounds_toArray, List.set_cons_zero, List.set_cons_succ]))
                          refine seq_do (fun K hK => ?_)
                          go_simp
                          have NX := blk14o DV.out hne (pln 6 [a0, a1, a2, a3, a4, a5])
                          have NY := Lib.hid (blk14 D2.out (pln 6 [a0, a1, a2, a3, a4, a5]))
                          have NZ := Lib.hid (below14 DB.out HSB.out (pln 6 [a0, a1, a2, a3, a4, a5]))
                          refine hK.out _ _ ⟨NX.cell 0, NX.cell 1, NX.cell 2, NX.cell 3, NX.cell 4, NX.cell 5⟩ (fun hHeld => ?_)
                          clear hK K NX
                          repeat (first | (refine seq_skip (by rfl) ?_; try simp only [Act.put, List.setIfInBounds_toArray, List.set_cons_zero, List.set_cons_succ]) | (refine seq_not (by rfl) (by assumption) ?_; try simp only [Act.put, List.setIfInBounds_toArray, List.set_cons_zero, List.set_cons_succ]) | (refine seq_take (v := ?_) (by rfl) ?_ ?_; rotate_left; (focus ((intro w hSw; (try dsimp only at hSw); go_simp; (try with_reducible rfl)); done)); try simp only [Act.put, List.setIfInBounds_toArray, List.set_cons_zero, List.set_cons_succ]))
                          refine seq_done ?_
                          clear hHeld
                          go_wp2
                          refine ret11 _ _ _ b2 (pln 6 [a0, a1, a2, a3, a4, a5]) 0 rfl rfl rfl ?_ ?_
                          · exact NY.out
                          · exact ⟨by rw [HEND.out.1, HEND.out.2], NZ.out⟩
          · have q6 : (goes 65535 l != 0) = true := bne_iff_ne.mpr hg
            have HD := Lib.hid (de_4 h64 h0 hk ht hg)
            generalize goes 65535 l = SU at CS q6
            clear hk ht hfs htt htl hg
            obtain ⟨z0, z1, z2, z3, z4, z5, z6, z7, z8, z9, z10, z11, z12, z13⟩ := froz14 K2.out
            obtain ⟨y0, y1, y2, y3, y4, y5, y6, y7, y8, y9, y10, y11, y12, y13⟩ := reads14 K2.out
            go_wp2_with (go_at_call 16; (with_reducible refine Calls.mono (CS.out _ HAr.out) ?_); rintro e w6 ⟨rfl, rfl⟩)
            refine ret11 _ _ _ b2 pl0 4 rfl rfl rfl ?_ ?_
            · exact blk14 K2.out pl0
            · exact ⟨by rw [← HRP.out, ← HDE.out, HD.out.1, HD.out.2], below14 KB.out HSB.out pl0⟩
        · have q5 : (3 + total fs != (l.length : Int)) = true := by rw [bne_iff_ne]; omega
          have HD := Lib.hid (de_3 h64 (.inr ht))
          clear hk ht hfs htt htl
          obtain ⟨z0, z1, z2, z3, z4, z5, z6, z7, z8, z9, z10, z11, z12, z13⟩ := froz14 K2.out
          obtain ⟨y0, y1, y2, y3, y4, y5, y6, y7, y8, y9, y10, y11, y12, y13⟩ := reads14 K2.out
          go_wp2
          refine ret11 _ _ _ b2 pl0 3 rfl rfl rfl ?_ ?_
          · exact blk14 K2.out pl0
          · exact ⟨by rw [← HRP.out, ← HDE.out, HD.out.1, HD.out.2], below14 KB.out HSB.out pl0⟩
      · have hfs : fs = [] := by have := HFS.out; rw [if_neg hk] at this; exact this.symm
        have ht0 : total fs = 0 := by rw [hfs]; rfl
        have q4 : (3 + total fs == 3) = true := by rw [ht0]; rfl
        have HD := Lib.hid (de_3 h64 (.inl hk))
        have hl0 : fs.length = 0 := by rw [hfs]; rfl
        clear hk hfs ht0 hl0
        obtain ⟨z0, z1, z2, z3, z4, z5, z6, z7, z8, z9, z10, z11, z12, z13⟩ := froz14 K2.out
        obtain ⟨y0, y1, y2, y3, y4, y5, y6, y7, y8, y9, y10, y11, y12, y13⟩ := reads14 K2.out
        go_wp2
        refine ret11 _ _ _ b2 pl0 3 rfl rfl rfl ?_ ?_
        · exact blk14 K2.out pl0
        · exact ⟨by rw [← HRP.out, ← HDE.out, HD.out.1, HD.out.2], below14 KB.out HSB.out pl0⟩
end Go.Proofs.Ytjkngcpmcmffmaa.Rx
