/- Clear, and what the nil log answers. -/
import Derived.Test.YtlaolclepmbdjaaRt
import Derived.Lib.SliceRun
namespace Go.Proofs.Ytlaolclepmbdjaa.Cl
open Go.RowKit Go.Proofs.Ytlaolclepmbdjaa.Bk Go.Proofs.Ytlaolclepmbdjaa.Rw Go.Proofs.Ytlaolclepmbdjaa.Ow Go.Proofs.Ytlaolclepmbdjaa.Kp Go.Proofs.Ytlaolclepmbdjaa.Ck Go.Proofs.Ytlaolclepmbdjaa.Ck2 Go.Proofs.Ytlaolclepmbdjaa.Evr Go.Proofs.Ytlaolclepmbdjaa.Evt Go.Proofs.Ytlaolclepmbdjaa.Label

theorem blk_setCells {g : Nat} {t : TypeId} : ∀ (vs : List Value) (o : Nat) (w : World) (cs : Array Value), Blk w g t cs → ∃ cs', cs'.size = cs.size ∧ Blk (w.setCells g o vs) g t cs' ∧ Kp (· = g) w (w.setCells g o vs)
  | [], _, w, cs, h => ⟨cs, rfl, h, Kp.refl _ _⟩
  | v :: vs, o, w, cs, h => by
    obtain ⟨cs', h1, h2, h3⟩ := blk_setCells vs (o + 1) _ _ (h.set_ o v)
    exact ⟨cs', by simpa using h1, h2, ((Kp.refl (· = g) w).set_ ⟨g, o, none⟩ (.inl rfl) v).trans h3⟩
/-- clear(v) of a block that is whole. -/
theorem wp_clear8 {P : Program} {ops : Array Oper} {rest : List Oper} {o : Oper} {a : Act} {Q : Exit → Act → World → Prop} (e : TypeId) (z : Value) (zc : Array Value) (w : World) (hgd : o.guard = none) (s : Operand) (t : TypeId)
    (ho : o.op = .call { callee := .builtin .clear, args := #[s], argTypes := #[t] }) (hd : o.dst = none)
    (ht : P.underlying t = some (.slice e)) (hv : ∀ w, (zeroValue e).run P w = .ok z w) (hz : z.cells = zc) (g n : Nat) (cs : Array Value) (hs : a.eval s = .slice (some ⟨g, 0, none⟩) n n) (hn : 0 < n) (hcs : (Builtin.zeroCells zc n).toList.length = cs.size) (h1 : ∀ v ∈ (Builtin.zeroCells zc n).toList, v.oneCell' = true) (hb : Blk w g e cs)
    (h : ∀ w' cs', cs'.size = cs.size → Blk w' g e cs' → Kp (· = g) w w' → wpList P ops Q rest a w') : wpList P ops Q (o :: rest) a w := by
  obtain ⟨cs', h2, h3, h4⟩ := blk_setCells (Builtin.zeroCells zc n).toList 0 w cs hb
  have hst := run_storeCells_cells (P := P) g 0 (Builtin.zeroCells zc n).toList 0 w (fun j hj => by
    have := hb.cell (0 + 0 + j)
    rw [this, Array.getElem?_eq_getElem (by omega)]
    rfl) (fun j hj => hb.frozen _) h1
  simp only [Nat.add_zero] at hst
  have hrun : (Builtin.clear_ #[t] o.type #[.slice (some ⟨g, 0, none⟩) n n]).run P w = .ok (.tuple #[]) (w.setCells g 0 (Builtin.zeroCells zc n).toList) := by
    obtain ⟨m, rfl⟩ : ∃ m, n = m + 1 := ⟨n - 1, by omega⟩
    simp [Builtin.clear_, run_underlying ht, hv, hz, hst]
  refine wpList_plain hgd fun K hK => ?_
  unfold Oper.wp execOp
  simp only [ho, resolve, invoke, builtin, Sem.run_bind, Sem.run_pure, Result.andThen_ok, List.map_toArray, List.map_cons, List.map_nil, hs, hrun]
  have := hK _ _ (h _ _ h2 h3 h4)
  show K (a.put o.dst (.tuple #[])) _
  rw [hd]
  exact this
theorem zero37 (w : World) : (zeroValue 37).run Try.prog w = .ok ev0.v w := rfl
theorem zeros_len (n : Nat) : (Builtin.zeroCells ev0.cs.toArray n).toList.length = n * 8 := by
  simp [Builtin.zeroCells, Ev.cs]
theorem ev0_one : ∀ u ∈ ev0.cs, u.oneCell' = true := by
  intro u hu
  simp only [Ev.cs, ev0, List.mem_cons, List.not_mem_nil, or_false] at hu
  rcases hu with rfl | rfl | rfl | rfl | rfl | rfl | rfl | rfl <;> rfl
theorem zeros_one (n : Nat) : ∀ v ∈ (Builtin.zeroCells ev0.cs.toArray n).toList, v.oneCell' = true := by
  intro v hv
  simp only [Builtin.zeroCells, Array.toList_map, List.mem_map] at hv
  obtain ⟨i, _, rfl⟩ := hv
  refine ev0_one _ ?_
  have hlt : i % ev0.cs.toArray.size < ev0.cs.length := Nat.mod_lt _ (by decide)
  rw [getElem!_pos _ _ (by simpa using hlt)]
  simp
set_option maxRecDepth 100000 in
theorem rclear_ok (p g room : Nat) (q : List Ev) (w : World) (h : Rg w p g room q) (h0 : 1 ≤ room) :
    Calls Try.prog 21 #[.pointer (some ⟨p, 0, none⟩)] w fun e w' => e = .returned (.tuple #[]) ∧ Rg w' p g room [] ∧ Kp (fun k => k = p ∨ k = g) w w' := by
  obtain ⟨f, cs, hcs, hb, hg, hne, hf, hle, hcell⟩ := h
  have c0 : w.cell? ⟨p, 0, none⟩ = some (.slice (some ⟨g, 0, none⟩) room room) := hb.cell 0
  have HB := Lib.hid hb
  have HG := Lib.hid hg
  have HCS := Lib.hid hcs
  clear hb hg hcs hcell
  go_enter Try.func21, Try.ntmps21
  go_wp2_with (with_reducible refine wp_clear8 37 ev0.v ev0.cs.toArray _ rfl _ 27 rfl rfl Try.underlying27 zero37 rfl g room cs rfl (by omega) (by rw [zeros_len, HCS.out]) (zeros_one _) HG.out ?_)
  intro w2 cs2 hcs2 hg2 hk
  have hb2 := blk_kp HB.out hk hne
  have c1 : w2.cell? ⟨p, 1, none⟩ = some (.int .i64 f) := hb2.cell 1
  have c2 : w2.cell? ⟨p, 2, none⟩ = some (.int .i64 q.length) := hb2.cell 2
  have f1 := hb2.frozen 1
  have f2 := hb2.frozen 2
  have HB2 := Lib.hid hb2
  have HG2 := Lib.hid hg2
  have HK := Lib.hid hk
  have HC2 := Lib.hid (hcs2.trans HCS.out)
  clear hb2 hg2 hk hcs2
  go_wp2
  go_end0
  refine ⟨rfl, ⟨0, cs2, HC2.out, ?_, ?_, hne, by omega, Nat.zero_le _, fun k u h => by simp at h⟩, ?_⟩
  · exact (HB2.out.set_ 1 (.int .i64 0)).set_ 2 (.int .i64 0)
  · exact (HG2.out.far (p := ⟨p, 1, none⟩) (fun e => hne e.symm) _).far (p := ⟨p, 2, none⟩) (fun e => hne e.symm) _
  · exact ((HK.out.mono (fun k _ h => .inr h)).set_ ⟨p, 1, none⟩ (.inl (.inl rfl)) _).set_ ⟨p, 2, none⟩ (.inl (.inl rfl)) _
theorem lclear_ok (l p g n : Nat) (q : List Ev) (w : World) (h : Lg w l p g q n) :
    Calls Try.prog 13 #[.pointer (some ⟨l, 0, none⟩)] w fun e w' => e = .returned (.tuple #[]) ∧ Lg w' l p g [] 0 ∧ Kp (fun k => k = l ∨ k = p ∨ k = g) w w' := by
  have HL := Lib.hid h
  have c0 := h.box.cell 0
  clear h
  go_enter Try.func13, Try.ntmps13
  go_wp2_with (go_at_call 21; (with_reducible refine Calls.mono (rclear_ok p g 16 q _ HL.out.ring (by decide)) ?_); rintro e w1 ⟨rfl, hr, hk⟩; have HR := Lib.hid hr; have HK := Lib.hid hk; have hb := blk_kp HL.out.box hk (by rintro (h | h); exact HL.out.lp h; exact HL.out.lg h); have f1 := hb.frozen 1; have c1 := hb.cell 1; have HB := Lib.hid hb; clear hr hk hb)
  go_end0
  have hlp := HL.out.lp
  have hlg := HL.out.lg
  refine ⟨rfl, ⟨HB.out.set_ 1 (.int .i64 (0 : Nat)), HR.out.kp (X := fun k => k = l) (kp_set (.inl rfl) (Kp.refl _ _)) (fun h => hlp h.symm) (fun h => hlg h.symm), hlp, hlg⟩, (HK.out.mono (fun k _ h => .inr h)).set_ ⟨l, 1, none⟩ (.inl (.inl rfl)) _⟩
theorem llen_ok (l p g n : Nat) (q : List Ev) (w : World) (h : Lg w l p g q n) :
    Calls Try.prog 12 #[.pointer (some ⟨l, 0, none⟩)] w fun e w' => e = .returned (.int .i64 q.length) ∧ w = w' := by
  have HL := Lib.hid h
  have c0 := h.box.cell 0
  clear h
  go_enter Try.func12, Try.ntmps12
  go_wp2_with (go_at_call 20; (with_reducible refine Calls.mono (len_ok p g 16 q _ HL.out.ring) ?_); rintro e w1 ⟨rfl, rfl⟩)
  go_ret
  exact ⟨rfl, rfl⟩
theorem lclear_nil (w : World) : Calls Try.prog 13 #[.pointer none] w fun e w' => e = .returned (.tuple #[]) ∧ w = w' := by
  go_enter Try.func13, Try.ntmps13
  go_wp2
  go_end0
  exact ⟨rfl, rfl⟩
theorem llen_nil (w : World) : Calls Try.prog 12 #[.pointer none] w fun e w' => e = .returned (.int .i64 0) ∧ w = w' := by
  go_enter Try.func12, Try.ntmps12
  go_wp2
  go_ret
  exact ⟨rfl, rfl⟩
theorem lall_nil (w : World) : Calls Try.prog 22 #[.pointer none] w fun e w' => e = .returned (.func (.func 23) #[] #[]) ∧ w = w' := by
  go_enter Try.func22, Try.ntmps22
  go_wp2
  go_ret
  exact ⟨rfl, rfl⟩
theorem ltag_nil (s : ByteArray) (lo t h r b y : Int) (w : World) : Calls Try.prog 11 #[.pointer none, .string s, .int .i64 lo, .agg #[.int .i64 t, .int .i64 h, .int .i64 r, .int .u16 b, .int .i64 y]] w fun e w' => e = .returned (.tuple #[.int .i64 0, .int .i64 2]) ∧ Below w.heap.size w w' := by
  go_enter Try.func11, Try.ntmps11
  go_wp2
  go_ret2
  exact ⟨rfl, (Below.refl _ _).alloc (Nat.le_refl _) _⟩
theorem ltake_nil (w : World) : Calls Try.prog 10 #[.pointer none] w fun x w' => x = .returned (.tuple #[ev0.v, .bool false]) ∧ Below w.heap.size w w' := by
  have hb : Blk (w.alloc (.cells #[.int .i64 0, .string ⟨#[]⟩, .int .i64 0, .int .i64 0, .int .i64 0, .int .i64 0, .int .u16 0, .int .i64 0] 37)) w.heap.size 37 ev0.cs.toArray := Blk.new w 37 _
  obtain ⟨x0, x1, x2, x3, x4, x5, x6, x7⟩ := reads8 hb
  have HB := Lib.hid hb
  clear hb
  go_enter Try.func10, Try.ntmps10
  go_wp2
  exact ret10 _ _ _ _ ev0 false rfl rfl rfl HB.out ⟨rfl, (Below.refl _ _).alloc (Nat.le_refl _) _⟩
end Go.Proofs.Ytlaolclepmbdjaa.Cl
