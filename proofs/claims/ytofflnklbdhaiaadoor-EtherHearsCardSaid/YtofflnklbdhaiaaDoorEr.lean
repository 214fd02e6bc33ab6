/- What one node hears: ear. -/
import Derived.Test.YtofflnklbdhaiaaDoorLk
import Derived.Test.YtofflnklbdhaiaaDoorTz
import Derived.Test.YtofflnklbdhaiaaDoorEa
import Derived.Test.YtofflnklbdhaiaaDoorHm
namespace Go.Proofs.YtofflnklbdhaiaaDoor.Er
open Go.RowKit Go.Shelf Go.Proofs.YtofflnklbdhaiaaDoor.Bk Go.Proofs.YtofflnklbdhaiaaDoor.Rw Go.Proofs.YtofflnklbdhaiaaDoor.Ow Go.Proofs.YtofflnklbdhaiaaDoor.Kp Go.Proofs.YtofflnklbdhaiaaDoor.Bl Go.Proofs.YtofflnklbdhaiaaDoor.Tz Go.Proofs.YtofflnklbdhaiaaDoor.Lk
theorem has_ok (x i : Nat) (hi : i < 64) (hx : x < 2 ^ 64) (w : World) : Calls Tryd.prog 23 #[.int .u64 x, .int .i64 i] w fun e w' => e = .returned (.bool (x.testBit i)) ∧ w = w' := by
  have hb := bit_is x i hx
  have j2 : ¬ ((i : Int) < 0) := by omega
  have j3 : (i : Int) < 64 := by omega
  cases h : x.testBit i with
  | true =>
    rw [h] at hb
    clear h
    go_enter Tryd.func23, Tryd.ntmps23
    go_wp2
    go_ret
    exact ⟨rfl, rfl⟩
  | false =>
    rw [h] at hb
    clear h
    go_enter Tryd.func23, Tryd.ntmps23
    go_wp2
    go_ret
    exact ⟨rfl, rfl⟩
/-- From whom it would hear. -/
def frm (near : Nat) : Int := if near &&& (near - 1) = 0 then ((Lib.ctz 64 near : Nat) : Int) else -1
def earf (send awake : Nat) (lost : List Int) (i near : Nat) : Int × Int :=
  if near = 0 then (-1, 0) else if send.testBit i then (frm near, 2) else if awake.testBit i then
    (if frm near < 0 then (frm near, 4) else if i < lost.length ∧ (lost.getD i 0).toNat.testBit (frm near).toNat = true then (frm near, 5) else (frm near, 1)) else (frm near, 3)
theorem ret_ear (Q : Ending → World → Prop) (a : Act) (W : World) (b : Nat) (f y : Int) (h6 : a.tmps.getD 6 undef = .pointer (some ⟨b, 0, none⟩)) (hd : a.defers = [])
    (hb : Blk W b 35 #[.int .i64 f, .int .i64 y]) (hq : Q (.returned (.agg #[.int .i64 f, .int .i64 y])) W) : bodyPost Tryd.prog Tryd.f17 Q .ret a W := by
  have q0 : W.cell? ⟨b, 0, none⟩ = some (.int .i64 f) := hb.cell 0
  have q1 : W.cell? ⟨b, 1, none⟩ = some (.int .i64 y) := hb.cell 1
  obtain ⟨tmps, defers⟩ := a
  simp only at h6 hd
  subst hd
  refine bodyPost_ret (v := .agg #[.int .i64 f, .int .i64 y]) ?_ rfl hq
  rw [Array.getD_eq_getD_getElem?] at h6
  simp [results, Tryd.results17, go_sem, h6, q0, q1]
theorem two_blk (w : World) (o : Obj) (cs : Array Value) (t : TypeId) : Blk ((w.alloc o).alloc (.cells cs t)) (w.heap.size + 1) t cs := by
  have h := Blk.new (w.alloc o) t cs
  rw [World.size_alloc] at h
  exact h
theorem two_below (w : World) (o o' : Obj) : Below w.heap.size w ((w.alloc o).alloc o') := ((Below.refl _ w).alloc (Nat.le_refl _) o).alloc (by simp) o'
set_option maxRecDepth 100000 in
set_option maxHeartbeats 4000000 in
theorem ear_ok (send awake : Nat) (lost : List Int) (i near : Nat) (A : Option Addr) (c : Nat) (w : World) (hs : send < 2 ^ 64) (ha : awake < 2 ^ 64) (hn : near < 2 ^ 64) (hi : i < 64) (hl : Ri .u64 w A lost) (hlo : ∀ x ∈ lost, 0 ≤ x ∧ x < 2 ^ 64) (hT : Tab w) :
    Calls Tryd.prog 17 #[.agg #[.int .u64 send, .int .u64 awake, .slice A lost.length c], .int .i64 i, .int .u64 near] w fun e w' => e = .returned (.agg #[.int .i64 (earf send awake lost i near).1, .int .i64 (earf send awake lost i near).2]) ∧ Below w.heap.size w w' := by
  by_cases h0 : near = 0
  · subst h0
    go_enter Tryd.func17, Tryd.ntmps17
    go_wp2
    exact ret_ear _ _ _ (w.heap.size + 1) (-1) 0 rfl rfl (two_blk _ _ _ _) ⟨rfl, two_below _ _ _⟩
  have z1 : ((near : Int) == 0) = false := by simpa using h0
  have z2 : ¬ ((near : Int) = 0) := by omega
  have hb := two_below w (.cells #[.int .u64 send, .int .u64 awake, .slice A lost.length c] 56) (.cells #[.int .i64 0, .int .i64 0] 35)
  have hT1 : Tab ((w.alloc (.cells #[.int .u64 send, .int .u64 awake, .slice A lost.length c] 56)).alloc (.cells #[.int .i64 0, .int .i64 0] 35)) := hT.below hb hT.1
  have hl1 : Ri .u64 ((w.alloc (.cells #[.int .u64 send, .int .u64 awake, .slice A lost.length c] 56)).alloc (.cells #[.int .i64 0, .int .i64 0] 35)) A lost := hl.below hb
  have hba := (Blk.new w 56 #[.int .u64 send, .int .u64 awake, .slice A lost.length c]).alloc (.cells #[.int .i64 0, .int .i64 0] 35)
  have c0 := hba.cell 0
  have c1 := hba.cell 1
  have c2 := hba.cell 2
  have CT := Lib.hid (tz_ok near hn h0 _ hT1)
  have CS := Lib.hid (has_ok send i hi hs)
  have CW := Lib.hid (has_ok awake i hi ha)
  have hw1 : IntKind.u64.wrap ((near : Int) - 1) = ((near - 1 : Nat) : Int) := by rw [IntKind.wrap_u64]; omega
  have hw2 : bits BinOp.and IntKind.u64 (near : Int) ((near - 1 : Nat) : Int) = ((near &&& (near - 1) : Nat) : Int) := bits_and_u64_nat near _ hn (by omega)
  have hE : earf send awake lost i near = if send.testBit i then (frm near, 2) else if awake.testBit i then
    (if frm near < 0 then (frm near, 4) else if i < lost.length ∧ (lost.getD i 0).toNat.testBit (frm near).toNat = true then (frm near, 5) else (frm near, 1)) else (frm near, 3) := by unfold earf; rw [if_neg h0]
  have HL := Lib.hid hl1
  clear hb hT1 hl1 hba
  by_cases hone : near &&& (near - 1) = 0
  · have hf : frm near = ((Lib.ctz 64 near : Nat) : Int) := if_pos hone
    have hlt : Lib.ctz 64 near < 64 := (bl_next h0 hn).2.1
    rw [hone] at hw2
    rw [hf] at hE
    generalize hk : Lib.ctz 64 near = k at hE hlt CT
    have k1 : ¬ ((k : Int) < 0) := by omega
    rw [if_neg k1] at hE
    cases hsb : send.testBit i with
    | true =>
      rw [hsb] at CS hE
      rw [hE]
      clear hE hsb hk hone hf
      go_enter Tryd.func17, Tryd.ntmps17
      go_wp2_with (first
        | (go_at_call 22; (with_reducible refine Calls.mono CT.out ?_); rintro e w1 ⟨rfl, rfl⟩)
        | (go_at_call 23; (with_reducible refine Calls.mono (CS.out _) ?_); rintro e w1 ⟨rfl, rfl⟩)
        | (go_at_call 23; (with_reducible refine Calls.mono (CW.out _) ?_); rintro e w1 ⟨rfl, rfl⟩)
        | (go_at_call 23; (with_reducible refine Calls.mono (CX.out _) ?_); rintro e w1 ⟨rfl, rfl⟩))
      exact ret_ear _ _ _ (w.heap.size + 1) k 2 rfl rfl (two_blk _ _ _ _) ⟨rfl, two_below _ _ _⟩
    | false =>
      rw [hsb] at CS hE
      cases hab : awake.testBit i with
      | false =>
        rw [hab] at CW hE
        rw [hE]
        clear hE hsb hab hk hone hf
        go_enter Tryd.func17, Tryd.ntmps17
        go_wp2_with (first
          | (go_at_call 22; (with_reducible refine Calls.mono CT.out ?_); rintro e w1 ⟨rfl, rfl⟩)
          | (go_at_call 23; (with_reducible refine Calls.mono (CS.out _) ?_); rintro e w1 ⟨rfl, rfl⟩)
          | (go_at_call 23; (with_reducible refine Calls.mono (CW.out _) ?_); rintro e w1 ⟨rfl, rfl⟩)
          | (go_at_call 23; (with_reducible refine Calls.mono (CX.out _) ?_); rintro e w1 ⟨rfl, rfl⟩))
        exact ret_ear _ _ _ (w.heap.size + 1) k 3 rfl rfl (two_blk _ _ _ _) ⟨rfl, two_below _ _ _⟩
      | true =>
        rw [hab] at CW hE
        by_cases hil : i < lost.length
        · obtain ⟨ad, rfl, hadl, hcell⟩ := HL.out.at_ hil
          have hx := hlo _ (show lost.getD i 0 ∈ lost by rw [List.getD_eq_getElem?_getD, List.getElem?_eq_getElem hil]; exact List.getElem_mem hil)
          obtain ⟨x, hxx⟩ : ∃ x : Nat, lost.getD i 0 = x := ⟨(lost.getD i 0).toNat, by omega⟩
          rw [hxx] at hcell hE hx
          rw [Int.toNat_natCast, Int.toNat_natCast] at hE
          have CX := Lib.hid (has_ok x k hlt (by omega))
          have n1 : (i : Int) < (lost.length : Int) := by omega
          cases hxb : x.testBit k with
          | true =>
            rw [hxb] at CX
            rw [hE, if_neg (by decide), if_pos rfl, if_pos ⟨hil, hxb⟩]
            clear hE hsb hab hk hone hf hxb hx hxx
            go_enter Tryd.func17, Tryd.ntmps17
            go_wp2_with (first
              | (go_at_call 22; (with_reducible refine Calls.mono CT.out ?_); rintro e w1 ⟨rfl, rfl⟩)
              | (go_at_call 23; (with_reducible refine Calls.mono (CS.out _) ?_); rintro e w1 ⟨rfl, rfl⟩)
              | (go_at_call 23; (with_reducible refine Calls.mono (CW.out _) ?_); rintro e w1 ⟨rfl, rfl⟩)
              | (go_at_call 23; (with_reducible refine Calls.mono (CX.out _) ?_); rintro e w1 ⟨rfl, rfl⟩))
            exact ret_ear _ _ _ (w.heap.size + 1) k 5 rfl rfl (two_blk _ _ _ _) ⟨rfl, two_below _ _ _⟩
          | false =>
            rw [hxb] at CX
            rw [hE, if_neg (by decide), if_pos rfl, if_neg (by rw [hxb]; rintro ⟨_, h⟩; cases h)]
            clear hE hsb hab hk hone hf hxb hx hxx
            go_enter Tryd.func17, Tryd.ntmps17
            go_wp2_with (first
              | (go_at_call 22; (with_reducible refine Calls.mono CT.out ?_); rintro e w1 ⟨rfl, rfl⟩)
              | (go_at_call 23; (with_reducible refine Calls.mono (CS.out _) ?_); rintro e w1 ⟨rfl, rfl⟩)
              | (go_at_call 23; (with_reducible refine Calls.mono (CW.out _) ?_); rintro e w1 ⟨rfl, rfl⟩)
              | (go_at_call 23; (with_reducible refine Calls.mono (CX.out _) ?_); rintro e w1 ⟨rfl, rfl⟩))
            exact ret_ear _ _ _ (w.heap.size + 1) k 1 rfl rfl (two_blk _ _ _ _) ⟨rfl, two_below _ _ _⟩
        · have n1 : ¬ (i : Int) < (lost.length : Int) := by omega
          have CX := CW
          rw [hE, if_neg (by decide), if_pos rfl, if_neg (by rintro ⟨h, _⟩; exact hil h)]
          clear hE hsb hab hk hone hf
          go_enter Tryd.func17, Tryd.ntmps17
          go_wp2_with (first
            | (go_at_call 22; (with_reducible refine Calls.mono CT.out ?_); rintro e w1 ⟨rfl, rfl⟩)
            | (go_at_call 23; (with_reducible refine Calls.mono (CS.out _) ?_); rintro e w1 ⟨rfl, rfl⟩)
            | (go_at_call 23; (with_reducible refine Calls.mono (CW.out _) ?_); rintro e w1 ⟨rfl, rfl⟩)
            | (go_at_call 23; (with_reducible refine Calls.mono (CX.out _) ?_); rintro e w1 ⟨rfl, rfl⟩))
          exact ret_ear _ _ _ (w.heap.size + 1) k 1 rfl rfl (two_blk _ _ _ _) ⟨rfl, two_below _ _ _⟩
  · have hf : frm near = -1 := if_neg hone
    have y1 : (((near &&& (near - 1) : Nat) : Int) == 0) = false := by simpa using hone
    have y2 : ¬ (((near &&& (near - 1) : Nat) : Int) = 0) := by omega
    generalize near &&& (near - 1) = q at hw2 y1 y2
    rw [hf, if_pos (show (-1 : Int) < 0 by decide)] at hE
    have CX := CW
    cases hsb : send.testBit i with
    | true =>
      rw [hsb] at CS hE
      rw [hE]
      clear hE hsb hone hf
      go_enter Tryd.func17, Tryd.ntmps17
      go_wp2_with (first
        | (go_at_call 22; (with_reducible refine Calls.mono CT.out ?_); rintro e w1 ⟨rfl, rfl⟩)
        | (go_at_call 23; (with_reducible refine Calls.mono (CS.out _) ?_); rintro e w1 ⟨rfl, rfl⟩)
        | (go_at_call 23; (with_reducible refine Calls.mono (CW.out _) ?_); rintro e w1 ⟨rfl, rfl⟩)
        | (go_at_call 23; (with_reducible refine Calls.mono (CX.out _) ?_); rintro e w1 ⟨rfl, rfl⟩))
      exact ret_ear _ _ _ (w.heap.size + 1) (-1) 2 rfl rfl (two_blk _ _ _ _) ⟨rfl, two_below _ _ _⟩
    | false =>
      rw [hsb] at CS hE
      cases hab : awake.testBit i with
      | false =>
        rw [hab] at CW hE
        rw [hE]
        clear hE hsb hab hone hf
        go_enter Tryd.func17, Tryd.ntmps17
        go_wp2_with (first
          | (go_at_call 22; (with_reducible refine Calls.mono CT.out ?_); rintro e w1 ⟨rfl, rfl⟩)
          | (go_at_call 23; (with_reducible refine Calls.mono (CS.out _) ?_); rintro e w1 ⟨rfl, rfl⟩)
          | (go_at_call 23; (with_reducible refine Calls.mono (CW.out _) ?_); rintro e w1 ⟨rfl, rfl⟩)
          | (go_at_call 23; (with_reducible refine Calls.mono (CX.out _) ?_); rintro e w1 ⟨rfl, rfl⟩))
        exact ret_ear _ _ _ (w.heap.size + 1) (-1) 3 rfl rfl (two_blk _ _ _ _) ⟨rfl, two_below _ _ _⟩
      | true =>
        rw [hab] at CW hE
        rw [hE]
        clear hE hsb hab hone hf
        go_enter Tryd.func17, Tryd.ntmps17
        go_wp2_with (first
          | (go_at_call 22; (with_reducible refine Calls.mono CT.out ?_); rintro e w1 ⟨rfl, rfl⟩)
          | (go_at_call 23; (with_reducible refine Calls.mono (CS.out _) ?_); rintro e w1 ⟨rfl, rfl⟩)
          | (go_at_call 23; (with_reducible refine Calls.mono (CW.out _) ?_); rintro e w1 ⟨rfl, rfl⟩)
          | (go_at_call 23; (with_reducible refine Calls.mono (CX.out _) ?_); rintro e w1 ⟨rfl, rfl⟩))
        exact ret_ear _ _ _ (w.heap.size + 1) (-1) 4 rfl rfl (two_blk _ _ _ _) ⟨rfl, two_below _ _ _⟩
end Go.Proofs.YtofflnklbdhaiaaDoor.Er
