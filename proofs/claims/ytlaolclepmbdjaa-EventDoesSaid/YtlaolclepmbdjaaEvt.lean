/- The walks of event's functions. -/
import Derived.Test.YtlaolclepmbdjaaEvr
import Derived.IntWalk
import Derived.Deep.RegionHeld3
namespace Go.Proofs.Ytlaolclepmbdjaa.Evt
open Go.RowKit Go.Proofs.Ytlaolclepmbdjaa.Bk Go.Proofs.Ytlaolclepmbdjaa.Rw Go.Proofs.Ytlaolclepmbdjaa.Ow Go.Proofs.Ytlaolclepmbdjaa.Kp Go.Proofs.Ytlaolclepmbdjaa.Evr Go.Proofs.Ytlaolclepmbdjaa.Label

/-- A log at block l. -/
structure Lg (w : World) (l p g : Nat) (q : List Ev) (n : Nat) : Prop where
  box : Blk w l 59 #[.pointer (some ⟨p, 0, none⟩), .int .i64 n]
  ring : Rg w p g 16 q
  lp : l ≠ p
  lg : l ≠ g
section
variable {w w' : World} {l p g n : Nat} {q : List Ev}
theorem Lg.kp {X : Nat → Prop} (h : Lg w l p g q n) (hk : Kp X w w') (hl : ¬ X l) (hp : ¬ X p) (hg : ¬ X g) : Lg w' l p g q n :=
  ⟨blk_kp h.box hk hl, h.ring.kp hk hp hg, h.lp, h.lg⟩
theorem Lg.below (h : Lg w l p g q n) (hb : Below w.heap.size w w') : Lg w' l p g q n :=
  ⟨h.box.keeps hb, h.ring.below hb, h.lp, h.lg⟩
end
theorem Lg.drew {w : World} {l p g n : Nat} {q : List Ev} (h : Lg w l p g q n) : Lg w.drew l p g q n := ⟨h.box.drew, h.ring.drewN 1, h.lp, h.lg⟩
theorem below_drew_ {B : Nat} {w w1 : World} (h : Below B w w1) : Below B w w1.drew := ⟨h.os, h.tape, h.output, h.size, h.block⟩
theorem Rg.drew_ {w : World} {p g room : Nat} {q : List Ev} (h : Rg w p g room q) : Rg w.drew p g room q := h
theorem log_new (w : World) :
    Calls Try.prog 9 #[] w fun e w' => ∃ l p g, e = .returned (.pointer (some ⟨l, 0, none⟩)) ∧ Lg w' l p g [] 0 ∧ w.heap.size ≤ l ∧ w.heap.size ≤ p ∧ w.heap.size ≤ g ∧ Below w.heap.size w w' := by
  go_enter Try.func9, Try.ntmps9
  go_wp2_with (go_at_call 17; with_reducible refine Calls.mono (new_ok _) ?_; rintro e w1 ⟨p, g, rfl, hr, hp, hg, hb⟩)
  go_ret
  have h := hr.lt
  exact ⟨_, p, g, rfl, ⟨Blk.new _ _ _, hr.below ((Below.refl _ w1).alloc (Nat.le_refl _) _), by omega, by omega⟩, hb.size, hp, hg, hb.alloc hb.size _⟩
theorem ret10 (Q : Ending → World → Prop) (a : Act) (W : World) (b : Nat) (e : Ev) (ok : Bool) (h2 : a.tmps.getD 2 undef = .pointer (some ⟨b, 0, none⟩)) (h3 : a.tmps.getD 3 undef = .bool ok) (hd : a.defers = [])
    (hb : Blk W b 37 e.cs.toArray) (hq : Q (.returned (.tuple #[e.v, .bool ok])) W) : bodyPost Try.prog Try.f10 Q .ret a W := by
  obtain ⟨q0, q1, q2, q3, q4, q5, q6, q7⟩ := reads8 hb
  obtain ⟨tmps, defers⟩ := a
  simp only at h2 h3 hd
  subst hd
  rw [Array.getD_eq_getD_getElem?] at h2 h3
  refine bodyPost_ret (v := .tuple #[e.v, .bool ok]) ?_ rfl hq
  simp [results, Try.results10, go_sem, h2, h3, q0, q1, q2, q3, q4, q5, q6, q7, Ev.v]
theorem take_any (l p : Nat) (e : Ev) (ok : Bool) (S : Nat → Prop) (R : World → Prop) (w : World) (c0 : (w.alloc (.cells #[.int .i64 0, .string ⟨#[]⟩, .int .i64 0, .int .i64 0, .int .i64 0, .int .i64 0, .int .u16 0, .int .i64 0] 37)).cell? ⟨l, 0, none⟩ = some (.pointer (some ⟨p, 0, none⟩))) (hS : ¬ S w.heap.size)
    (hpop : Calls Try.prog 18 #[.pointer (some ⟨p, 0, none⟩)] (w.alloc (.cells #[.int .i64 0, .string ⟨#[]⟩, .int .i64 0, .int .i64 0, .int .i64 0, .int .i64 0, .int .u16 0, .int .i64 0] 37)) fun x w1 => x = .returned (.tuple #[e.v, .bool ok]) ∧ Kp S (w.alloc (.cells #[.int .i64 0, .string ⟨#[]⟩, .int .i64 0, .int .i64 0, .int .i64 0, .int .i64 0, .int .u16 0, .int .i64 0] 37)) w1 ∧ R w1) :
    Calls Try.prog 10 #[.pointer (some ⟨l, 0, none⟩)] w fun x w' => x = .returned (.tuple #[e.v, .bool ok]) ∧ ∃ w1, Kp S (w.alloc (.cells #[.int .i64 0, .string ⟨#[]⟩, .int .i64 0, .int .i64 0, .int .i64 0, .int .i64 0, .int .u16 0, .int .i64 0] 37)) w1 ∧ R w1 ∧ w' = W8 w1 w.heap.size 0 e := by
  have hb : Blk (w.alloc (.cells #[.int .i64 0, .string ⟨#[]⟩, .int .i64 0, .int .i64 0, .int .i64 0, .int .i64 0, .int .u16 0, .int .i64 0] 37)) w.heap.size 37 ev0.cs.toArray := Blk.new w 37 _
  have HP := Lib.hid hpop
  have HB := Lib.hid hb
  clear hpop hb
  go_enter Try.func10, Try.ntmps10
  go_wp2_with (go_at_call 18; with_reducible refine Calls.mono HP.out ?_; rintro e' w1 ⟨rfl, hk, hr⟩; have HK := Lib.hid hk; have HR := Lib.hid hr; have hb := blk_kp HB.out hk hS; obtain ⟨x0, x1, x2, x3, x4, x5, x6, x7⟩ := reads8 hb; have z0 := hb.frozen 0; have z1 := hb.frozen 1; have z2 := hb.frozen 2; have z3 := hb.frozen 3; have z4 := hb.frozen 4; have z5 := hb.frozen 5; have z6 := hb.frozen 6; have z7 := hb.frozen 7; have HB1 := Lib.hid hb; clear hk hr hb; dsimp only [Ev.v])
  exact ret10 _ _ _ _ e ok rfl rfl rfl ((set8_whole ev0 e) ▸ (blk8 HB1.out 0 e)) ⟨rfl, _, HK.out, HR.out, rfl⟩
theorem take_none (l p g n : Nat) (w : World) (hL : Lg w l p g [] n) :
    Calls Try.prog 10 #[.pointer (some ⟨l, 0, none⟩)] w fun x w' => x = .returned (.tuple #[ev0.v, .bool false]) ∧ Below w.heap.size w w' := by
  have h1 : Lg (w.alloc (.cells #[.int .i64 0, .string ⟨#[]⟩, .int .i64 0, .int .i64 0, .int .i64 0, .int .i64 0, .int .u16 0, .int .i64 0] 37)) l p g [] n := hL.below ((Below.refl _ w).alloc (Nat.le_refl _) _)
  refine (take_any l p ev0 false (fun _ => False) (fun w1 => Below (w.alloc (.cells #[.int .i64 0, .string ⟨#[]⟩, .int .i64 0, .int .i64 0, .int .i64 0, .int .i64 0, .int .u16 0, .int .i64 0] 37)).heap.size (w.alloc (.cells #[.int .i64 0, .string ⟨#[]⟩, .int .i64 0, .int .i64 0, .int .i64 0, .int .i64 0, .int .u16 0, .int .i64 0] 37)) w1) w (h1.box.cell 0) (fun h => h) ((pop_none p g 16 _ h1.ring).mono fun x w1 hx => ⟨hx.1, Kp.of_below hx.2, hx.2⟩)).mono ?_
  rintro x w' ⟨rfl, w1, hk, hb, rfl⟩
  refine ⟨rfl, below_kp (((Below.refl _ w).alloc (Nat.le_refl _) _).trans (hb.mono (by simp))) (by have := hb.size; simp at this; omega) (kp8 (Kp.refl (fun k => w.heap.size ≤ k) w1) w.heap.size (.inl (Nat.le_refl _)) 0 ev0) (fun k hk => hk)⟩
theorem take_ok (l p g n : Nat) (e : Ev) (q : List Ev) (w : World) (hL : Lg w l p g (e :: q) n) :
    Calls Try.prog 10 #[.pointer (some ⟨l, 0, none⟩)] w fun x w' => x = .returned (.tuple #[e.v, .bool true]) ∧ Lg w' l p g q n ∧ Kp (fun k => k = p ∨ k = g) w w' := by
  have h1 : Lg (w.alloc (.cells #[.int .i64 0, .string ⟨#[]⟩, .int .i64 0, .int .i64 0, .int .i64 0, .int .i64 0, .int .u16 0, .int .i64 0] 37)) l p g (e :: q) n := hL.below ((Below.refl _ w).alloc (Nat.le_refl _) _)
  have hlt := hL.ring.lt
  have hll := hL.box.lt
  have h2 := hL.lp
  have h3 := hL.lg
  refine (take_any l p e true (fun k => k = p ∨ k = g) (fun w1 => Rg w1 p g 16 q) w (h1.box.cell 0) (fun h => by omega) ((pop_ok p g 16 e q _ h1.ring (by omega)).mono fun x w1 hx => ⟨hx.1, hx.2.2, hx.2.1⟩)).mono ?_
  rintro x w' ⟨rfl, w1, hk, hr, rfl⟩
  have h4 : Kp (fun k => k = p ∨ k = g) w w1 := (((Kp.refl _ w).alloc _).trans hk)
  have h5 := kp8 (Kp.refl (fun k => k = w.heap.size) w1) w.heap.size (.inl rfl) 0 e
  refine ⟨rfl, ⟨blk_kp (blk_kp h1.box hk (fun h => by omega)) h5 (fun h => by omega), hr.kp h5 (fun h => by omega) (fun h => by omega), h2, h3⟩, kp8 h4 w.heap.size (.inr (Nat.le_refl _)) 0 e⟩
theorem cells7 {W : World} {l p g n bx : Nat} {q : List Ev} {t h r b y : Int} (hL : Lg W l p g q n) (hb : Blk W bx 33 #[.int .i64 t, .int .i64 h, .int .i64 r, .int .u16 b, .int .i64 y]) :
    W.cell? ⟨l, 0, none⟩ = some (.pointer (some ⟨p, 0, none⟩)) ∧ W.cell? ⟨l, 1, none⟩ = some (.int .i64 n) ∧ W.cell? ⟨bx, 0, none⟩ = some (.int .i64 t) ∧ W.cell? ⟨bx, 1, none⟩ = some (.int .i64 h) ∧ W.cell? ⟨bx, 2, none⟩ = some (.int .i64 r) ∧ W.cell? ⟨bx, 3, none⟩ = some (.int .u16 b) ∧ W.cell? ⟨bx, 4, none⟩ = some (.int .i64 y) := ⟨hL.box.cell 0, hL.box.cell 1, hb.cell 0, hb.cell 1, hb.cell 2, hb.cell 3, hb.cell 4⟩
theorem tag_bad (l : Nat) (s : ByteArray) (hs : s.size ≤ 140737488355328) (hl : Lab s = false) (lo t h r b y : Int) (w : World) :
    Calls Try.prog 11 #[.pointer (some ⟨l, 0, none⟩), .string s, .int .i64 lo, .agg #[.int .i64 t, .int .i64 h, .int .i64 r, .int .u16 b, .int .i64 y]] w fun x w' => x = .returned (.tuple #[.int .i64 0, .int .i64 1]) ∧ Below w.heap.size w w' := by
  have HW := Lib.hid ((Below.refl _ w).alloc (Nat.le_refl _) (.cells #[.int .i64 t, .int .i64 h, .int .i64 r, .int .u16 b, .int .i64 y] 33))
  go_enter Try.func11, Try.ntmps11
  go_wp2_with (go_at_call 7; with_reducible refine Calls.mono (good_ok s _ hs) ?_; rintro e w1 ⟨rfl, hb⟩)
  go_ret2
  exact ⟨rfl, HW.out.trans (hb.mono HW.out.size)⟩
set_option maxHeartbeats 1600000 in
theorem tag_full (l p g n : Nat) (q : List Ev) (s : ByteArray) (hs : s.size ≤ 140737488355328) (hl : Lab s = true) (lo t h r b y : Int) (w : World) (hL : Lg w l p g q n) (hq : q.length = 16) (hn : n ≤ 1000) :
    Calls Try.prog 11 #[.pointer (some ⟨l, 0, none⟩), .string s, .int .i64 lo, .agg #[.int .i64 t, .int .i64 h, .int .i64 r, .int .u16 b, .int .i64 y]] w fun x w' => x = .returned (.tuple #[.int .i64 0, .int .i64 6]) ∧ Below w.heap.size w w' := by
  have hA : Lg (w.alloc (.cells #[.int .i64 t, .int .i64 h, .int .i64 r, .int .u16 b, .int .i64 y] 33)) l p g q n := hL.below ((Below.refl _ w).alloc (Nat.le_refl _) _)
  have hT : Blk (w.alloc (.cells #[.int .i64 t, .int .i64 h, .int .i64 r, .int .u16 b, .int .i64 y] 33)) w.heap.size 33 #[.int .i64 t, .int .i64 h, .int .i64 r, .int .u16 b, .int .i64 y] := Blk.new w 33 _
  have hbW : Below w.heap.size w (w.alloc (.cells #[.int .i64 t, .int .i64 h, .int .i64 r, .int .u16 b, .int .i64 y] 33)) := (Below.refl _ w).alloc (Nat.le_refl _) _
  have hln : l < w.heap.size := hL.box.lt
  have hrn := hL.ring.lt
  have HA := Lib.hid hA
  have HT := Lib.hid hT
  have HW := Lib.hid hbW
  clear hA hT hL hbW
  go_enter Try.func11, Try.ntmps11
  go_wp2_with (go_at_call 7; with_reducible refine Calls.mono (good_ok s _ hs) ?_; rintro e w1 ⟨rfl, hb⟩)
  have hL1 := HA.out.below hb
  have HL1 := Lib.hid hL1
  have hT1 := HT.out.keeps hb
  have HT1 := Lib.hid hT1
  have HW1 := Lib.hid (HW.out.trans (hb.mono HW.out.size))
  have c0 := cells7 hL1 hT1
  have hz := HW1.out.size
  clear hb hL1 hT1 HA HT HW
  generalize hwB : w.heap.size = B at *
  have D := Lib.hid (show ∀ w, Rg w p g 16 q → Calls Try.prog 19 #[.pointer (some ⟨p, 0, none⟩), .agg #[.int .i64 ((n : Int) + 1), .string s, .int .i64 lo, .int .i64 t, .int .i64 h, .int .i64 r, .int .u16 b, .int .i64 y]] w fun x w' => x = .returned (.int .i64 6) ∧ Below w.heap.size w w' from fun w hw => push_full p g 16 q ⟨(n : Int) + 1, s, lo, t, h, r, b, y⟩ w hw hq)
  go_wp2
  have hlp := HL1.out.lp
  have hlg := HL1.out.lg
  have hwr : IntKind.i64.wrap ((n : Int) + 1) = (n : Int) + 1 := IntWalk.i64_in _ (by omega)
  go_region_held3 (fun w' => w'.cell? ⟨l, 0, none⟩ = some (.pointer (some ⟨p, 0, none⟩)) ∧ w'.cell? ⟨l, 1, none⟩ = some (.int .i64 n) ∧ w'.cell? ⟨B, 0, none⟩ = some (.int .i64 t) ∧ w'.cell? ⟨B, 1, none⟩ = some (.int .i64 h) ∧ w'.cell? ⟨B, 2, none⟩ = some (.int .i64 r) ∧ w'.cell? ⟨B, 3, none⟩ = some (.int .u16 b) ∧ w'.cell? ⟨B, 4, none⟩ = some (.int .i64 y)) (first | assumption | go_keep) (first | (go_at_call 19; with_reducible refine Calls.mono (D.out _ (by first | exact HL1.out.ring | exact Rg.drew_ HL1.out.ring)) ?_; rintro e w3 ⟨rfl, hb⟩; have hL3 := Lg.below (by first | exact HL1.out | exact Lg.drew HL1.out) hb; have HL3 := Lib.hid hL3; have hT3 := Blk.keeps (by first | exact HT1.out | exact Blk.drew HT1.out) hb; have c3 := cells7 hL3 hT3; have HW3 := Lib.hid (Below.trans (by first | exact HW1.out | exact below_drew_ HW1.out) (Below.mono hb (Nat.le_trans hz (Nat.le_of_eq rfl)))); clear hb hL3 hT3))
  go_wp2
  go_ret2
  exact ⟨rfl, by rw [hwB]; exact HW3.out⟩
set_option maxHeartbeats 1600000 in
theorem tag_ok (l p g n : Nat) (q : List Ev) (s : ByteArray) (hs : s.size ≤ 140737488355328) (hl : Lab s = true) (lo t h r b y : Int) (w : World) (hL : Lg w l p g q n) (hq : q.length < 16) (hn : n ≤ 1000) :
    Calls Try.prog 11 #[.pointer (some ⟨l, 0, none⟩), .string s, .int .i64 lo, .agg #[.int .i64 t, .int .i64 h, .int .i64 r, .int .u16 b, .int .i64 y]] w fun x w' => x = .returned (.tuple #[.int .i64 ((n + 1 : Nat) : Int), .int .i64 0]) ∧ Lg w' l p g (q ++ [⟨(n : Int) + 1, s, lo, t, h, r, b, y⟩]) (n + 1) ∧ Kp (fun k => k = l ∨ k = p ∨ k = g) w w' := by
  have hA : Lg (w.alloc (.cells #[.int .i64 t, .int .i64 h, .int .i64 r, .int .u16 b, .int .i64 y] 33)) l p g q n := hL.below ((Below.refl _ w).alloc (Nat.le_refl _) _)
  have hT : Blk (w.alloc (.cells #[.int .i64 t, .int .i64 h, .int .i64 r, .int .u16 b, .int .i64 y] 33)) w.heap.size 33 #[.int .i64 t, .int .i64 h, .int .i64 r, .int .u16 b, .int .i64 y] := Blk.new w 33 _
  have hbW : Below w.heap.size w (w.alloc (.cells #[.int .i64 t, .int .i64 h, .int .i64 r, .int .u16 b, .int .i64 y] 33)) := (Below.refl _ w).alloc (Nat.le_refl _) _
  have hln : l < w.heap.size := hL.box.lt
  have hrn := hL.ring.lt
  have HA := Lib.hid hA
  have HT := Lib.hid hT
  have HW := Lib.hid hbW
  clear hA hT hL hbW
  go_enter Try.func11, Try.ntmps11
  go_wp2_with (go_at_call 7; with_reducible refine Calls.mono (good_ok s _ hs) ?_; rintro e w1 ⟨rfl, hb⟩)
  have hL1 := HA.out.below hb
  have HL1 := Lib.hid hL1
  have hT1 := HT.out.keeps hb
  have HT1 := Lib.hid hT1
  have HW1 := Lib.hid (HW.out.trans (hb.mono HW.out.size))
  have c0 := cells7 hL1 hT1
  have hz := HW1.out.size
  clear hb hL1 hT1 HA HT HW
  have HB1 := Lib.hid (Kp.of_below (S := fun k => k = l ∨ k = p ∨ k = g) HW1.out)
  generalize hwB : w.heap.size = B at *
  have D := Lib.hid (show ∀ w, Rg w p g 16 q → Calls Try.prog 19 #[.pointer (some ⟨p, 0, none⟩), .agg #[.int .i64 ((n : Int) + 1), .string s, .int .i64 lo, .int .i64 t, .int .i64 h, .int .i64 r, .int .u16 b, .int .i64 y]] w fun x w' => x = .returned (.int .i64 0) ∧ Rg w' p g 16 (q ++ [⟨(n : Int) + 1, s, lo, t, h, r, b, y⟩]) ∧ Kp (fun k => k = p ∨ k = g) w w' from fun w hw => push_ok p g 16 q ⟨(n : Int) + 1, s, lo, t, h, r, b, y⟩ w hw hq (by omega))
  go_wp2
  have hlp := HL1.out.lp
  have hlg := HL1.out.lg
  have hwr : IntKind.i64.wrap ((n : Int) + 1) = (n : Int) + 1 := IntWalk.i64_in _ (by omega)
  go_region_held3 (fun w' => w'.cell? ⟨l, 0, none⟩ = some (.pointer (some ⟨p, 0, none⟩)) ∧ w'.cell? ⟨l, 1, none⟩ = some (.int .i64 n) ∧ w'.cell? ⟨B, 0, none⟩ = some (.int .i64 t) ∧ w'.cell? ⟨B, 1, none⟩ = some (.int .i64 h) ∧ w'.cell? ⟨B, 2, none⟩ = some (.int .i64 r) ∧ w'.cell? ⟨B, 3, none⟩ = some (.int .u16 b) ∧ w'.cell? ⟨B, 4, none⟩ = some (.int .i64 y)) (first | assumption | go_keep) (first | (go_at_call 19; with_reducible refine Calls.mono (D.out _ (by first | exact HL1.out.ring | exact Rg.drew_ HL1.out.ring)) ?_; rintro e w3 ⟨rfl, hr, hk⟩; have hL3 := Lg.mk (blk_kp (by first | exact HL1.out.box | exact Blk.drew HL1.out.box) hk (fun h => by omega)) hr HL1.out.lp HL1.out.lg; have HL3 := Lib.hid hL3; have hT3 := blk_kp (by first | exact HT1.out | exact Blk.drew HT1.out) hk (fun h => by omega); have c3 := cells7 hL3 hT3; have HK3 := Lib.hid (Kp.trans (by first | exact HB1.out | exact Kp.drew HB1.out) (Kp.mono hk (fun k _ hk => Or.inr hk))); clear hr hk hL3 hT3))
  have f1 := HL3.out.box.frozen 1
  go_wp2
  go_ret2
  exact ⟨rfl, ⟨HL3.out.box.set_ 1 (.int .i64 ((n : Int) + 1)), HL3.out.ring.kp (X := fun k => k = l) ((Kp.refl (fun k => k = l) w3).set_ ⟨l, 1, none⟩ (.inl rfl) _) (fun h => hlp h.symm) (fun h => hlg h.symm), hlp, hlg⟩, HK3.out.set_ ⟨l, 1, none⟩ (.inl (.inl rfl)) _⟩
end Go.Proofs.Ytlaolclepmbdjaa.Evt
