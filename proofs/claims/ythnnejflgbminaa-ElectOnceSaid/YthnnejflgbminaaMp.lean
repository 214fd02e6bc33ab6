/- A map from ints to marks, owned by the call: what it holds as a function. -/
import Derived.Test.YthnnejflgbminaaChecked
import Derived.Test.YthnnejflgbminaaKp
import Derived.Test.YthnnejflgbminaaSq
import Derived.Test.YthnnejflgbminaaCk2
import Derived.Maps.Own
import Derived.Maps.OwnSet
import Derived.IntWalk
import Derived.Lib.Hide
namespace Go.Proofs.Ythnnejflgbminaa.Mp
open Go.RowKit Go.Maps Go.Proofs.Ythnnejflgbminaa.Bk Go.Proofs.Ythnnejflgbminaa.Kp

theorem uK : Try.prog.underlying 3 = some (.int .i64) := by kernel_rfl
theorem uM : Try.prog.underlying 56 = some (.map 3 32) := by kernel_rfl
theorem law : Keyed Try.prog 3 := int_keyed uK
theorem zeroE (w : World) : (zeroValue 32).run Try.prog w = .ok (.agg #[.int .u16 0, .int .u16 0]) w := by kernel_rfl

abbrev mk (x : Int × Int) : Value := .agg #[.int .u16 x.1, .int .u16 x.2]
abbrev md (x : Int × Int) : DataW Unit := .agg [.lit (.int .u16 x.1), .lit (.int .u16 x.2)]
/-- How an element reads. -/
def el : Value → Option (DataW Unit × List MemPlace)
  | .agg c => match c.toList with
    | [.int .u16 a, .int .u16 b] => some (md (a, b), [])
    | _ => none
  | _ => none
theorem el_mk (x : Int × Int) : el (mk x) = some (md x, []) := rfl
theorem el_inv {v : Value} {x : Int × Int} {ps : List MemPlace} (h : el v = some (md x, ps)) : v = mk x := by
  cases v with
  | agg c =>
    obtain ⟨l⟩ := c
    simp only [el] at h
    split at h
    · simp only [Option.some.injEq, Prod.mk.injEq, md, DataW.agg.injEq, List.cons.injEq, DataW.lit.injEq, Lit.int.injEq, true_and, and_true] at h
      obtain ⟨⟨h1, h2⟩, _⟩ := h
      subst h1 h2
      rfl
    · cases h
  | _ => simp [el] at h

/-- Block b is a map of at most n entries: at x it holds f x. -/
def Mp (w : World) (b n : Nat) (f : Int → Option (Int × Int)) : Prop :=
  ∃ D : DataW Unit, w.ownsMap Try.prog 3 el b n D ∧ ∀ x : Int, (Lit.int .i64 x).wf = true → has D (.int .i64 x) = (f x).isSome ∧ D.atKey (.int .i64 x) (md (0, 0)) = md ((f x).getD (0, 0))

theorem Mp.lt {w : World} {b n : Nat} {f : Int → Option (Int × Int)} (h : Mp w b n f) : b < w.heap.size := h.choose_spec.1.lt
theorem Mp.new (w : World) : Mp (w.alloc (.map #[] 0)) w.heap.size 0 fun _ => none :=
  ⟨_, World.ownsMap_made _ _ _ _, fun _ _ => ⟨rfl, rfl⟩⟩
theorem Mp.mono {w : World} {b n m : Nat} {f : Int → Option (Int × Int)} (h : Mp w b n f) (hm : n ≤ m) : Mp w b m f := let ⟨D, h1, h2⟩ := h; ⟨D, h1.mono hm, h2⟩
theorem Mp.alloc {w : World} {b n : Nat} {f : Int → Option (Int × Int)} (h : Mp w b n f) (o : Obj) : Mp (w.alloc o) b n f := let ⟨D, h1, h2⟩ := h; ⟨D, h1.alloc o, h2⟩
theorem Mp.drew {w : World} {b n : Nat} {f : Int → Option (Int × Int)} (h : Mp w b n f) : Mp w.drew b n f := let ⟨D, h1, h2⟩ := h; ⟨D, h1.drew, h2⟩
theorem Mp.far {w : World} {b n g i : Nat} {f : Int → Option (Int × Int)} (hb : ¬ b = g) (h : Mp w b n f) (u : Value) : Mp (w.setCell ⟨g, i, none⟩ u) b n f := let ⟨D, h1, h2⟩ := h; ⟨D, h1.setCell (a := ⟨g, i, none⟩) hb u, h2⟩
theorem Mp.of_heap {w w' : World} {b n : Nat} {f : Int → Option (Int × Int)} (h : Mp w b n f) (he : w'.heap[b]? = w.heap[b]?) : Mp w' b n f :=
  let ⟨D, ⟨es, c, h1, h3⟩, h2⟩ := h; ⟨D, ⟨es, c, he.trans h1, h3⟩, h2⟩
theorem Mp.kp {w w' : World} {b n : Nat} {f : Int → Option (Int × Int)} {S : Nat → Prop} (h : Mp w b n f) (hk : Kp S w w') (hb : ¬ S b) : Mp w' b n f := h.of_heap (hk.block b h.lt hb)
theorem Mp.blk_ne {w : World} {b n g : Nat} {t : TypeId} {cs : Array Value} {f : Int → Option (Int × Int)} (h : Mp w b n f) (hb : Blk w g t cs) : b ≠ g := by
  rintro rfl
  obtain ⟨D, ⟨es, c, h1, h3⟩, h2⟩ := h
  have := hb.symm.trans h1
  cases this

/-- 'm[k]' and 'v, ok := m[k]'. -/
theorem Mp.look {w : World} {b n : Nat} {f : Int → Option (Int × Int)} (h : Mp w b n f) {x : Int} (hx : (Lit.int .i64 x).wf = true) :
    (Instr.lookup 56 (.map (some b)) (.int .i64 x) false).run Try.prog w = .ok (mk ((f x).getD (0, 0))) w := by
  obtain ⟨D, h1, h2⟩ := h
  obtain ⟨v, ps, hr, hv⟩ := h1.lookup law uM (zeroE w) (el_mk (0, 0)) (keyOf_int_mk uK hx)
  rw [(h2 x hx).2] at hv
  rw [el_inv hv] at hr
  exact hr
theorem Mp.look_ok {w : World} {b n : Nat} {f : Int → Option (Int × Int)} (h : Mp w b n f) {x : Int} (hx : (Lit.int .i64 x).wf = true) :
    (Instr.lookup 56 (.map (some b)) (.int .i64 x) true).run Try.prog w = .ok (.tuple #[mk ((f x).getD (0, 0)), .bool (f x).isSome]) w := by
  obtain ⟨D, h1, h2⟩ := h
  obtain ⟨v, ps, hr, hv⟩ := h1.look_ok law uM (zeroE w) (el_mk (0, 0)) (keyOf_int_mk uK hx)
  rw [(h2 x hx).2] at hv
  rw [el_inv hv, (h2 x hx).1] at hr
  exact hr
def put (f : Int → Option (Int × Int)) (x : Int) (m : Int × Int) : Int → Option (Int × Int) := fun y => if y = x then some m else f y
/-- 'm[k] = v'. -/
theorem Mp.store {w : World} {b n : Nat} {f : Int → Option (Int × Int)} (h : Mp w b n f) (hn : n < maxLen) {x : Int} (hx : (Lit.int .i64 x).wf = true) (m : Int × Int) :
    ∃ w', (Instr.mapUpdate 56 (.map (some b)) (.int .i64 x) (mk m)).run Try.prog w = .ok () w' ∧ Mp w' b (n + 1) (put f x m) ∧ w.grownBy w' (some b) := by
  obtain ⟨D, h1, h2⟩ := h
  have hk := keyOf_int_mk uK hx
  obtain ⟨w', hr, ho, hg⟩ := h1.update law uM hn hk (el_mk m)
  refine ⟨w', hr, ⟨_, ho, fun y hy => ?_⟩, hg⟩
  by_cases e : y = x
  · subst e
    simp only [put, if_true, Option.isSome_some, Option.getD_some]
    exact ⟨has_put_same h1.isMap (law.key hk) _, atKey_put_same h1.isMap (law.key hk) _ _⟩
  · have e2 : Lit.int .i64 y ≠ Lit.int .i64 x := fun h => e (by injection h)
    simp only [put, if_neg e]
    rw [has_put_other e2, atKey_put_other e2]
    exact h2 y hy
end Go.Proofs.Ythnnejflgbminaa.Mp
