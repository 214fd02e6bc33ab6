/- Arrays of a law's own: 64 truth values, 64 marks. -/
import Derived.Test.YthnnejflgbminaaRf3
import Derived.Laws.Tables
import Derived.Laws.Rows
namespace Go.Proofs.Ythnnejflgbminaa.El
open Go.RowKit Go.Proofs.Ythnnejflgbminaa.Bk Go.Proofs.Ythnnejflgbminaa.Rw Go.Proofs.Ythnnejflgbminaa.Ow Go.Proofs.Ythnnejflgbminaa.Kp Go.Proofs.Ythnnejflgbminaa.Sq Go.Proofs.Ythnnejflgbminaa.Ck Go.Proofs.Ythnnejflgbminaa.Ck2 Go.Proofs.Ythnnejflgbminaa.Mp

def Kn (w : World) (b : Nat) (f : Int → Option (Int × Int)) : Prop := Cs w b 34 64 (fun i => .bool (f (i : Int)).isSome)
def mcell (la : Nat → Int × Int) (i : Nat) : Value := if i % 2 = 0 then .int .u16 (la (i / 2)).1 else .int .u16 (la (i / 2)).2
def La (w : World) (b : Nat) (la : Nat → Int × Int) : Prop := Cs w b 33 128 (mcell la)
def ZK : Array Value := (List.replicate 64 (Value.bool false)).toArray
def ZM : Array Value := (List.replicate 128 (Value.int .u16 0)).toArray
theorem zK (w : World) : (zeroValue 34).run Try.prog w = .ok (.agg ZK) w := by kernel_rfl
theorem zM (w : World) : (zeroValue 33).run Try.prog w = .ok (.agg ZM) w := by kernel_rfl
theorem ZK_size : ZK.size = 64 := by kernel_rfl
theorem iK : (Try.prog.info? 34).map (·.size) = some 64 := by kernel_rfl
theorem Kn.new (w : World) : Kn (w.alloc (.cells ZK 34)) w.heap.size (fun _ => none) := by
  refine Cs.new w _ _ _ ZK_size fun i hi => ?_
  unfold ZK
  rw [List.getElem?_toArray, List.getElem?_replicate, if_pos hi]
  rfl
theorem La.new (w : World) : La (w.alloc (.cells ZM 33)) w.heap.size (fun _ => (0, 0)) := by
  refine Cs.new w _ _ _ (by kernel_rfl) fun i hi => ?_
  unfold ZM
  rw [List.getElem?_toArray, List.getElem?_replicate, if_pos hi]
  unfold mcell
  split <;> rfl
theorem Kn.cell {w : World} {b : Nat} {f : Int → Option (Int × Int)} (h : Kn w b f) {x : Nat} (hx : x < 64) : w.cell? ⟨b, x, none⟩ = some (.bool (f x).isSome) := Cs.cell h hx
theorem La.fst {w : World} {b : Nat} {la : Nat → Int × Int} (h : La w b la) {x : Nat} (hx : x < 64) : w.cell? ⟨b, x * 2, none⟩ = some (.int .u16 (la x).1) := by
  rw [Cs.cell h (i := x * 2) (by omega)]
  unfold mcell
  rw [if_pos (by omega), show x * 2 / 2 = x by omega]
theorem La.snd {w : World} {b : Nat} {la : Nat → Int × Int} (h : La w b la) {x : Nat} (hx : x < 64) : w.cell? ⟨b, x * 2 + 1, none⟩ = some (.int .u16 (la x).2) := by
  rw [Cs.cell h (i := x * 2 + 1) (by omega)]
  unfold mcell
  rw [if_neg (by omega), show (x * 2 + 1) / 2 = x by omega]
theorem Kn.put {w : World} {b : Nat} {f : Int → Option (Int × Int)} (h : Kn w b f) (x : Nat) (m : Int × Int) : Kn (w.setCell ⟨b, x, none⟩ (.bool true)) b (put f x m) := by
  refine Cs.congr (Cs.set h x (.bool true)) fun i _ => ?_
  by_cases e : i = x
  · subst e
    simp [Mp.put]
  · have : ¬ (i : Int) = x := by omega
    simp [Mp.put, e, this]
theorem La.put {w : World} {b : Nat} {la : Nat → Int × Int} (h : La w b la) (x : Nat) (m : Int × Int) : La ((w.setCell ⟨b, x * 2, none⟩ (.int .u16 m.1)).setCell ⟨b, x * 2 + 1, none⟩ (.int .u16 m.2)) b (fun i => if i = x then m else la i) := by
  refine Cs.congr (Cs.set (Cs.set h (x * 2) (.int .u16 m.1)) (x * 2 + 1) (.int .u16 m.2)) fun i _ => ?_
  unfold mcell
  by_cases e : i / 2 = x
  · by_cases e2 : i % 2 = 0
    · rw [if_neg (by omega), if_pos (by omega), if_pos e2]
      dsimp only
      rw [if_pos e]
    · rw [if_pos (by omega), if_neg e2]
      dsimp only
      rw [if_pos e]
  · rw [if_neg (by omega), if_neg (by omega)]
    dsimp only
    rw [if_neg e]
/-- 'known = [64]bool{}', as the walk leaves it: the cells' store. -/
theorem Kn.zero {w : World} {b : Nat} {f : Int → Option (Int × Int)} (h : Kn w b f) : ∃ w', (storeCells ⟨b, 0, none⟩ ZK.toList 0).run Try.prog w = .ok () w' ∧ Kn w' b (fun _ => none) ∧ Kp (fun k => k = b) w w' := by
  obtain ⟨cs, h1, h2, h3⟩ := h
  refine ⟨w.setRow b ZK, ?_, ⟨ZK, setRow_heap w b cs ZK _ _ h1, ZK_size, fun i hi => ?_⟩, ⟨rfl, rfl, rfl, Nat.le_of_eq (size_setRow w b ZK).symm, fun k hk hb => setRow_other w b k ZK hb⟩⟩
  · have := run_storeCells_from (P := Try.prog) b 34 ZK.toList 0 cs w h1 (by rw [h2]; simp [ZK]) (fun v hv => by simp [ZK] at hv; rw [hv]; rfl)
    simpa using this
  · unfold ZK
    rw [List.getElem?_toArray, List.getElem?_replicate, if_pos hi]
    rfl
end Go.Proofs.Ythnnejflgbminaa.El
