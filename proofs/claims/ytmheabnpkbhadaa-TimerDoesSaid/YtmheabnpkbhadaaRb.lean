/- A range over a function that keeps its state in a captured box: the contract lets the iterator turn the box Bn between the rounds, and the rounds leave it alone. -/
import Derived.RangeFuncNested
import Derived.Test.YtmheabnpkbhadaaKp
namespace Go.Proofs.Ytmheabnpkbhadaa.Rb
open Go.RowKit Go.Proofs.Ytmheabnpkbhadaa.Bk Go.Proofs.Ytmheabnpkbhadaa.Kp

/-- J lives through whatever grows the world, turns Bn, or turns what o says of a block from B on. -/
def Ab {β : Type} (Bn B : Nat) (o : Obj → Prop) (J : β → World → Prop) : Prop :=
  ∀ s W W' row, J s W → W.grownBy W' row → (∀ r, row = some r → r = Bn ∨ (B ≤ r ∧ ∃ x, W.heap[r]? = some x ∧ o x)) → J s W'
def Cl (x : Obj) : Prop := x.isCells = false
def Wk (x : Obj) : Prop := x.isWalk = true

/-- The contract of a closure whose box is Bn: it yields the elements of xs, one by one. -/
def SeqB {α : Type} (F : Fence) (n : Nat) (P : Program) (g : Nat) (lb : Array Value) (enc : α → Array Value) (Bn : Nat) (T : Nat → Prop) (xs : List α) (w : World) : Prop :=
  ∀ (l : Nat) (J Jx : List α → World → Prop) (W : World), Below w.heap.size w W → Ab Bn W.heap.size Wk J → Ab Bn W.heap.size Wk Jx →
    (∀ pre x W1, J pre W1 → pre ++ [x] <+: xs → YieldAt F (n - 1) P l (enc x) W1 fun e W' => (e = .returned (.bool true) ∧ J (pre ++ [x]) W' ∧ Kp T W1 W') ∨ (e = .returned (.bool false) ∧ Jx (pre ++ [x]) W')) →
    J [] W → CallsIn F n P g (#[.func (.yield l) #[] #[]] ++ lb) W fun e W' => (∃ v, e = .returned v) ∧ (J xs W' ∨ ∃ pre, pre <+: xs ∧ Jx pre W')

section
variable {α β : Type} {F : Fence} {n : Nat} {P : Program} {Bn B : Nat} {T : Nat → Prop} {J J' : β → World → Prop}
theorem Ab.put (h : Ab Bn B Cl J) {s : β} {W : World} {l : Nat} {o : Obj} (o' : Obj) (hs : J s W) (hB : B ≤ l) (hl : W.heap[l]? = some o) (ho : o.isCells = false) : J s (W.putObj l o') :=
  h s W _ (some l) hs (grownBy_putObj' W l o') (fun _ e => by cases e; exact .inr ⟨hB, o, hl, ho⟩)
theorem Ab.alloc {o' : Obj → Prop} (h : Ab Bn B o' J) {s : β} {W : World} (o : Obj) (hs : J s W) : J s (W.alloc o) :=
  h s W _ none hs (World.grownBy_alloc W o none) (fun _ e => nomatch e)
theorem Ab.and {o' : Obj → Prop} (h : Ab Bn B o' J) (h' : Ab Bn B o' J') : Ab Bn B o' (fun s W => J s W ∧ J' s W) := fun s W W' row hs hg hr => ⟨h s W W' row hs.1 hg hr, h' s W W' row hs.2 hg hr⟩
theorem ab_pure (o' : Obj → Prop) (p : β → Prop) : Ab Bn B o' (fun s (_ : World) => p s) := fun _ _ _ _ hs _ _ => hs
theorem ab_below {n₀ : Nat} {w₀ : World} (hn : n₀ ≤ w₀.heap.size) (hB : n₀ ≤ B) (hb : n₀ ≤ Bn) (o' : Obj → Prop) : Ab Bn B o' (fun (_ : β) W => Below n₀ w₀ W) :=
  fun _ _ _ _ hs hg hr => hs.grown hg (Nat.le_trans hn hs.size) (fun k e => by
    rcases hr k e with h | h
    · exact h ▸ hb
    · exact Nat.le_trans hB h.1)
theorem ab_blk {g : Nat} {t : TypeId} {f : β → Array Value} (hg : g ≠ Bn) : Ab Bn B Cl (fun s W => Blk W g t (f s)) :=
  fun _ W _ _ hs hgr hr => hs.grown hgr (fun e => by
    rcases hr g e.symm with h | ⟨_, x, h1, h2⟩
    · exact hg h
    · have h1 := h1.symm.trans (show W.heap[g]? = _ from hs)
      injection h1 with h1
      subst h1
      cases h2)

/-- What the loop itself keeps: its record, and the rounds' deferred calls. -/
def Own2 (b : Nat) (r : Loop) (W : World) : Prop := W.heap[b + 1]? = some (.loop r) ∧ W.heap[b]? = some (.deferred (some []))
theorem Own2.lives {b : Nat} {r : Loop} {W W' : World} {row : Option Nat} (h : Own2 b r W) (hB : Bn < b) (hg : W.grownBy W' row) {B' : Nat} (hr : ∀ q, row = some q → q = Bn ∨ (B' ≤ q ∧ ∃ x, W.heap[q]? = some x ∧ Wk x)) : Own2 b r W' := by
  have key : ∀ i o, W.heap[i]? = some o → o.isWalk = false → i ≠ Bn → W'.heap[i]? = some o := fun i o hi ho hne => by
    refine (hg.block i (Array.getElem?_eq_some_iff.1 hi).1 (fun e => ?_)).trans hi
    rcases hr i e.symm with h | ⟨_, x, h1, h2⟩
    · exact hne h
    · have h1 := h1.symm.trans hi
      injection h1 with h1
      subst h1
      exact absurd h2 (by rw [Wk, ho]; simp)
  exact ⟨key _ _ h.1 rfl (by omega), key _ _ h.2 rfl (by omega)⟩

theorem wpIn_range_box {g : Operand} {ps : Array Tmp} {assign body : Code} {Q : Exit → Act → World → Prop} {a : Act} {w : World}
    (hro : F.round = none) (h1 : 1 ≤ n) {gf : Nat} {lb : Array Value} (hg : a.eval g = .func (.func gf) #[] lb) (hF : F.fn gf) (eg : ∀ args w, (callFunc gf args).run P w = .ok (.enter gf args) w)
    {enc : α → Array Value} {xs : List α} (hseq : SeqB F (n - 1) P gf lb enc Bn T xs w) (hBn : Bn < w.heap.size) (hT : ∀ k, w.heap.size ≤ k → T k) (hps : ∀ x, (enc x).size = ps.size)
    (I : List α → World → Prop) (Ix : Code → List α → World → Prop) (hI : Ab Bn w.heap.size Cl I) (hIx : ∀ c, Ab Bn w.heap.size Cl (Ix c)) (h0 : I [] w)
    (Ax : α → Act → World → Prop) (hAx : ∀ x a', Ab Bn w.heap.size Cl (fun (_ : Unit) W => Ax x a' W))
    (hassign : ∀ l pre x W (K : Act → World → Prop), I pre W → (∀ a' W', KeepsFrom w.heap.size W W' → Kp T W W' → I pre W' → Ax x a' W' → K a' W') →
      assign.wpIn (F.inRound l) (n - 1 - 1) P (Exit.then K (fun _ _ _ => False)) { tmps := (ps.zip (enc x)).foldl (fun t (p, v) => t.setIfInBounds p v) a.tmps, defers := [] } W)
    (hbody : ∀ l pre x a' W, w.heap.size ≤ l → I pre W → Ax x a' W → pre ++ [x] <+: xs → body.wpIn (F.inRound l) (n - 1 - 1) P (ownPostG w.heap.size (Kp T) I Ix (pre ++ [x]) W) a' W)
    (hdone : ∀ D W, w.heap.size ≤ D → I xs W → W.heap[D]? = some (.deferred (some [])) → Q .normal { a with defers := { target := .collected D, args := #[] } :: a.defers } W)
    (hstop : ∀ D c pre W, w.heap.size ≤ D → pre <+: xs → Ix c pre W → W.heap[D]? = some (.deferred (some [])) → c.wpIn F n P Q { a with defers := { target := .collected D, args := #[] } :: a.defers } W) :
    (Code.rangeFunc g ps assign body).wpIn F n P Q a w := by
  refine wpIn_rangeFunc fun fn hfn => ?_
  rw [hro]
  obtain ⟨rec, hrec⟩ : ∃ rec : LoopState → Option Code → Loop, rec = fun st pe => { state := st, pending := pe, fn, tmps := a.tmps, params := ps, assign, body, defers := w.heap.size } := ⟨_, rfl⟩
  obtain ⟨V, hV⟩ : ∃ V, (w.alloc (.deferred (some []))).alloc (.loop (rec .ready none)) = V := ⟨_, rfl⟩
  have hVs : V.heap.size = w.heap.size + 2 := by rw [← hV]; simp
  have hO : Own2 w.heap.size (rec .ready none) V := by
    rw [← hV]
    refine ⟨?_, (Below.heap_alloc _ _ _ (by simp)).trans (World.alloc_heap_new w _)⟩
    have := World.alloc_heap_new (w.alloc (.deferred (some []))) (.loop (rec .ready none))
    rwa [World.size_alloc] at this
  have hIV : I [] V := by rw [← hV]; exact hI.alloc _ (hI.alloc _ h0)
  have hbV : Below w.heap.size w V := by rw [← hV]; exact ((Below.refl _ w).alloc (Nat.le_refl _) _).alloc (by simp) _
  have wide : ∀ {A : World} {row : Option Nat}, (∀ r, row = some r → r = Bn ∨ (V.heap.size ≤ r ∧ ∃ x, A.heap[r]? = some x ∧ Wk x)) → ∀ r, row = some r → r = Bn ∨ (w.heap.size ≤ r ∧ ∃ x, A.heap[r]? = some x ∧ Cl x) := fun hr r e => by
    rcases hr r e with h | ⟨h, x, h2, h3⟩
    · exact .inl h
    · exact .inr ⟨by omega, x, h2, Obj.not_cells_of_walk h3⟩
  have turn : ∀ (W : World) (o o' : Obj), W.heap[w.heap.size + 1]? = some o → Kp T W (W.putObj (w.heap.size + 1) o') := fun W o o' _ => (Kp.refl T W).grown (grownBy_putObj' W _ o') (fun q e => by cases e; exact .inl (hT _ (by omega)))
  refine ⟨w.heap.size + 1, [{ target := .collected w.heap.size, args := #[] }], V, { target := .fn (.func gf) lb, args := #[.func (.yield (w.heap.size + 1)) #[] #[]] }, V, gf, #[.func (.yield (w.heap.size + 1)) #[] #[]] ++ lb, V, ?_, ?_, ?_, ?_, fun _ => h1, ?_⟩
  · rw [← hV, hrec]
    exact run_enterLoop_outer _ _ _ _ _
  · simp only [resolve, hg]
    simp [go_sem]
  · intro f hf
    simp [Target.leads] at hf
    subst hf
    exact hF
  · simp [invoke, go_sem, eg]
  refine (hseq (w.heap.size + 1) (fun pre W => I pre W ∧ Own2 w.heap.size (rec .ready none) W) (fun pre W => ∃ c, Ix c pre W ∧ Own2 w.heap.size (rec .done (some c)) W) V hbV
    (fun s A A' row hs hg' hr => ⟨hI s A A' row hs.1 hg' (wide hr), hs.2.lives hBn hg' hr⟩)
    (fun s A A' row ⟨c, hc, ho⟩ hg' hr => ⟨c, hIx c s A A' row hc hg' (wide hr), ho.lives hBn hg' hr⟩) ?_ ⟨hIV, hO⟩).mono ?_
  · rintro pre x W ⟨hi, ho⟩ hpre
    have hy := run_yield (P := P) (args := enc x) ho.1 (by rw [hrec]; exact hps x)
    rw [hrec] at hy
    refine ⟨fn, _, assign, body, hy, roundIn_of_wpIn hfn (hassign _ pre x W _ hi fun a' Wa hkf hka hia hax => ?_)⟩
    have hla := hkf.same _ _ (by omega) ho.1 rfl
    have hda := hkf.same _ _ (Nat.le_refl _) ho.2 rfl
    have hlt := (Array.getElem?_eq_some_iff.1 hla).1
    refine ⟨_, run_beginRound hla (by rw [hrec]), ?_⟩
    obtain ⟨bz, hbz⟩ : ∃ bz : Loop, { rec .ready none with state := .busy } = bz := ⟨_, rfl⟩
    rw [hbz]
    have hlb : (Wa.putObj (w.heap.size + 1) (.loop bz)).heap[w.heap.size + 1]? = some (.loop bz) := World.putObj_heap_same hlt
    have hdb : (Wa.putObj (w.heap.size + 1) (.loop bz)).heap[w.heap.size]? = some (.deferred (some [])) := (World.putObj_heap_other (by omega)).trans hda
    have fin : ∀ (jump : Option Code) (W3 : World), KeepsFrom w.heap.size (Wa.putObj (w.heap.size + 1) (.loop bz)) W3 →
        (Instr.endRound (w.heap.size + 1) jump).run P W3 = .ok (.bool jump.isNone) (W3.putObj (w.heap.size + 1) (.loop (rec (if jump.isNone then .ready else .done) jump))) ∧
        W3.heap[w.heap.size + 1]? = some (.loop bz) ∧ Own2 w.heap.size (rec (if jump.isNone then .ready else .done) jump) (W3.putObj (w.heap.size + 1) (.loop (rec (if jump.isNone then .ready else .done) jump))) := fun jump W3 hk3 => by
      have hl3 := hk3.same _ _ (by omega) hlb rfl
      have hr := run_endRound (P := P) jump hl3
      rw [← hbz, hrec] at hr
      rw [hrec]
      exact ⟨hr, hl3, World.putObj_heap_same (Array.getElem?_eq_some_iff.1 hl3).1, (World.putObj_heap_other (by omega)).trans (hk3.same _ _ (Nat.le_refl _) hdb rfl)⟩
    refine wpIn_mono (hbody _ pre x a' _ (by omega) (hI.put _ hia (by omega) hla rfl) ((hAx x a').put (s := ()) _ hax (by omega) hla rfl) hpre) ?_
    rintro e a3 W3 hp
    cases e with
    | normal =>
      obtain ⟨hk3, hkp3, hi3⟩ := hp
      obtain ⟨hr, hl3, ho3⟩ := fin none W3 hk3
      exact ⟨_, _, hr, .inl ⟨rfl, ⟨hI.put _ hi3 (by omega) hl3 rfl, ho3⟩, hka.trans (((turn _ _ _ hla).trans hkp3).trans (turn _ _ _ hl3))⟩⟩
    | ret =>
      obtain ⟨hr, hl3, ho3⟩ := fin (some .ret) W3 hp.1
      exact ⟨_, _, hr, .inr ⟨rfl, .ret, (hIx _).put _ hp.2 (by omega) hl3 rfl, ho3⟩⟩
    | exit id =>
      obtain ⟨hr, hl3, ho3⟩ := fin (some (.exit id)) W3 hp.1
      exact ⟨_, _, hr, .inr ⟨rfl, .exit id, (hIx _).put _ hp.2 (by omega) hl3 rfl, ho3⟩⟩
    | goto t =>
      obtain ⟨hr, hl3, ho3⟩ := fin (some (.goto t)) W3 hp.1
      exact ⟨_, _, hr, .inr ⟨rfl, .goto t, (hIx _).put _ hp.2 (by omega) hl3 rfl, ho3⟩⟩
    | panic ch => exact hp.elim
    | outgrown => exact hp.elim
  · rintro e W2 ⟨⟨v, rfl⟩, (⟨hi, ho⟩ | ⟨pre, hpre, c, hi, ho⟩)⟩
    · have hr := run_endLoop (P := P) ho.1 (by rw [hrec]; simp)
      rw [hrec] at hr
      exact ⟨none, _, hr, hdone _ _ (Nat.le_refl _) (hI.put _ hi (by omega) ho.1 rfl) ((World.putObj_heap_other (by omega)).trans ho.2)⟩
    · have hr := run_endLoop (P := P) ho.1 (by rw [hrec]; simp)
      rw [hrec] at hr
      exact ⟨some c, _, hr, hstop _ c pre _ (Nat.le_refl _) hpre ((hIx c).put _ hi (by omega) ho.1 rfl) ((World.putObj_heap_other (by omega)).trans ho.2)⟩
end
end Go.Proofs.Ytmheabnpkbhadaa.Rb
