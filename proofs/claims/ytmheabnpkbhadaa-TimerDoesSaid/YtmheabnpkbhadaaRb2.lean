/- Rb's law where the body is told of its own record, and at a loop within a round. -/
import Derived.Test.YtmheabnpkbhadaaRb
namespace Go.Proofs.Ytmheabnpkbhadaa.Rb
open Go.RowKit Go.Proofs.Ytmheabnpkbhadaa.Bk Go.Proofs.Ytmheabnpkbhadaa.Kp
/-- What an inner loop itself keeps: its record. -/
def Own1 (b : Nat) (r : Loop) (W : World) : Prop := W.heap[b]? = some (.loop r)
theorem Own1.lives {Bn : Nat} {b : Nat} {r : Loop} {W W' : World} {row : Option Nat} (h : Own1 b r W) (hB : Bn < b) (hg : W.grownBy W' row) {B' : Nat} (hr : ∀ q, row = some q → q = Bn ∨ (B' ≤ q ∧ ∃ x, W.heap[q]? = some x ∧ Wk x)) : Own1 b r W' := by
  refine (hg.block b (Array.getElem?_eq_some_iff.1 h).1 (fun e => ?_)).trans h
  rcases hr b e.symm with h1 | ⟨_, x, h1, h2⟩
  · omega
  · have h1 := h1.symm.trans h
    injection h1 with h1
    subst h1
    cases h2
theorem ab_keeps {β : Type} {Bn B B₀ : Nat} {w₀ : World} (hB : w₀.heap.size ≤ B) (hn : w₀.heap.size ≤ Bn) (o' : Obj → Prop) : Ab Bn B o' (fun (_ : β) W => KeepsFrom B₀ w₀ W) :=
  fun _ X Y row hs hg hr => ⟨Nat.le_trans hs.size hg.size, fun k o hk h0 ho => by
    have hX := hs.same k o hk h0 ho
    refine (hg.block k (Array.getElem?_eq_some_iff.1 hX).1 (fun e => ?_)).trans hX
    have h2 := (Array.getElem?_eq_some_iff.1 h0).1
    rcases hr k e.symm with h1 | h1
    · omega
    · have := h1.1
      omega⟩
theorem ab_kp {β : Type} {Bn B : Nat} {S : Nat → Prop} {w₀ : World} (hS : ∀ k, k = Bn ∨ B ≤ k → S k) (o' : Obj → Prop) : Ab Bn B o' (fun (_ : β) W => Kp S w₀ W) :=
  fun _ _ _ _ hs hg hr => hs.grown hg (fun q e => .inl (by
    rcases hr q e with h | h
    · exact hS q (.inl h)
    · exact hS q (.inr h.1)))
theorem keeps_below {B : Nat} {W W' : World} (h : Below W.heap.size W W') : KeepsFrom B W W' := ⟨h.size, fun k _ _ hk _ => (h.block k (Array.getElem?_eq_some_iff.1 hk).1).trans hk⟩
section
variable {α β : Type} {F : Fence} {n : Nat} {P : Program} {Bn B : Nat} {T : Nat → Prop}
theorem wpIn_range_boxH {g : Operand} {ps : Array Tmp} {assign body : Code} {Q : Exit → Act → World → Prop} {a : Act} {w : World}
    (hro : F.round = none) (h1 : 1 ≤ n) {gf : Nat} {lb : Array Value} (hg : a.eval g = .func (.func gf) #[] lb) (hF : F.fn gf) (eg : ∀ args w, (callFunc gf args).run P w = .ok (.enter gf args) w)
    {enc : α → Array Value} {xs : List α} (hseq : SeqB F (n - 1) P gf lb enc Bn T xs w) (hBn : Bn < w.heap.size) (hT : ∀ k, w.heap.size ≤ k → T k) (hps : ∀ x, (enc x).size = ps.size)
    (I : List α → World → Prop) (Ix : Code → List α → World → Prop) (hI : Ab Bn w.heap.size Cl I) (hIx : ∀ c, Ab Bn w.heap.size Cl (Ix c)) (h0 : I [] w)
    (Ax : α → Act → World → Prop) (hAx : ∀ x a', Ab Bn w.heap.size Cl (fun (_ : Unit) W => Ax x a' W))
    (hassign : ∀ l pre x W (K : Act → World → Prop), I pre W → (∀ a' W', KeepsFrom w.heap.size W W' → Kp T W W' → I pre W' → Ax x a' W' → K a' W') →
      assign.wpIn (F.inRound l) (n - 1 - 1) P (Exit.then K (fun _ _ _ => False)) { tmps := (ps.zip (enc x)).foldl (fun t (p, v) => t.setIfInBounds p v) a.tmps, defers := [] } W)
    (hbody : ∀ l pre x a' W, w.heap.size ≤ l → (∃ r, W.heap[l]? = some (.loop r)) → I pre W → Ax x a' W → pre ++ [x] <+: xs → body.wpIn (F.inRound l) (n - 1 - 1) P (ownPostG w.heap.size (Kp T) I Ix (pre ++ [x]) W) a' W)
    (hdone : ∀ D W, w.heap.size ≤ D → I xs W → W.heap[D]? = some (.deferred (some [])) → Q .normal { a with defers := { target := .collected D, args := #[] } :: a.defers } W)
    (hstop : ∀ D c pre W, w.heap.size ≤ D → pre <+: xs → Ix c pre W → W.heap[D]? = some (.deferred (some [])) → c.wpIn F n P Q { a with defers := { target := .collected D, args := #[] } :: a.defers } W) :
    (Code.rangeFunc g ps assign body).wpIn F n P Q a w := by
  refine wpIn_rangeFunc fun fn hfn => ?_
  rw [hro]
  obtain ⟨rec, hrec⟩ : ∃ rec : LoopState → Option Code → Loop, rec = fun st pe => { state := st, pending := pe, fn, tmps := a.tmps, params := ps, assign, body, defers := w.heap.size } := ⟨_, rfl⟩
  obtain ⟨V, hV⟩ : ∃ V, (w.alloc (.deferred (some []))).alloc (.loop (rec .ready none)) = V := ⟨_, rfl⟩
  have hVs : V.heap.size = w.heap.size + 2 := by rw [← hV]; simp
  have hO : Own2 w.heap.size (rec .ready none) V := by
    rw [← hV]
    refine ⟨?_, (Below.heap_alloc _ _ _ (by simp)).trans (World.alloc_heap_new w _)⟩
    have := World.alloc_heap_new (w.alloc (.deferred (some []))) (.loop (rec .ready none))
    rwa [World.size_alloc] at this
  have hIV : I [] V := by rw [← hV]; exact hI.alloc _ (hI.alloc _ h0)
  have hbV : Below w.heap.size w V := by rw [← hV]; exact ((Below.refl _ w).alloc (Nat.le_refl _) _).alloc (by simp) _
  have wide : ∀ {A : World} {row : Option Nat}, (∀ r, row = some r → r = Bn ∨ (V.heap.size ≤ r ∧ ∃ x, A.heap[r]? = some x ∧ Wk x)) → ∀ r, row = some r → r = Bn ∨ (w.heap.size ≤ r ∧ ∃ x, A.heap[r]? = some x ∧ Cl x) := fun hr r e => by
    rcases hr r e with h | ⟨h, x, h2, h3⟩
    · exact .inl h
    · exact .inr ⟨by omega, x, h2, Obj.not_cells_of_walk h3⟩
  have turn : ∀ (W : World) (o o' : Obj), W.heap[w.heap.size + 1]? = some o → Kp T W (W.putObj (w.heap.size + 1) o') := fun W o o' _ => (Kp.refl T W).grown (grownBy_putObj' W _ o') (fun q e => by cases e; exact .inl (hT _ (by omega)))
  refine ⟨w.heap.size + 1, [{ target := .collected w.heap.size, args := #[] }], V, { target := .fn (.func gf) lb, args := #[.func (.yield (w.heap.size + 1)) #[] #[]] }, V, gf, #[.func (.yield (w.heap.size + 1)) #[] #[]] ++ lb, V, ?_, ?_, ?_, ?_, fun _ => h1, ?_⟩
  · rw [← hV, hrec]
    exact run_enterLoop_outer _ _ _ _ _
  · simp only [resolve, hg]
    simp [go_sem]
  · intro f hf
    simp [Target.leads] at hf
    subst hf
    exact hF
  · simp [invoke, go_sem, eg]
  refine (hseq (w.heap.size + 1) (fun pre W => I pre W ∧ Own2 w.heap.size (rec .ready none) W) (fun pre W => ∃ c, Ix c pre W ∧ Own2 w.heap.size (rec .done (some c)) W) V hbV
    (fun s A A' row hs hg' hr => ⟨hI s A A' row hs.1 hg' (wide hr), hs.2.lives hBn hg' hr⟩)
    (fun s A A' row ⟨c, hc, ho⟩ hg' hr => ⟨c, hIx c s A A' row hc hg' (wide hr), ho.lives hBn hg' hr⟩) ?_ ⟨hIV, hO⟩).mono ?_
  · rintro pre x W ⟨hi, ho⟩ hpre
    have hy := run_yield (P := P) (args := enc x) ho.1 (by rw [hrec]; exact hps x)
    rw [hrec] at hy
    refine ⟨fn, _, assign, body, hy, roundIn_of_wpIn hfn (hassign _ pre x W _ hi fun a' Wa hkf hka hia hax => ?_)⟩
    have hla := hkf.same _ _ (by omega) ho.1 rfl
    have hda := hkf.same _ _ (Nat.le_refl _) ho.2 rfl
    have hlt := (Array.getElem?_eq_some_iff.1 hla).1
    refine ⟨_, run_beginRound hla (by rw [hrec]), ?_⟩
    obtain ⟨bz, hbz⟩ : ∃ bz : Loop, { rec .ready none with state := .busy } = bz := ⟨_, rfl⟩
    rw [hbz]
    have hlb : (Wa.putObj (w.heap.size + 1) (.loop bz)).heap[w.heap.size + 1]? = some (.loop bz) := World.putObj_heap_same hlt
    have hdb : (Wa.putObj (w.heap.size + 1) (.loop bz)).heap[w.heap.size]? = some (.deferred (some [])) := (World.putObj_heap_other (by omega)).trans hda
    have fin : ∀ (jump : Option Code) (W3 : World), KeepsFrom w.heap.size (Wa.putObj (w.heap.size + 1) (.loop bz)) W3 →
        (Instr.endRound (w.heap.size + 1) jump).run P W3 = .ok (.bool jump.isNone) (W3.putObj (w.heap.size + 1) (.loop (rec (if jump.isNone then .ready else .done) jump))) ∧
        W3.heap[w.heap.size + 1]? = some (.loop bz) ∧ Own2 w.heap.size (rec (if jump.isNone then .ready else .done) jump) (W3.putObj (w.heap.size + 1) (.loop (rec (if jump.isNone then .ready else .done) jump))) := fun jump W3 hk3 => by
      have hl3 := hk3.same _ _ (by omega) hlb rfl
      have hr := run_endRound (P := P) jump hl3
      rw [← hbz, hrec] at hr
      rw [hrec]
      exact ⟨hr, hl3, World.putObj_heap_same (Array.getElem?_eq_some_iff.1 hl3).1, (World.putObj_heap_other (by omega)).trans (hk3.same _ _ (Nat.le_refl _) hdb rfl)⟩
    refine wpIn_mono (hbody _ pre x a' _ (by omega) ⟨_, hlb⟩ (hI.put _ hia (by omega) hla rfl) ((hAx x a').put (s := ()) _ hax (by omega) hla rfl) hpre) ?_
    rintro e a3 W3 hp
    cases e with
    | normal =>
      obtain ⟨hk3, hkp3, hi3⟩ := hp
      obtain ⟨hr, hl3, ho3⟩ := fin none W3 hk3
      exact ⟨_, _, hr, .inl ⟨rfl, ⟨hI.put _ hi3 (by omega) hl3 rfl, ho3⟩, hka.trans (((turn _ _ _ hla).trans hkp3).trans (turn _ _ _ hl3))⟩⟩
    | ret =>
      obtain ⟨hr, hl3, ho3⟩ := fin (some .ret) W3 hp.1
      exact ⟨_, _, hr, .inr ⟨rfl, .ret, (hIx _).put _ hp.2 (by omega) hl3 rfl, ho3⟩⟩
    | exit id =>
      obtain ⟨hr, hl3, ho3⟩ := fin (some (.exit id)) W3 hp.1
      exact ⟨_, _, hr, .inr ⟨rfl, .exit id, (hIx _).put _ hp.2 (by omega) hl3 rfl, ho3⟩⟩
    | goto t =>
      obtain ⟨hr, hl3, ho3⟩ := fin (some (.goto t)) W3 hp.1
      exact ⟨_, _, hr, .inr ⟨rfl, .goto t, (hIx _).put _ hp.2 (by omega) hl3 rfl, ho3⟩⟩
    | panic ch => exact hp.elim
    | outgrown => exact hp.elim
  · rintro e W2 ⟨⟨v, rfl⟩, (⟨hi, ho⟩ | ⟨pre, hpre, c, hi, ho⟩)⟩
    · have hr := run_endLoop (P := P) ho.1 (by rw [hrec]; simp)
      rw [hrec] at hr
      exact ⟨none, _, hr, hdone _ _ (Nat.le_refl _) (hI.put _ hi (by omega) ho.1 rfl) ((World.putObj_heap_other (by omega)).trans ho.2)⟩
    · have hr := run_endLoop (P := P) ho.1 (by rw [hrec]; simp)
      rw [hrec] at hr
      exact ⟨some c, _, hr, hstop _ c pre _ (Nat.le_refl _) hpre ((hIx c).put _ hi (by omega) ho.1 rfl) ((World.putObj_heap_other (by omega)).trans ho.2)⟩
theorem wpIn_range_boxN {g : Operand} {ps : Array Tmp} {assign body : Code} {Q : Exit → Act → World → Prop} {a : Act} {w : World}
    {l₀ : Nat} {r₀ : Loop} (hro : F.round = some l₀) (hl₀ : w.heap[l₀]? = some (.loop r₀)) (h1 : 1 ≤ n) {gf : Nat} {lb : Array Value} (hg : a.eval g = .func (.func gf) #[] lb) (hF : F.fn gf) (eg : ∀ args w, (callFunc gf args).run P w = .ok (.enter gf args) w)
    {enc : α → Array Value} {xs : List α} (hseq : SeqB F (n - 1) P gf lb enc Bn T xs w) (hBn : Bn < w.heap.size) (hT : ∀ k, w.heap.size ≤ k → T k) (hps : ∀ x, (enc x).size = ps.size)
    (I : List α → World → Prop) (Ix : Code → List α → World → Prop) (hI : Ab Bn w.heap.size Cl I) (hIx : ∀ c, Ab Bn w.heap.size Cl (Ix c)) (h0 : I [] w)
    (Ax : α → Act → World → Prop) (hAx : ∀ x a', Ab Bn w.heap.size Cl (fun (_ : Unit) W => Ax x a' W))
    (hassign : ∀ l pre x W (K : Act → World → Prop), I pre W → (∀ a' W', KeepsFrom w.heap.size W W' → Kp T W W' → I pre W' → Ax x a' W' → K a' W') →
      assign.wpIn (F.inRound l) (n - 1 - 1) P (Exit.then K (fun _ _ _ => False)) { tmps := (ps.zip (enc x)).foldl (fun t (p, v) => t.setIfInBounds p v) a.tmps, defers := [] } W)
    (hbody : ∀ l pre x a' W, w.heap.size ≤ l → I pre W → Ax x a' W → pre ++ [x] <+: xs → body.wpIn (F.inRound l) (n - 1 - 1) P (ownPostG w.heap.size (Kp T) I Ix (pre ++ [x]) W) a' W)
    (hdone : ∀ W, I xs W → Q .normal a W)
    (hstop : ∀ c pre W, pre <+: xs → Ix c pre W → c.wpIn F n P Q a W) :
    (Code.rangeFunc g ps assign body).wpIn F n P Q a w := by
  refine wpIn_rangeFunc fun fn hfn => ?_
  rw [hro]
  obtain ⟨rec, hrec⟩ : ∃ rec : LoopState → Option Code → Loop, rec = fun st pe => { state := st, pending := pe, fn, tmps := a.tmps, params := ps, assign, body, defers := r₀.defers } := ⟨_, rfl⟩
  obtain ⟨V, hV⟩ : ∃ V, w.alloc (.loop (rec .ready none)) = V := ⟨_, rfl⟩
  have hVs : V.heap.size = w.heap.size + 1 := by rw [← hV]; simp
  have hO : Own1 w.heap.size (rec .ready none) V := by
    rw [← hV]
    exact World.alloc_heap_new w _
  have hIV : I [] V := by rw [← hV]; exact hI.alloc _ h0
  have hbV : Below w.heap.size w V := by rw [← hV]; exact (Below.refl _ w).alloc (Nat.le_refl _) _
  have wide : ∀ {A : World} {row : Option Nat}, (∀ r, row = some r → r = Bn ∨ (V.heap.size ≤ r ∧ ∃ x, A.heap[r]? = some x ∧ Wk x)) → ∀ r, row = some r → r = Bn ∨ (w.heap.size ≤ r ∧ ∃ x, A.heap[r]? = some x ∧ Cl x) := fun hr r e => by
    rcases hr r e with h | ⟨h, x, h2, h3⟩
    · exact .inl h
    · exact .inr ⟨by omega, x, h2, Obj.not_cells_of_walk h3⟩
  have turn : ∀ (W : World) (o o' : Obj), W.heap[w.heap.size]? = some o → Kp T W (W.putObj (w.heap.size) o') := fun W o o' _ => (Kp.refl T W).grown (grownBy_putObj' W _ o') (fun q e => by cases e; exact .inl (hT _ (by omega)))
  refine ⟨w.heap.size, [], V, { target := .fn (.func gf) lb, args := #[.func (.yield (w.heap.size)) #[] #[]] }, V, gf, #[.func (.yield (w.heap.size)) #[] #[]] ++ lb, V, ?_, ?_, ?_, ?_, fun _ => h1, ?_⟩
  · rw [← hV, hrec]
    exact run_enterLoop_inner hl₀ _ _ _ _ _
  · simp only [resolve, hg]
    simp [go_sem]
  · intro f hf
    simp [Target.leads] at hf
    subst hf
    exact hF
  · simp [invoke, go_sem, eg]
  refine (hseq (w.heap.size) (fun pre W => I pre W ∧ Own1 w.heap.size (rec .ready none) W) (fun pre W => ∃ c, Ix c pre W ∧ Own1 w.heap.size (rec .done (some c)) W) V hbV
    (fun s A A' row hs hg' hr => ⟨hI s A A' row hs.1 hg' (wide hr), hs.2.lives hBn hg' hr⟩)
    (fun s A A' row ⟨c, hc, ho⟩ hg' hr => ⟨c, hIx c s A A' row hc hg' (wide hr), ho.lives hBn hg' hr⟩) ?_ ⟨hIV, hO⟩).mono ?_
  · rintro pre x W ⟨hi, ho⟩ hpre
    have hy := run_yield (P := P) (args := enc x) ho (by rw [hrec]; exact hps x)
    rw [hrec] at hy
    refine ⟨fn, _, assign, body, hy, roundIn_of_wpIn hfn (hassign _ pre x W _ hi fun a' Wa hkf hka hia hax => ?_)⟩
    have hla := hkf.same _ _ (by omega) ho rfl
    have hlt := (Array.getElem?_eq_some_iff.1 hla).1
    refine ⟨_, run_beginRound hla (by rw [hrec]), ?_⟩
    obtain ⟨bz, hbz⟩ : ∃ bz : Loop, { rec .ready none with state := .busy } = bz := ⟨_, rfl⟩
    rw [hbz]
    have hlb : (Wa.putObj (w.heap.size) (.loop bz)).heap[w.heap.size]? = some (.loop bz) := World.putObj_heap_same hlt
    have fin : ∀ (jump : Option Code) (W3 : World), KeepsFrom w.heap.size (Wa.putObj (w.heap.size) (.loop bz)) W3 →
        (Instr.endRound (w.heap.size) jump).run P W3 = .ok (.bool jump.isNone) (W3.putObj (w.heap.size) (.loop (rec (if jump.isNone then .ready else .done) jump))) ∧
        W3.heap[w.heap.size]? = some (.loop bz) ∧ Own1 w.heap.size (rec (if jump.isNone then .ready else .done) jump) (W3.putObj (w.heap.size) (.loop (rec (if jump.isNone then .ready else .done) jump))) := fun jump W3 hk3 => by
      have hl3 := hk3.same _ _ (by omega) hlb rfl
      have hr := run_endRound (P := P) jump hl3
      rw [← hbz, hrec] at hr
      rw [hrec]
      exact ⟨hr, hl3, World.putObj_heap_same (Array.getElem?_eq_some_iff.1 hl3).1⟩
    refine wpIn_mono (hbody _ pre x a' _ (by omega) (hI.put _ hia (by omega) hla rfl) ((hAx x a').put (s := ()) _ hax (by omega) hla rfl) hpre) ?_
    rintro e a3 W3 hp
    cases e with
    | normal =>
      obtain ⟨hk3, hkp3, hi3⟩ := hp
      obtain ⟨hr, hl3, ho3⟩ := fin none W3 hk3
      exact ⟨_, _, hr, .inl ⟨rfl, ⟨hI.put _ hi3 (by omega) hl3 rfl, ho3⟩, hka.trans (((turn _ _ _ hla).trans hkp3).trans (turn _ _ _ hl3))⟩⟩
    | ret =>
      obtain ⟨hr, hl3, ho3⟩ := fin (some .ret) W3 hp.1
      exact ⟨_, _, hr, .inr ⟨rfl, .ret, (hIx _).put _ hp.2 (by omega) hl3 rfl, ho3⟩⟩
    | exit id =>
      obtain ⟨hr, hl3, ho3⟩ := fin (some (.exit id)) W3 hp.1
      exact ⟨_, _, hr, .inr ⟨rfl, .exit id, (hIx _).put _ hp.2 (by omega) hl3 rfl, ho3⟩⟩
    | goto t =>
      obtain ⟨hr, hl3, ho3⟩ := fin (some (.goto t)) W3 hp.1
      exact ⟨_, _, hr, .inr ⟨rfl, .goto t, (hIx _).put _ hp.2 (by omega) hl3 rfl, ho3⟩⟩
    | panic ch => exact hp.elim
    | outgrown => exact hp.elim
  · rintro e W2 ⟨⟨v, rfl⟩, (⟨hi, ho⟩ | ⟨pre, hpre, c, hi, ho⟩)⟩
    · have hr := run_endLoop (P := P) ho (by rw [hrec]; simp)
      rw [hrec] at hr
      exact ⟨none, _, hr, hdone _ (hI.put _ hi (by omega) ho rfl)⟩
    · have hr := run_endLoop (P := P) ho (by rw [hrec]; simp)
      rw [hrec] at hr
      exact ⟨some c, _, hr, hstop c pre _ hpre ((hIx c).put _ hi (by omega) ho rfl)⟩
end
end Go.Proofs.Ytmheabnpkbhadaa.Rb
