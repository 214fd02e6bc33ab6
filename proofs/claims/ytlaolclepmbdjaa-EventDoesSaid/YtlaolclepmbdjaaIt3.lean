/- All of a log, at every loop body that keeps what lay. -/
import Derived.Test.YtlaolclepmbdjaaIte
import Derived.Test.YtlaolclepmbdjaaCl
namespace Go.Proofs.Ytlaolclepmbdjaa.It
open Go.RowKit Go.Shelf Go.Proofs.Ytlaolclepmbdjaa.Bk Go.Proofs.Ytlaolclepmbdjaa.Rw Go.Proofs.Ytlaolclepmbdjaa.Ow Go.Proofs.Ytlaolclepmbdjaa.Kp Go.Proofs.Ytlaolclepmbdjaa.Evr Go.Proofs.Ytlaolclepmbdjaa.Evt Go.Proofs.Ytlaolclepmbdjaa.Cl Go.Proofs.Ytlaolclepmbdjaa.Si
attribute [local go_sem] Oper.semAt_some

/-- A log, or none with nothing in it; its ring not among the blocks of T. -/
def Ll (w : World) (T : Nat → Prop) (l0 : Option Addr) (q : List Ev) : Prop :=
  (l0 = none ∧ q = []) ∨ ∃ l p g n, l0 = some ⟨l, 0, none⟩ ∧ Lg w l p g q n ∧ ¬ T p ∧ ¬ T g
theorem lall_ok (l p g n : Nat) (q : List Ev) (w : World) (h : Lg w l p g q n) :
    Calls Try.prog 22 #[.pointer (some ⟨l, 0, none⟩)] w fun e w' => e = .returned (.func (.func 25) #[] #[.pointer (some ⟨w.heap.size, 0, none⟩)]) ∧ w' = w.alloc (.cells #[.pointer (some ⟨p, 0, none⟩)] 55) := by
  have c0 := h.box.cell 0
  clear h
  go_enter Try.func22, Try.ntmps22
  go_wp2_with (go_at_call 24; (with_reducible refine Calls.mono (all_ok _ _) ?_); rintro e w1 ⟨rfl, rfl⟩)
  go_ret
  exact ⟨rfl, rfl⟩
theorem lall1_nil (n : Nat) (_hn : 1 ≤ n) (l : Nat) (W : World) : CallsIn Fence.wide n Try.prog 23 #[.func (.yield l) #[] #[]] W fun e W' => (∃ v, e = .returned v) ∧ W' = W := by
  have hfn : Fence.wide.fn 23 := trivial
  refine callsIn_of_wp Try.func23 rfl hfn ?_ rfl
  gi_wp2
  go_end0
  exact ⟨⟨_, rfl⟩, rfl⟩
/-- What All gives back, nil let in. -/
theorem all_gen (T0 : Nat → Prop) (l0 : Option Addr) (q : List Ev) (w : World) (h : Ll w (fun k => T0 k ∨ w.heap.size ≤ k) l0 q) (h0 : ∀ k, T0 k → k < w.heap.size) :
    Calls Try.prog 22 #[.pointer l0] w fun e w' => ∃ gf lb T, e = .returned (.func (.func gf) #[] lb) ∧ (∀ args W, (callFunc gf args).run Try.prog W = .ok (.enter gf args) W) ∧
      SeqStopsK Fence.wide 2 Try.prog gf lb (fun x : Ev => #[x.v]) (Kp T) (fun ys => ys = q) (fun pre => pre <+: q) q.length w' ∧ (∀ k, T0 k → T k) ∧ (∀ k, w'.heap.size ≤ k → T k) ∧ Below w.heap.size w w' := by
  rcases h with ⟨rfl, rfl⟩ | ⟨l, p, g, n, rfl, hL, hp, hg⟩
  · refine (lall_nil w).mono ?_
    rintro e w' ⟨rfl, rfl⟩
    refine ⟨23, #[], fun _ => True, rfl, enters_of Try.func23 (by kernel_rfl) rfl, ?_, fun _ _ => trivial, fun _ _ => trivial, Below.refl _ _⟩
    intro l J Jx W hW hJ _ hY h0
    refine (lall1_nil 2 (by decide) l W).mono ?_
    rintro e W' ⟨hv, rfl⟩
    exact ⟨hv, .inl ⟨_, rfl, h0⟩⟩
  · refine (lall_ok l p g n q w hL).mono ?_
    rintro e w' ⟨rfl, rfl⟩
    have hlt := hL.ring.lt
    refine ⟨25, _, fun k => T0 k ∨ w.heap.size + 1 ≤ k, rfl, enters_of Try.func25 (by kernel_rfl) rfl, ?_, fun k hk => .inl hk, fun k hk => .inr (by rw [World.size_alloc] at hk; exact hk), (Below.refl _ _).alloc (Nat.le_refl _) _⟩
    have hb1 : Below w.heap.size w (w.alloc (.cells #[.pointer (some ⟨p, 0, none⟩)] 55)) := (Below.refl _ _).alloc (Nat.le_refl _) _
    have hN : Blk (w.alloc (.cells #[.pointer (some ⟨p, 0, none⟩)] 55)) w.heap.size 55 #[.pointer (some ⟨p, 0, none⟩)] := Blk.new _ _ _
    have hR := (hL.below hb1).ring
    intro l J Jx W hW hJ _ hY h0'
    obtain ⟨f, cs, hcs, hb, hgb, hpg, hf, hle, hcell⟩ := hR
    exact all1_in 2 (by decide) l w.heap.size p g 16 f _ cs q J Jx _ hJ (by rintro (h | h); exact hp (.inl h); omega) (by rintro (h | h); exact hg (.inl h); omega) (by rintro (h | h); have := h0 _ h; omega; omega) hf (by decide) hle hcs hpg hcell hY W (hN.keeps hW) (hb.keeps hW) (hgb.keeps hW) h0'
end Go.Proofs.Ytlaolclepmbdjaa.It
