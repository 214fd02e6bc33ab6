/- The reference's log: two slices of its own, and the last number. -/
import Derived.Test.YtlaolclepmbdjaaIte
import Derived.Test.YtlaolclepmbdjaaCk2
import Derived.Test.YtlaolclepmbdjaaSq2
import Derived.Deep.DeepCutAuto
namespace Go.Proofs.Ytlaolclepmbdjaa.Rl
open Go.RowKit Go.Proofs.Ytlaolclepmbdjaa.Bk Go.Proofs.Ytlaolclepmbdjaa.Rw Go.Proofs.Ytlaolclepmbdjaa.Ow Go.Proofs.Ytlaolclepmbdjaa.Kp Go.Proofs.Ytlaolclepmbdjaa.Ck Go.Proofs.Ytlaolclepmbdjaa.Ck2 Go.Proofs.Ytlaolclepmbdjaa.Evr Go.Proofs.Ytlaolclepmbdjaa.Label Go.Proofs.Ytlaolclepmbdjaa.Sq2

/-- A slice of one-cell elements, its block from B1 on. -/
def Sv (w : World) (B1 : Nat) (A : Option Addr) (n c : Nat) (xs : List Value) : Prop :=
  xs.length = n ∧ n ≤ c ∧ c ≤ maxLen ∧ (0 < n → ∃ b o, A = some ⟨b, o, none⟩ ∧ B1 ≤ b ∧ b < w.heap.size ∧ ∀ j u, xs[j]? = some u → w.cell? ⟨b, o + j, none⟩ = some u)
section
variable {w w' : World} {B1 n c : Nat} {A : Option Addr} {xs : List Value}
theorem Sv.nil (w : World) (B1 : Nat) : Sv w B1 none 0 0 [] := ⟨rfl, Nat.le_refl _, Nat.zero_le _, fun h => absurd h (by decide)⟩
theorem Sv.kp {S : Nat → Prop} (h : Sv w B1 A n c xs) (hk : Kp S w w') (hS : ∀ k, B1 ≤ k → ¬ S k) : Sv w' B1 A n c xs := by
  obtain ⟨h1, h2, h3, h4⟩ := h
  refine ⟨h1, h2, h3, fun hn => ?_⟩
  obtain ⟨b, o, hA, hb, hl, hc⟩ := h4 hn
  exact ⟨b, o, hA, hb, Nat.lt_of_lt_of_le hl hk.size, fun j u hu => (World.cell?_of_block (hk.block b hl (hS b hb))).trans (hc j u hu)⟩
theorem Sv.below (h : Sv w B1 A n c xs) (hb : Below w.heap.size w w') : Sv w' B1 A n c xs := h.kp (S := fun _ => False) (Kp.of_below hb) (fun _ _ h => h)
theorem Sv.alloc (h : Sv w B1 A n c xs) (o : Obj) : Sv (w.alloc o) B1 A n c xs := h.below ((Below.refl _ _).alloc (Nat.le_refl _) _)
theorem Sv.drew (h : Sv w B1 A n c xs) : Sv w.drew B1 A n c xs := h.kp (S := fun _ => False) (Kp.refl _ _).drew (fun _ _ h => h)
theorem add_none (b o j : Nat) : (⟨b, o, none⟩ : Addr).add j = ⟨b, o + j, none⟩ := by unfold Addr.add; split <;> simp_all
theorem Sv.reads (h : Sv w B1 A n c xs) : Reads w w.heap.size 1 A n xs := by
  obtain ⟨h1, h2, h3, h4⟩ := h
  refine ⟨by omega, fun hn => ?_⟩
  obtain ⟨b, o, hA, hb, hl, hc⟩ := h4 hn
  exact ⟨_, hA, hl, fun j u hu => by rw [add_none]; exact hc j u hu⟩
theorem Sv.of_own {base : Nat} {e : TypeId} (h : w.ownsRow base e 1 (.slice A n c) n xs) (hB : B1 ≤ base) : Sv w B1 A n c xs := by
  have h1 := h.1
  rw [Nat.mul_one] at h1
  rcases h.2 with ⟨h2, h3⟩ | ⟨g, c', cur, h2, h3, h4, h5, h6, h7, h8⟩
  · injection h2 with _ _ h2
    subst h2
    have : n = 0 := h3
    exact ⟨by omega, by omega, Nat.zero_le _, fun h => absurd h (by omega)⟩
  · injection h2 with hA _ hc
    subst hc hA
    refine ⟨by omega, h5, h6, fun hn => ⟨g, 0, rfl, by omega, (Array.getElem?_eq_some_iff.1 h4).1, fun j u hu => ?_⟩⟩
    have hj : j < xs.length := (List.getElem?_eq_some_iff.1 hu).1
    rw [Nat.zero_add, World.ownsRow.cellAt h j (by omega), hu]
theorem Sv.at_ (h : Sv w B1 A n c xs) {j : Nat} (hj : j < n) : ∃ b o, A = some ⟨b, o, none⟩ ∧ B1 ≤ b ∧ b < w.heap.size ∧ w.cell? ⟨b, o + j, none⟩ = some (xs[j]?.getD undef) := by
  obtain ⟨h1, h2, h3, h4⟩ := h
  obtain ⟨b, o, hA, hb, hl, hc⟩ := h4 (by omega)
  refine ⟨b, o, hA, hb, hl, hc j _ ?_⟩
  rw [List.getElem?_eq_getElem (show j < xs.length by omega)]
  rfl
theorem Sv.tail {b o : Nat} {x : Value} (h : Sv w B1 (some ⟨b, o, none⟩) (n + 1) c (x :: xs)) (_hc : ¬ c = 1) : Sv w B1 (some ⟨b, o + 1, none⟩) n (c - 1) xs := by
  obtain ⟨h1, h2, h3, h4⟩ := h
  rw [List.length_cons] at h1
  obtain ⟨b', o', hA, hb, hl, hcc⟩ := h4 (by omega)
  injection hA with hA
  injection hA with e1 e2 _
  subst e1 e2
  refine ⟨by omega, by omega, by omega, fun hn => ⟨b, o + 1, rfl, hb, hl, fun j u hu => ?_⟩⟩
  rw [Nat.add_assoc, Nat.add_comm 1 j]
  exact hcc (j + 1) u (by simpa using hu)
theorem Sv.tail1 {x : Value} (h : Sv w B1 A (n + 1) c (x :: xs)) (hc : c = 1) : Sv w B1 A n 0 xs := by
  obtain ⟨h1, h2, h3, h4⟩ := h
  rw [List.length_cons] at h1
  exact ⟨by omega, by omega, Nat.zero_le _, fun hn => by omega⟩
end
def vi (q : List Ev) : List Value := q.map fun e => .int .i64 e.id
def vl (q : List Ev) : List Value := q.map fun e => .string e.lab
/-- The reference's log at m. -/
def Rl (w : World) (B1 m : Nat) (q : List Ev) (last : Int) : Prop :=
  ∃ A c A2 c2, Blk w m 49 #[.slice A q.length c, .slice A2 q.length c2, .int .i64 last] ∧ Sv w B1 A q.length c (vi q) ∧ Sv w B1 A2 q.length c2 (vl q)
section
variable {w w' : World} {B1 m : Nat} {q : List Ev} {last : Int}
theorem Rl.lt (h : Rl w B1 m q last) : m < w.heap.size := let ⟨_, _, _, _, h1, _⟩ := h; h1.lt
theorem Rl.kp {S : Nat → Prop} (h : Rl w B1 m q last) (hk : Kp S w w') (hm : ¬ S m) (hS : ∀ k, B1 ≤ k → ¬ S k) : Rl w' B1 m q last :=
  let ⟨A, c, A2, c2, h1, h2, h3⟩ := h; ⟨A, c, A2, c2, blk_kp h1 hk hm, h2.kp hk hS, h3.kp hk hS⟩
theorem Rl.below (h : Rl w B1 m q last) (hb : Below w.heap.size w w') : Rl w' B1 m q last := h.kp (S := fun _ => False) (Kp.of_below hb) (fun h => h) (fun _ _ h => h)
theorem Rl.alloc (h : Rl w B1 m q last) (o : Obj) : Rl (w.alloc o) B1 m q last := h.below ((Below.refl _ _).alloc (Nat.le_refl _) _)
theorem Rl.drew (h : Rl w B1 m q last) : Rl w.drew B1 m q last := h.kp (S := fun _ => False) (Kp.refl _ _).drew (fun h => h) (fun _ _ h => h)
end
theorem ret_rtake (Q : Ending → World → Prop) (a : Act) (W : World) (x : Int) (s : ByteArray) (ok : Bool) (h2 : a.tmps.getD 2 undef = .int .i64 x) (h3 : a.tmps.getD 3 undef = .string s) (h4 : a.tmps.getD 4 undef = .bool ok) (hd : a.defers = [])
    (hq : Q (.returned (.tuple #[.int .i64 x, .string s, .bool ok])) W) : bodyPost Try.prog Try.f16 Q .ret a W := by
  obtain ⟨tmps, defers⟩ := a
  simp only at h2 h3 h4 hd
  subst hd
  rw [Array.getD_eq_getD_getElem?] at h2 h3 h4
  refine bodyPost_ret (v := .tuple #[.int .i64 x, .string s, .bool ok]) ?_ rfl hq
  simp [results, Try.results16, go_sem, h2, h3, h4]
set_option maxRecDepth 100000 in
theorem rtake_none (B1 m : Nat) (last : Int) (w : World) (h : Rl w B1 m [] last) :
    Calls Try.prog 16 #[.pointer (some ⟨m, 0, none⟩)] w fun e w' => e = .returned (.tuple #[.int .i64 0, .string ByteArray.empty, .bool false]) ∧ w = w' := by
  obtain ⟨A, c, A2, c2, h1, _⟩ := h
  have c0 := h1.cell 0
  clear h1
  go_enter Try.func16, Try.ntmps16
  go_wp2
  exact ret_rtake _ _ _ _ _ _ rfl rfl rfl rfl ⟨rfl, rfl⟩
set_option maxRecDepth 100000 in
set_option maxHeartbeats 1000000 in
theorem rtake_ok (B1 m : Nat) (e : Ev) (q : List Ev) (last : Int) (w : World) (h : Rl w B1 m (e :: q) last) (hm : m < B1) :
    Calls Try.prog 16 #[.pointer (some ⟨m, 0, none⟩)] w fun x w' => x = .returned (.tuple #[.int .i64 e.id, .string e.lab, .bool true]) ∧ Rl w' B1 m q last ∧ Kp (fun k => k = m) w w' := by
  obtain ⟨A, c, A2, c2, h1, h2, h3⟩ := h
  simp only [List.length_cons] at h1 h2 h3
  obtain ⟨b, o, rfl, hb, hl, hc⟩ := h2.at_ (j := 0) (by omega)
  obtain ⟨b2, o2, rfl, hb2, hl2, hc2⟩ := h3.at_ (j := 0) (by omega)
  have l0 : w.cell? ⟨b, o, none⟩ = some (.int .i64 e.id) := hc
  have l1 : w.cell? ⟨b2, o2, none⟩ = some (.string e.lab) := hc2
  have c0 := h1.cell 0
  have c1 := h1.cell 1
  have f0 := h1.frozen 0
  have f1 := h1.frozen 1
  have n1 : (1 : Int) ≤ (c : Int) := by have := h2.2.1; omega
  have n2 : (1 : Int) ≤ (c2 : Int) := by have := h3.2.1; omega
  have H1 := Lib.hid h1
  have H2 := Lib.hid (show Sv w B1 (some ⟨b, o, none⟩) (q.length + 1) c (.int .i64 e.id :: vi q) from h2)
  have H3 := Lib.hid (show Sv w B1 (some ⟨b2, o2, none⟩) (q.length + 1) c2 (.string e.lab :: vl q) from h3)
  have n0 : ¬ ((q.length : Int) + 1 = 0) := by omega
  clear h1 h2 h3 hc hc2
  go_enter Try.func16, Try.ntmps16
  go_wp2_with fail
  go_region
  go_wp2
  · rename_i hx hc1
    have hc2 := h
    have h1 := H1.out
    refine ret_rtake _ _ _ e.id e.lab true rfl rfl rfl rfl ⟨rfl, ?_, by (repeat (first | (with_reducible assumption) | (with_reducible apply Kp.drew) | ((with_reducible apply kp_set); (focus (first | exact .inl rfl | (right; (try simp only [size_set, size_drew, World.size_alloc]); omega)))) | (with_reducible apply Kp.alloc) | (with_reducible exact Kp.refl _ _)))⟩
    exact ⟨_, _, _, _, by ((repeat (first | (with_reducible assumption) | (with_reducible apply Blk.drew) | (with_reducible apply set_at2) | ((with_reducible apply set_far); (focus omega)) | (with_reducible apply Blk.alloc))); all_goals rfl), (H2.out.tail1 hc1).kp (S := fun k => k = m) (by (repeat (first | (with_reducible assumption) | (with_reducible apply Kp.drew) | ((with_reducible apply kp_set); (focus (first | exact .inl rfl | (right; (try simp only [size_set, size_drew, World.size_alloc]); omega)))) | (with_reducible apply Kp.alloc) | (with_reducible exact Kp.refl _ _)))) (by omega), (H3.out.tail1 hc2).kp (S := fun k => k = m) (by (repeat (first | (with_reducible assumption) | (with_reducible apply Kp.drew) | ((with_reducible apply kp_set); (focus (first | exact .inl rfl | (right; (try simp only [size_set, size_drew, World.size_alloc]); omega)))) | (with_reducible apply Kp.alloc) | (with_reducible exact Kp.refl _ _)))) (by omega)⟩
  · rename_i hx hc1
    have hc2 := h
    have h1 := H1.out
    refine ret_rtake _ _ _ e.id e.lab true rfl rfl rfl rfl ⟨rfl, ?_, by (repeat (first | (with_reducible assumption) | (with_reducible apply Kp.drew) | ((with_reducible apply kp_set); (focus (first | exact .inl rfl | (right; (try simp only [size_set, size_drew, World.size_alloc]); omega)))) | (with_reducible apply Kp.alloc) | (with_reducible exact Kp.refl _ _)))⟩
    exact ⟨_, _, _, _, by ((repeat (first | (with_reducible assumption) | (with_reducible apply Blk.drew) | (with_reducible apply set_at2) | ((with_reducible apply set_far); (focus omega)) | (with_reducible apply Blk.alloc))); all_goals rfl), (H2.out.tail1 hc1).kp (S := fun k => k = m) (by (repeat (first | (with_reducible assumption) | (with_reducible apply Kp.drew) | ((with_reducible apply kp_set); (focus (first | exact .inl rfl | (right; (try simp only [size_set, size_drew, World.size_alloc]); omega)))) | (with_reducible apply Kp.alloc) | (with_reducible exact Kp.refl _ _)))) (by omega), (H3.out.tail hc2).kp (S := fun k => k = m) (by (repeat (first | (with_reducible assumption) | (with_reducible apply Kp.drew) | ((with_reducible apply kp_set); (focus (first | exact .inl rfl | (right; (try simp only [size_set, size_drew, World.size_alloc]); omega)))) | (with_reducible apply Kp.alloc) | (with_reducible exact Kp.refl _ _)))) (by omega)⟩
  · rename_i hx hc1
    have hc2 := h
    have h1 := H1.out
    refine ret_rtake _ _ _ e.id e.lab true rfl rfl rfl rfl ⟨rfl, ?_, by (repeat (first | (with_reducible assumption) | (with_reducible apply Kp.drew) | ((with_reducible apply kp_set); (focus (first | exact .inl rfl | (right; (try simp only [size_set, size_drew, World.size_alloc]); omega)))) | (with_reducible apply Kp.alloc) | (with_reducible exact Kp.refl _ _)))⟩
    exact ⟨_, _, _, _, by ((repeat (first | (with_reducible assumption) | (with_reducible apply Blk.drew) | (with_reducible apply set_at2) | ((with_reducible apply set_far); (focus omega)) | (with_reducible apply Blk.alloc))); all_goals rfl), (H2.out.tail hc1).kp (S := fun k => k = m) (by (repeat (first | (with_reducible assumption) | (with_reducible apply Kp.drew) | ((with_reducible apply kp_set); (focus (first | exact .inl rfl | (right; (try simp only [size_set, size_drew, World.size_alloc]); omega)))) | (with_reducible apply Kp.alloc) | (with_reducible exact Kp.refl _ _)))) (by omega), (H3.out.tail1 hc2).kp (S := fun k => k = m) (by (repeat (first | (with_reducible assumption) | (with_reducible apply Kp.drew) | ((with_reducible apply kp_set); (focus (first | exact .inl rfl | (right; (try simp only [size_set, size_drew, World.size_alloc]); omega)))) | (with_reducible apply Kp.alloc) | (with_reducible exact Kp.refl _ _)))) (by omega)⟩
  · rename_i hx hc1
    have hc2 := h
    have h1 := H1.out
    refine ret_rtake _ _ _ e.id e.lab true rfl rfl rfl rfl ⟨rfl, ?_, by (repeat (first | (with_reducible assumption) | (with_reducible apply Kp.drew) | ((with_reducible apply kp_set); (focus (first | exact .inl rfl | (right; (try simp only [size_set, size_drew, World.size_alloc]); omega)))) | (with_reducible apply Kp.alloc) | (with_reducible exact Kp.refl _ _)))⟩
    exact ⟨_, _, _, _, by ((repeat (first | (with_reducible assumption) | (with_reducible apply Blk.drew) | (with_reducible apply set_at2) | ((with_reducible apply set_far); (focus omega)) | (with_reducible apply Blk.alloc))); all_goals rfl), (H2.out.tail hc1).kp (S := fun k => k = m) (by (repeat (first | (with_reducible assumption) | (with_reducible apply Kp.drew) | ((with_reducible apply kp_set); (focus (first | exact .inl rfl | (right; (try simp only [size_set, size_drew, World.size_alloc]); omega)))) | (with_reducible apply Kp.alloc) | (with_reducible exact Kp.refl _ _)))) (by omega), (H3.out.tail hc2).kp (S := fun k => k = m) (by (repeat (first | (with_reducible assumption) | (with_reducible apply Kp.drew) | ((with_reducible apply kp_set); (focus (first | exact .inl rfl | (right; (try simp only [size_set, size_drew, World.size_alloc]); omega)))) | (with_reducible apply Kp.alloc) | (with_reducible exact Kp.refl _ _)))) (by omega)⟩
set_option maxRecDepth 100000 in
theorem rtag_bad (m : Nat) (s : ByteArray) (hs : s.size ≤ 140737488355328) (hl : Lab s = false) (w : World) :
    Calls Try.prog 15 #[.pointer (some ⟨m, 0, none⟩), .string s] w fun e w' => e = .returned (.tuple #[.int .i64 0, .int .i64 1]) ∧ Below w.heap.size w w' := by
  have CG := Lib.hid (fun w => hl ▸ refgood_ok s w hs)
  clear hl
  go_enter Try.func15, Try.ntmps15
  go_wp2_with (go_at_call 8; (with_reducible refine Calls.mono (CG.out _) ?_); rintro e w1 ⟨rfl, hb⟩)
  go_ret2
  exact ⟨rfl, by subst hb; exact Below.refl _ _⟩
set_option maxRecDepth 100000 in
theorem rtag_full (B1 m : Nat) (q : List Ev) (last : Int) (s : ByteArray) (hs : s.size ≤ 140737488355328) (hl : Lab s = true) (w : World) (h : Rl w B1 m q last) (hq : 16 ≤ q.length) :
    Calls Try.prog 15 #[.pointer (some ⟨m, 0, none⟩), .string s] w fun e w' => e = .returned (.tuple #[.int .i64 0, .int .i64 6]) ∧ Below w.heap.size w w' := by
  have CG := Lib.hid (fun w => hl ▸ refgood_ok s w hs)
  have H := Lib.hid h
  have n1 : (16 : Int) ≤ (q.length : Int) := by omega
  clear hl h
  go_enter Try.func15, Try.ntmps15
  go_wp2_with fail
  refine (CG.out _).mono ?_
  rintro e w1 ⟨rfl, rfl⟩
  obtain ⟨A, c, A2, c2, h1, _⟩ := H.out
  have c0 := h1.cell 0
  clear h1
  go_wp2
  go_ret2
  exact ⟨rfl, Below.refl _ _⟩
end Go.Proofs.Ytlaolclepmbdjaa.Rl
