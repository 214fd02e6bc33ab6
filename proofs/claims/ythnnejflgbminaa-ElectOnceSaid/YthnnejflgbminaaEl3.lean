/- The walks of elect's functions: Issue, Mark, Hear. -/
import Derived.Test.YthnnejflgbminaaEl2
namespace Go.Proofs.Ythnnejflgbminaa.El
open Go.RowKit Go.Proofs.Ythnnejflgbminaa.Bk Go.Proofs.Ythnnejflgbminaa.Rw Go.Proofs.Ythnnejflgbminaa.Ow Go.Proofs.Ythnnejflgbminaa.Kp Go.Proofs.Ythnnejflgbminaa.Sq Go.Proofs.Ythnnejflgbminaa.Ck Go.Proofs.Ythnnejflgbminaa.Ck2 Go.Proofs.Ythnnejflgbminaa.Mp

theorem cells2 {w : World} {b : Nat} {t : TypeId} {x0 x1 : Value} (h : Blk w b t #[x0, x1]) : w.cell? ⟨b, 0, none⟩ = some x0 ∧ w.cell? ⟨b, 1, none⟩ = some x1 ∧ w.frozen? ⟨b, 0, none⟩ = false ∧ w.frozen? ⟨b, 1, none⟩ = false := ⟨h.cell 0, h.cell 1, h.frozen 0, h.frozen 1⟩
theorem issue_yes (p bm : Nat) (me t g : Int) (s : St) (w : World) (h : Nd w p me t g s bm) (hm : (s.root == me) = true) : Calls Try.prog 16 #[.pointer (some ⟨p, 0, none⟩)] w fun e w' => e = .returned (.tuple #[mk (s.boot, IntKind.u16.wrap (s.seq + 1)), .bool true]) ∧ Nd w' p me t g { s with seq := IntKind.u16.wrap (s.seq + 1) } bm ∧ Kp (fun k => k = p) w w' := by
  have HM := Lib.hid (hm ▸ mine_ok p bm me t g s _ (h.alloc (.cells #[.int .u16 0, .int .u16 0] 32)))
  obtain ⟨sb, ss, sr, sbe, sq⟩ := s
  dsimp only
  obtain ⟨s1, hs1⟩ : ∃ s1, IntKind.u16.wrap (ss + 1) = s1 := ⟨_, rfl⟩
  have HN := Lib.hid (fun w => hs1 ▸ wnext_ok ss w)
  rw [hs1]
  have hp := h.lt
  have hx := cells9 (h.alloc (.cells #[.int .u16 0, .int .u16 0] 32)).drew
  obtain ⟨⟨c0, c1, c2, c3, c4, c5, c6, c7, c8⟩, f0, f1, f2, f3, f4, f5, f6, f7, f8⟩ := hx
  have H := Lib.hid h
  clear h hm hs1
  go_enter Try.func16, Try.ntmps16
  go_wp2_with (first | (go_at_call 14; (with_reducible refine Calls.mono HM.out ?_); rintro e w1 ⟨rfl, rfl⟩) | (go_at_call 28; (with_reducible refine Calls.mono (HN.out _) ?_); rintro e w1 ⟨rfl, rfl⟩))
  have h := H.out
  have h1 : Nd ((w.setCell ⟨p, 4, none⟩ (.int .u16 s1)).alloc (.cells #[.int .u16 0, .int .u16 0] 32)).drew p me t g ⟨sb, s1, sr, sbe, sq⟩ bm := by ((repeat (first | (with_reducible assumption) | (with_reducible apply Blk.drew) | (with_reducible apply set_at2) | ((with_reducible apply set_far); (focus omega)) | (with_reducible apply Blk.alloc))); all_goals rfl)
  have h2 : Kp (fun k => k = p) w ((w.setCell ⟨p, 4, none⟩ (.int .u16 s1)).alloc (.cells #[.int .u16 0, .int .u16 0] 32)).drew := by (repeat (first | (with_reducible assumption) | (with_reducible apply Kp.drew) | ((with_reducible apply kp_set); (focus (first | exact .inl rfl | (right; (try simp only [size_set, size_drew, World.size_alloc]); omega)))) | (with_reducible apply Kp.alloc) | (with_reducible exact Kp.refl _ _)))
  have h3 : Blk ((w.setCell ⟨p, 4, none⟩ (.int .u16 s1)).alloc (.cells #[.int .u16 0, .int .u16 0] 32)).drew w.heap.size 32 #[.int .u16 0, .int .u16 0] := (new_at (size_set _ _).symm).drew
  clear h H HM HN c0 c1 c2 c3 c4 c5 c6 c7 c8 f0 f1 f2 f3 f4 f5 f6 f7 f8
  generalize ((w.setCell ⟨p, 4, none⟩ (.int .u16 s1)).alloc (.cells #[.int .u16 0, .int .u16 0] 32)).drew = w1 at h1 h2 h3 ⊢
  have hb : w.heap.size ≤ w.heap.size := Nat.le_refl _
  have HP := Lib.hid h1
  have HK := Lib.hid h2
  have HE := Lib.hid h3
  obtain ⟨b, hbb⟩ : ∃ b, w.heap.size = b := ⟨_, rfl⟩
  rw [hbb] at HE h3 ⊢
  have HW := Lib.hid (show w.heap.size ≤ b by omega)
  have hpb : ¬ p = b := by omega
  have hx := cells9 h1
  obtain ⟨⟨c0, c1, c2, c3, c4, c5, c6, c7, c8⟩, _⟩ := hx
  have hy := cells2 h3
  obtain ⟨y0, y1, y2, y3⟩ := hy
  clear h1 h2 h3 hb hbb hp
  go_region
  go_wp2
  have h := HP.out
  have hk := HK.out
  have he := HE.out
  have hw := HW.out
  refine ret_issue _ _ _ b sb s1 true rfl rfl rfl ?_ ⟨rfl, ?_, ?_⟩
  · ((repeat (first | (with_reducible assumption) | (with_reducible apply Blk.drew) | (with_reducible apply set_at2) | ((with_reducible apply set_far); (focus omega)) | (with_reducible apply Blk.alloc))); all_goals rfl)
  · ((repeat (first | (with_reducible assumption) | (with_reducible apply Blk.drew) | (with_reducible apply set_at2) | ((with_reducible apply set_far); (focus omega)) | (with_reducible apply Blk.alloc))); all_goals rfl)
  · (repeat (first | (with_reducible assumption) | (with_reducible apply Kp.drew) | ((with_reducible apply kp_set); (focus (first | exact .inl rfl | (right; (try simp only [size_set, size_drew, World.size_alloc]); omega)))) | (with_reducible apply Kp.alloc) | (with_reducible exact Kp.refl _ _)))
theorem mark_own (p bm : Nat) (me t g : Int) (s : St) (w : World) (h : Nd w p me t g s bm) (hr : ¬ s.root < 0) (hm : (s.root == me) = true) : Calls Try.prog 17 #[.pointer (some ⟨p, 0, none⟩)] w fun e w' => e = .returned (.tuple #[mk (s.boot, s.seq), .bool (decide (0 < s.seq))]) ∧ Below w.heap.size w w' := by
  have HM := Lib.hid (hm ▸ mine_ok p bm me t g s _ (h.alloc (.cells #[.int .u16 0, .int .u16 0] 32)))
  have hx := cells9 (h.alloc (.cells #[.int .u16 0, .int .u16 0] 32))
  obtain ⟨⟨c0, c1, c2, c3, c4, c5, c6, c7, c8⟩, f0, f1, f2, f3, f4, f5, f6, f7, f8⟩ := hx
  have H := Lib.hid h
  clear h hm
  go_enter Try.func17, Try.ntmps17
  go_wp2_with (first | (go_at_call 14; (with_reducible refine Calls.mono HM.out ?_); rintro e w1 ⟨rfl, rfl⟩))
  have hy := cells2 (Blk.new w 32 #[.int .u16 0, .int .u16 0])
  obtain ⟨y0, y1, y2, y3⟩ := hy
  have hx := cells9 (H.out.alloc (.cells #[.int .u16 s.boot, .int .u16 s.seq] 32))
  obtain ⟨⟨a0, a1, a2, a3, a4, a5, a6, a7, a8⟩, _⟩ := hx
  have HB := Lib.hid (below_drew (below_drew ((Below.refl w.heap.size w).alloc (Nat.le_refl _) (.cells #[.int .u16 s.boot, .int .u16 s.seq] 32))))
  go_region
  go_wp2
  exact ret_mark _ _ _ w.heap.size s.boot s.seq (decide (0 < s.seq)) rfl rfl rfl (Blk.new _ _ _).drew.drew ⟨rfl, HB.out⟩
theorem mark_heard (p bm n : Nat) (f : Int → Option (Int × Int)) (me t g : Int) (s : St) (w : World) (h : Nd w p me t g s bm) (hf : Mp w bm n f) (hr : ¬ s.root < 0) (hr2 : s.root ≤ 9223372036854775807) (hm : (s.root == me) = false) : Calls Try.prog 17 #[.pointer (some ⟨p, 0, none⟩)] w fun e w' => e = .returned (.tuple #[mk ((f s.root).getD (0, 0)), .bool true]) ∧ Below w.heap.size w w' := by
  have HM := Lib.hid (hm ▸ mine_ok p bm me t g s _ (h.alloc (.cells #[.int .u16 0, .int .u16 0] 32)))
  have hwf : (Lit.int .i64 s.root).wf = true := WalkArith.wf_i64 (by omega)
  have hl := ((hf.alloc (.cells #[.int .u16 0, .int .u16 0] 32)).drew.drew).look hwf
  obtain ⟨v, hv⟩ : ∃ v, (f s.root).getD (0, 0) = v := ⟨_, rfl⟩
  rw [hv] at hl ⊢
  have hx := cells9 (h.alloc (.cells #[.int .u16 0, .int .u16 0] 32))
  obtain ⟨⟨c0, c1, c2, c3, c4, c5, c6, c7, c8⟩, f0, f1, f2, f3, f4, f5, f6, f7, f8⟩ := hx
  have H := Lib.hid h
  clear h hm hf hv
  go_enter Try.func17, Try.ntmps17
  go_wp2_with (first | (go_at_call 14; (with_reducible refine Calls.mono HM.out ?_); rintro e w1 ⟨rfl, rfl⟩))
  have hy := cells2 (Blk.new w 32 #[.int .u16 0, .int .u16 0])
  obtain ⟨y0, y1, y2, y3⟩ := hy
  go_region
  have HB := Lib.hid (below_drew (below_drew ((Below.refl w.heap.size w).alloc (Nat.le_refl _) (.cells #[.int .u16 v.1, .int .u16 v.2] 32))))
  go_wp2
  exact ret_mark _ _ _ w.heap.size v.1 v.2 true rfl rfl rfl (Blk.new _ _ _).drew.drew ⟨rfl, HB.out⟩
end Go.Proofs.Ythnnejflgbminaa.El
