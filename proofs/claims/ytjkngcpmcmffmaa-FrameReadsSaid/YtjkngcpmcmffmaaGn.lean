/- Good, size, Encode: of any frame whose kind and fields are known. -/
import Derived.Test.YtjkngcpmcmffmaaFr
import Derived.Test.YtjkngcpmcmffmaaPn
import Derived.Test.YtjkngcpmcmffmaaCr
namespace Go.Proofs.Ytjkngcpmcmffmaa.Gn
open Go.RowKit Go.Proofs.Ytjkngcpmcmffmaa.Bk Go.Proofs.Ytjkngcpmcmffmaa.Rw Go.Proofs.Ytjkngcpmcmffmaa.Ow Go.Proofs.Ytjkngcpmcmffmaa.Kp Go.Proofs.Ytjkngcpmcmffmaa.Sq Go.Proofs.Ytjkngcpmcmffmaa.Fr Go.Proofs.Ytjkngcpmcmffmaa.Pn Go.Proofs.Ytjkngcpmcmffmaa.Crc Go.Proofs.Ytjkngcpmcmffmaa.Cr
/-- What is known of a frame: its kind, its fields. -/
structure Kn (k : Nat) (T F : Nat) (v : Value) (fs : List Fld) : Prop where
  kind : ∀ w, Calls Try.prog 29 #[.iface T v] w fun e w' => e = .returned (.int .u8 (k : Int)) ∧ w = w'
  met : ∀ w, (method 218 T v "angelus/frame.fields").run Try.prog w = .ok (F, v) w
  ent : ∀ w, (callFunc F #[v]).run Try.prog w = .ok (.enter F #[v]) w
  fld : ∀ w, Calls Try.prog F #[v] w fun e w' => ∃ g, e = .returned (.slice (some ⟨g, 0, none⟩) fs.length fs.length) ∧ w.heap.size ≤ g ∧ Blk w' g 66 (fs.flatMap Fld.cs).toArray ∧ Below w.heap.size w w'
  len : fs.length ≤ 8
  k6 : 1 ≤ k ∧ k ≤ 6
  sz : ∀ f ∈ fs, ∃ s : Nat, f.size = s ∧ s ≤ 8
theorem good_kn {k T F : Nat} {v : Value} {fs : List Fld} (h : Kn k T F v fs) (w : World) : Calls Try.prog 18 #[.iface T v] w fun e w' => e = .returned (.bool (fs.all Fld.ok)) ∧ Below w.heap.size w w' :=
  good_of T F v k fs w (by have := h.k6; simp; omega) h.kind h.met h.ent h.fld (by have := h.len; omega)
theorem good_nil (w : World) : Calls Try.prog 18 #[.nilIface] w fun e w' => e = .returned (.bool false) ∧ w = w' := by
  go_enter Try.func18, Try.ntmps18
  go_wp2_with (go_at_call 29; (with_reducible refine Calls.mono (kind_nil _) ?_); rintro e w1 ⟨rfl, rfl⟩)
  go_ret
  exact ⟨rfl, rfl⟩
/-- A field's cells. -/
theorem fld_cells {w : World} {g : Nat} {fs : List Fld} (hb : Blk w g 66 (fs.flatMap Fld.cs).toArray) {k : Nat} {f : Fld} (hf : fs[k]? = some f) : w.cell? ⟨g, k * 3, none⟩ = some (.int .i64 f.size) ∧ w.cell? ⟨g, k * 3 + 1, none⟩ = some (.int .i64 f.n) ∧ w.cell? ⟨g, k * 3 + 2, none⟩ = some (.int .i64 f.most) := by
  refine ⟨?_, ?_, ?_⟩
  · have h := fd_at fs k f hf 0 _ rfl
    rw [Nat.add_zero] at h
    have := hb.cell (k * 3)
    rw [List.getElem?_toArray, h] at this
    exact this
  · have := hb.cell (k * 3 + 1)
    rw [List.getElem?_toArray, fd_at fs k f hf 1 _ rfl] at this
    exact this
  · have := hb.cell (k * 3 + 2)
    rw [List.getElem?_toArray, fd_at fs k f hf 2 _ rfl] at this
    exact this
/-- How many bytes the fields have. -/
def total (fs : List Fld) : Int := (fs.map (·.size)).sum
theorem total_take (fs : List Fld) (k : Nat) (f : Fld) (h : fs[k]? = some f) : total (fs.take (k + 1)) = total (fs.take k) + f.size := by
  rw [List.take_add_one, h]
  simp [total]
theorem total_bd {fs : List Fld} (h : ∀ f ∈ fs, ∃ s : Nat, f.size = s ∧ s ≤ 8) : 0 ≤ total fs ∧ total fs ≤ 8 * fs.length := by
  induction fs with
  | nil => simp [total]
  | cons f fs ih =>
    obtain ⟨s, h1, h2⟩ := h f (by simp)
    have := ih fun g hg => h g (by simp [hg])
    simp only [total, List.map_cons, List.sum_cons, List.length_cons] at this ⊢
    omega
set_option maxHeartbeats 2000000 in
theorem size_kn {k T F : Nat} {v : Value} {fs : List Fld} (h : Kn k T F v fs) (w : World) : Calls Try.prog 23 #[.iface T v] w fun e w' => e = .returned (.int .i64 (total fs)) ∧ Below w.heap.size w w' := by
  have hm := h.met
  have hc := h.ent
  have HF := Lib.hid h.fld
  have hlen := h.len
  have HS := Lib.hid h.sz
  clear h
  go_enter Try.func23, Try.ntmps23
  go_wp2_with (with_reducible refine Calls.mono (HF.out _) ?_; rintro e w1 ⟨g, rfl, hg, hb, hw⟩; have HB := Lib.hid hb; have HW := Lib.hid hw; clear hb hw)
  go_loopw [3, 9] (fun s3 i wr => ∃ k : Nat, Aside (k ≤ fs.length ∧ i = .int .i64 k ∧ s3 = .int .i64 (total (fs.take k)) ∧ Blk wr g 66 (fs.flatMap Fld.cs).toArray ∧ Below w.heap.size w wr)) (fun _ i _ => fs.length - (intOf i).toNat)
  case atStart => exact ⟨0, Nat.zero_le _, rfl, rfl, HB.out, HW.out⟩
  case round =>
    obtain ⟨j, hX⟩ := hrel
    obtain ⟨hj, rfl, rfl, hb, hw⟩ := hX.out
    have HB1 := Lib.hid hb
    have HW1 := Lib.hid hw
    clear hX hb hw HB HW
    by_cases hlt : j < fs.length
    · obtain ⟨f, hf⟩ : ∃ f, fs[j]? = some f := ⟨_, List.getElem?_eq_getElem hlt⟩
      obtain ⟨x0, x1, x2⟩ := fld_cells HB1.out hf
      have HT := Lib.hid (total_take fs j f hf)
      have hbd := total_bd (fs := fs.take j) (fun f hf => HS.out f (List.mem_of_mem_take hf))
      have hl2 : (fs.take j).length ≤ 8 := by rw [List.length_take]; omega
      obtain ⟨s, hs1, hs2⟩ := HS.out f (List.mem_of_getElem? hf)
      have HBN := Lib.hid (fun o => HB1.out.alloc o)
      have HWN := Lib.hid (fun o => HW1.out.alloc HW1.out.size o)
      obtain ⟨fz, fn, fm⟩ := f
      simp only at x0 x1 x2 hs1
      subst hs1
      obtain ⟨y, hy⟩ : ∃ y, total (fs.take j) = y := ⟨_, rfl⟩
      rw [hy] at HT hbd
      rw [hy]
      have n1 : (j : Int) < (fs.length : Int) := by omega
      have hwr : IntKind.i64.wrap (y + (s : Int)) = y + (s : Int) := by rw [IntKind.wrap_i64]; omega
      clear hf hy
      go_wp2
      go_roundw
      case rel => exact ⟨j + 1, by omega, by go_num, by rw [HT.out], HBN.out _, HWN.out _⟩
      case measure => simp [intOf]; omega
    · have HE := Lib.hid (show fs.take j = fs from List.take_of_length_le (by omega))
      go_wp2
      go_ret
      exact ⟨by rw [HE.out]; rfl, HW1.out⟩
/-- A frame's bytes ahead of the sum. -/
def body (k : Nat) (fs : List Fld) : List Int := (k : Int) :: fs.flatMap fun f => be f.size.toNat f.n
theorem be_one (k : Nat) (h : k ≤ 255) : be 1 (k : Int) = [(k : Int)] := by
  simp only [be, Int.pow_zero, Int.ediv_one]
  congr 1
  omega
theorem body_take (k : Nat) (fs : List Fld) (j : Nat) (f : Fld) (h : fs[j]? = some f) : body k (fs.take (j + 1)) = body k (fs.take j) ++ be f.size.toNat f.n := by
  unfold body
  rw [List.take_add_one, h]
  simp
theorem body_length (k : Nat) {fs : List Fld} (h : ∀ f ∈ fs, ∃ s : Nat, f.size = s ∧ s ≤ 8) : (body k fs).length ≤ 1 + 8 * fs.length := by
  unfold body
  rw [List.length_cons]
  have : (fs.flatMap fun f => be f.size.toNat f.n).length ≤ 8 * fs.length := by
    induction fs with
    | nil => simp
    | cons f fs ih =>
      obtain ⟨s, h1, h2⟩ := h f (by simp)
      have := ih fun g hg => h g (by simp [hg])
      rw [List.flatMap_cons, List.length_append, be_length, h1, List.length_cons, Int.toNat_natCast]
      omega
  omega
theorem be_bytes : ∀ (k : Nat) (n : Int), Bytes (be k n)
  | 0, _ => fun x hx => by simp [be] at hx
  | k + 1, n => fun x hx => by
    rw [be] at hx
    rcases List.mem_cons.1 hx with rfl | hx
    · omega
    · exact be_bytes k n x hx
theorem body_bytes {k : Nat} (hk : k ≤ 255) (fs : List Fld) : Bytes (body k fs) := fun x hx => by
  unfold body at hx
  rcases List.mem_cons.1 hx with rfl | hx
  · omega
  · obtain ⟨f, _, hf⟩ := List.mem_flatMap.1 hx
    exact be_bytes _ _ x hf
/-- A frame's bytes. -/
def bytes (k : Nat) (fs : List Fld) : List Int := body k fs ++ two (goes 65535 (body k fs))
theorem encode_no {k T F : Nat} {v : Value} {fs : List Fld} (h : Kn k T F v fs) (hg : fs.all Fld.ok = false) (w : World) : Calls Try.prog 13 #[.iface T v] w fun e w' => e = .returned (.tuple #[.slice none 0 0, .int .i64 1]) ∧ Below w.heap.size w w' := by
  have C := Lib.hid (good_kn h w)
  rw [hg] at C
  go_enter Try.func13, Try.ntmps13
  go_wp2_with (go_at_call 18; (with_reducible refine Calls.mono C.out ?_); rintro e w1 ⟨rfl, hb1⟩)
  go_ret2
  exact ⟨rfl, hb1⟩
theorem encode_nil (w : World) : Calls Try.prog 13 #[.nilIface] w fun e w' => e = .returned (.tuple #[.slice none 0 0, .int .i64 1]) ∧ w = w' := by
  go_enter Try.func13, Try.ntmps13
  go_wp2_with (go_at_call 18; (with_reducible refine Calls.mono (good_nil _) ?_); rintro e w1 ⟨rfl, rfl⟩)
  go_ret2
  exact ⟨rfl, rfl⟩
set_option maxRecDepth 100000 in
set_option maxHeartbeats 4000000 in
theorem encode_yes {k T F : Nat} {v : Value} {fs : List Fld} (h : Kn k T F v fs) (hg : fs.all Fld.ok = true) (hmost : ∀ f ∈ fs, f.most < 18446744073709551616) (w : World) : Calls Try.prog 13 #[.iface T v] w fun e w' => (∃ v', e = .returned (.tuple #[v', .int .i64 0]) ∧ Oi .u8 5 w' w.heap.size v' (bytes k fs)) ∧ Below w.heap.size w w' := by
  have C := Lib.hid (good_kn h w)
  rw [hg] at C
  have CK := Lib.hid h.kind
  have hm := h.met
  have hc := h.ent
  have HF := Lib.hid h.fld
  have hlen := h.len
  have HS := Lib.hid h.sz
  have HG := Lib.hid (List.all_eq_true.1 hg)
  have hk6 := h.k6
  have hwk : IntKind.u64.wrap (k : Int) = (k : Int) := by rw [IntKind.wrap_u64]; omega
  have HBE := Lib.hid (be_one k (by omega))
  have HM := Lib.hid hmost
  clear h hg hmost
  go_enter Try.func13, Try.ntmps13
  go_wp2_with (first
    | (go_at_call 18
       (with_reducible refine Calls.mono C.out ?_)
       rintro e w1 ⟨rfl, hb1⟩
       have HW1 := Lib.hid hb1
       have hsz1 := hb1.size
       have HP1 := Lib.hid (show Pen (w1.alloc (.cells #[.slice none 0 0] 85)) w.heap.size w1.heap.size (.slice none 0 0) [] from ⟨Blk.new _ _ _, Oi.nil _ _ _ _, hsz1, fun q hq => by cases hq⟩)
       have HW2 := Lib.hid (hb1.alloc hsz1 (.cells #[.slice none 0 0] 85))
       clear hb1)
    | (go_at_call 29
       (with_reducible refine Calls.mono (CK.out _) ?_)
       rintro e w2 ⟨rfl, rfl⟩)
    | (go_at_call 28
       (with_reducible refine Calls.mono (num_ok _ w.heap.size _ 1 k _ _ HP1.out HW2.out.size (by omega) (by omega) (by simp)) ?_)
       rintro e w3 ⟨v3, rfl, hp3, hb3, _⟩
       rw [HBE.out, List.nil_append] at hp3
       have HP3 := Lib.hid hp3
       have HW3 := Lib.hid (HW2.out.trans hb3)
       have hsz3 := hb3.size
       clear hp3 hb3)
    | (with_reducible refine Calls.mono (HF.out _) ?_; rintro e w4 ⟨g, rfl, hg, hb, hw⟩; have HB := Lib.hid hb; have HW4 := Lib.hid hw; clear hb hw))
  have hg1 := HW4.out.size
  have hp4 : Pen _ w.heap.size w1.heap.size v3 [(k : Int)] := ⟨HP3.out.1.keeps HW4.out, HP3.out.2.1.below HW4.out, HP3.out.2.2⟩
  have HP4 := Lib.hid hp4
  have HW5 := Lib.hid (HW3.out.trans (HW4.out.mono HW3.out.size))
  clear hp4 HP1 HP3 HW2 HW3 HW4 HW1
  go_loopw [17] (fun i wr => ∃ (j : Nat) (v' : Value), Aside (j ≤ fs.length ∧ i = .int .i64 j ∧ Pen wr w.heap.size w1.heap.size v' (body k (fs.take j)) ∧ Blk wr g 66 (fs.flatMap Fld.cs).toArray ∧ Below w.heap.size w wr)) (fun i _ => fs.length - (intOf i).toNat)
  case atStart => exact ⟨0, v3, Nat.zero_le _, rfl, HP4.out, HB.out, HW5.out⟩
  case round =>
    obtain ⟨j, v', hX⟩ := hrel
    obtain ⟨hj, rfl, hp, hb, hw⟩ := hX.out
    have HPr := Lib.hid hp
    have HB1 := Lib.hid hb
    have HW1 := Lib.hid hw
    have hszr := hw.size
    clear hX hp hb hw HP4 HB HW5
    by_cases hlt : j < fs.length
    · obtain ⟨f, hf⟩ : ∃ f, fs[j]? = some f := ⟨_, List.getElem?_eq_getElem hlt⟩
      obtain ⟨x0, x1, x2⟩ := fld_cells HB1.out hf
      have hmem := List.mem_of_getElem? hf
      have HT := Lib.hid (body_take k fs j f hf)
      have hbl := body_length k (fs := fs.take j) (fun f hf => HS.out f (List.mem_of_mem_take hf))
      have hl2 : (fs.take j).length ≤ 8 := by rw [List.length_take]; omega
      obtain ⟨s, hs1, hs2⟩ := HS.out f hmem
      have hok := HG.out f hmem
      have hmo := HM.out f hmem
      have HBN := Lib.hid (HB1.out.alloc (.cells #[.int .i64 f.size, .int .i64 f.n, .int .i64 f.most] 66))
      have HWN := Lib.hid (HW1.out.alloc hszr (.cells #[.int .i64 f.size, .int .i64 f.n, .int .i64 f.most] 66))
      have HPN := Lib.hid (HPr.out.alloc (.cells #[.int .i64 f.size, .int .i64 f.n, .int .i64 f.most] 66))
      obtain ⟨fz, fn, fm⟩ := f
      have hok2 : 0 ≤ fn ∧ fn ≤ fm := of_decide_eq_true hok
      simp only at x0 x1 x2 hs1 hmo HBN HWN HPN
      subst hs1
      have CN := Lib.hid (num_ok _ w.heap.size _ s fn v' _ HPN.out (by rw [World.size_alloc]; omega) hs2 (by omega) (by omega))
      have hwr : IntKind.u64.wrap fn = fn := by rw [IntKind.wrap_u64]; omega
      have n1 : (j : Int) < (fs.length : Int) := by omega
      clear hf hok hmem
      go_wp2_with (go_at_call 28; (with_reducible refine Calls.mono CN.out ?_); rintro e w6 ⟨v6, rfl, hp6, hb6, hf6⟩; have HP6 := Lib.hid hp6; have HB6 := Lib.hid (hf6 _ _ _ (by decide) (by decide) HBN.out); have HW6 := Lib.hid (HWN.out.trans hb6); clear hp6 hb6 hf6)
      go_roundw
      case rel => exact ⟨j + 1, v6, by omega, by go_num, by rw [HT.out]; exact HP6.out, HB6.out, HW6.out⟩
      case measure => simp [intOf]; omega
    · have HE := Lib.hid (show fs.take j = fs from List.take_of_length_le (by omega))
      have hbl := body_length k HS.out
      have HPE := Lib.hid (show Pen wr w.heap.size w1.heap.size v' (body k fs) by have := HPr.out; rw [HE.out] at this; exact this)
      have HBB := Lib.hid (body_bytes (k := k) (by omega) fs)
      clear HPr
      go_wp2_with (first
        | (go_at_call 31
           (with_reducible refine Calls.mono (bytes_ok _ _ _ _ _ HPE.out (by omega)) ?_)
           rintro e w7 ⟨v7, rfl, ho7, hb7⟩
           obtain ⟨A7, c7, rfl, hc7, hr7⟩ := ho7.ri
           have HR7 := Lib.hid hr7
           have HW7 := Lib.hid (HW1.out.trans (hb7.mono HW1.out.size))
           have HC7 := Lib.hid hc7
           clear ho7 hb7 hr7 hc7)
        | (go_at_call 30
           (with_reducible refine Calls.mono (seal_ok A7 c7 (body k fs) _ HR7.out HC7.out HBB.out (by omega)) ?_)
           rintro e w8 ⟨v8, rfl, ho8, hb8⟩))
      have hsz7 := HW7.out.size
      go_ret2
      exact ⟨⟨v8, rfl, ho8.lower hsz7⟩, HW7.out.trans (hb8.mono hsz7)⟩
end Go.Proofs.Ytjkngcpmcmffmaa.Gn
