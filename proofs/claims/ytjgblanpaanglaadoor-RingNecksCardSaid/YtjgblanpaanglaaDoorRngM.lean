/- Necks: ring.Neck and edenref06.Neck for all rings; plain: a ring's turns have one neck. -/
import Derived.Test.YtjgblanpaanglaaDoorRefTL
import Derived.Test.YtjgblanpaanglaaDoorRfB
import Derived.Test.YtjgblanpaanglaaDoorRngV
import Derived.Deep.QuietTactic
import Derived.BigQuiet
namespace Go.Proofs.YtjgblanpaanglaaDoor
open Go.RowKit
set_option linter.unusedVariables false
set_option maxRecDepth 100000

open Classical in
/-- a ring's neck -/
noncomputable def neckL (l : List Int) : List Int := if h : ∃ m, IsLeast l m then rot l h.choose else []
theorem neck_is {l : List Int} {m : Nat} (h : IsLeast l m) : neckL l = rot l m := by
  unfold neckL
  have hx : ∃ m, IsLeast l m := ⟨m, h⟩
  rw [dif_pos hx, hx.choose_spec.uniq h]
theorem neck_nil : neckL [] = [] := by
  unfold neckL
  rw [dif_neg]
  rintro ⟨m, h⟩
  exact absurd h.lt (by simp)
theorem neck_len (l : List Int) : (neckL l).length = l.length := by
  by_cases h : 0 < l.length
  · obtain ⟨m, hm⟩ := isLeast_ex l h
    rw [neck_is hm, rot_len]
  · have : l = [] := List.eq_nil_of_length_eq_zero (by omega)
    rw [this, neck_nil]
/-- a ring and its turns have one neck -/
theorem neck_rot (l : List Int) (t : Nat) (ht : t ≤ l.length) : neckL (rot l t) = neckL l := by
  by_cases h : 0 < l.length
  · obtain ⟨m, hm⟩ := isLeast_ex l h
    obtain ⟨q, hq⟩ := isLeast_ex (rot l t) (by rw [rot_len]; exact h)
    rw [neck_is hm, neck_is hq]
    have hqL := hq.lt
    rw [rot_len] at hqL
    have hml := hm.lt
    have hmod : ∀ a, a < l.length → a % l.length = a := fun a ha => Nat.mod_eq_of_lt ha
    have htm : rot l t = rot l (t % l.length) := by
      rcases Nat.lt_or_ge t l.length with h1 | h1
      · rw [hmod t h1]
      · obtain rfl : t = l.length := by omega
        rw [Nat.mod_self]
        simp [rot]
    have key : ∀ a, a < l.length → rot (rot l t) a = rot l ((t + a) % l.length) := by
      intro a ha
      have := rot_rot l t a h
      rw [hmod a ha] at this
      rw [htm, this]
    have h1 : lexI (rot (rot l t) q) (rot l m) ≤ 0 := by
      have hk : ((m + (l.length - t % l.length)) % l.length) < l.length := Nat.mod_lt _ h
      have h2 := hq.le _ (by rw [rot_len]; exact hk)
      rw [key _ hk] at h2
      have e : (t + (m + (l.length - t % l.length)) % l.length) % l.length = m := by
        have hlt := Nat.mod_lt t h
        have hd := Nat.div_add_mod t l.length
        rw [Nat.add_mod_mod, show t + (m + (l.length - t % l.length)) = m + l.length * (t / l.length + 1) by rw [Nat.mul_add]; omega, Nat.add_mul_mod_self_left]
        exact hmod m hml
      rw [e] at h2
      exact h2
    have h2 : lexI (rot l m) (rot (rot l t) q) ≤ 0 := by
      rw [key q hqL]
      exact hm.le _ (Nat.mod_lt _ h)
    rw [lexI_neg] at h2
    exact lexI_zero (by omega)
  · have : l = [] := List.eq_nil_of_length_eq_zero (by omega)
    rw [this]
    simp [rot]
def neckD (l : List Int) : ErrD := if l.length = 0 then some ([(opRing, 0)], 3) else none
theorem neckD_rot (l : List Int) (t : Nat) : neckD (rot l t) = neckD l := by unfold neckD; rw [rot_len]
theorem ec_some {R : Nat → Addr} {w : World} {v : Value} {y : ByteArray × Int} {es : List (ByteArray × Int)} {n : Int} (h : EC R w v (some (y :: es, n))) : ∃ g, v = .iface 72 (.pointer (some ⟨g, 0, none⟩)) := by
  obtain ⟨g, x, hv, _⟩ := h
  exact ⟨g, hv⟩
theorem neck_ring {k : Nat} {l : List Int} (h : IsRing k (neckL l)) : IsRing k l := by
  have hl := h.l1
  rw [neck_len] at hl
  obtain ⟨m, hm⟩ := isLeast_ex l hl
  have h2 := h.l2
  rw [neck_len] at h2
  refine ⟨hl, h2, fun x hx => h.sym x ?_⟩
  rw [neck_is hm]
  unfold rot
  rw [← List.take_append_drop m l] at hx
  rcases List.mem_append.1 hx with h1 | h1
  · exact List.mem_append.2 (.inr h1)
  · exact List.mem_append.2 (.inl h1)
theorem ring_neck {k : Nat} {l : List Int} (h : IsRing k l) : IsRing k (neckL l) := by
  obtain ⟨m, hm⟩ := isLeast_ex l h.l1
  rw [neck_is hm]
  exact ring_rot h
/-- images of two turns of a ring have one neck -/
theorem neck_image {k r : Nat} {tb wl : List Int} (hl : 0 < wl.length) : neckL (ringL k r tb (neckL wl)) = neckL (ringL k r tb wl) := by
  obtain ⟨m, hm⟩ := isLeast_ex wl hl
  have hml := hm.lt
  rw [neck_is hm, ring_turn hl (by omega), neck_rot _ _ (by rw [ringL_len]; omega)]
set_option maxHeartbeats 4000000 in
theorem neck_anyE (a : Option Addr) (n c : Nat) (l : List Int) (W : World) (R : Nat → Addr) (hS : Sent W R) (hW : SlI W a n c l) :
    Calls Tryd.prog 17 #[.slice a n c] W (ListEC R W (neckL l) (neckD l)) := by
  by_cases h0 : n = 0
  · subst h0
    have hl : l = [] := List.eq_nil_of_length_eq_zero hW.rk.len.symm
    subst hl
    rw [neck_nil]
    have hd : neckD [] = some ([(opRing, 0)], 3) := rfl
    rw [hd]
    have HS := Lib.hid hS
    clear hd hS hW
    go_enter Tryd.func17, Tryd.ntmps17
    go_wp2_with fail
    refine (ring_wrong _ _ _ R HS.out.glob (by rfl)).mono ?_; rintro e w' ⟨rfl, rfl⟩
    go_wp2
    go_ret2
    exact ⟨_, 0, 0, _, rfl, SlI.nil, ec_err (HS.out.up (balloc (bnil _) _)) (isErr_new (Nat.le_refl _)), balloc (bnil _) _⟩
  · refine (neck_ok a n c l W hW (by omega)).mono ?_
    rintro e w' ⟨m, a', c', rfl, hm, ho, hb⟩
    have hd : neckD l = none := by unfold neckD; rw [if_neg (by rw [← hW.rk.len]; exact h0)]
    rw [hd, neck_is hm]
    exact ⟨a', n, c', _, rfl, ho.sl hW.n8, rfl, hb⟩
set_option maxHeartbeats 4000000 in
theorem refneck_any (a : Option Addr) (n c : Nat) (l : List Int) (W : World) (hW : SlI W a n c l) :
    Calls Tryd.prog 30 #[.slice a n c] W (ListWC W (neckL l) (neckD l)) := by
  have h8 := hW.n8
  have hz : (W.alloc (.cells #[.int .i64 0, .slice none 0 0, .slice none 0 0] 43)).heap[W.heap.size]? = some (.cells #[.int .i64 0, .slice none 0 0, .slice none 0 0] 43) := heap_alloc_new W _
  obtain ⟨Wb, hWb⟩ : ∃ Wb, W.alloc (.cells #[.int .i64 0, .slice none 0 0, .slice none 0 0] 43) = Wb := ⟨_, rfl⟩
  have HBX : Hid (Below W.heap.size W Wb) := by rw [← hWb]; exact balloc (bnil W) _
  rw [hWb] at hz
  have hlt : W.heap.size < Wb.heap.size := heap_ltT hz
  have HZ := Lib.hid hz
  have HWB := Lib.hid hWb; clear hWb hz
  by_cases h0 : n = 0
  · subst h0
    have hl : l = [] := List.eq_nil_of_length_eq_zero hW.rk.len.symm
    subst hl
    rw [neck_nil]
    have hd : neckD [] = some ([(opRing, 0)], 3) := rfl
    rw [hd]
    clear hd hW
    go_enter Tryd.func30, Tryd.ntmps30
    go_wp2_with fail
    rw [HWB.out]
    refine (rawNew_ret _ _ _ _ (by rfl)).mono ?_; rintro e w8 ⟨M, b1, m1, d1, b2, m2, d2, rfl, hwn, g1, g2, hM, _, hb8⟩
    have hz8 := (hb8.block W.heap.size hlt).trans HZ.out
    obtain ⟨⟨q0, q1, q2⟩, f0, f1', f2'⟩ := p_cells hz8
    obtain ⟨w9, e9, ⟨r0, r1, r2⟩, hk9, _, hwc, hbl⟩ := er_setR (Nat.le_refl W.heap.size) hz8 (bstep HBX.out hb8) (g1.base hlt) (g2.base hlt) hwn
    have HE9 := Lib.hid e9
    have HR9 := Lib.hid (And.intro r0 (And.intro r1 r2))
    have HRET := Lib.hid (And.intro hwc hbl)
    clear hwc hbl e9 r0 r1 r2 hk9 hwn g1 g2 hz8
    go_wp2
    rw [HE9.out]
    have r0 := HR9.out.1
    have r1 := HR9.out.2.1
    have r2 := HR9.out.2.2
    refine bodyPost_ret (v := .tuple #[.slice none 0 0, .agg #[.int .i64 M, .slice b1 m1 d1, .slice b2 m2 d2]]) (by simp [results, Tryd.results30, go_sem, r0, r1, r2]) rfl ?_
    exact ⟨_, _, _, _, _, _, _, _, _, _, rfl, RK.nil, HRET.out.1, HRET.out.2⟩
  · have hd : neckD l = none := by unfold neckD; rw [if_neg (by rw [← hW.rk.len]; exact h0)]
    rw [hd]
    have HW : Hid (SlI Wb a n c l) := hW.up HBX.out
    have HLN := Lib.hid hW.rk.len
    have hnz : ((n : Int) == 0) = false := by rw [beq_eq_false_iff_ne]; omega
    clear hd hW
    go_enter Tryd.func30, Tryd.ntmps30
    go_wp2_with fail
    rw [HWB.out]
    refine (refLeast_any a n c l _ HW.out.rk (by omega) h8).mono ?_; rintro e w1 ⟨m, hm, rfl, hb1⟩
    have HM := Lib.hid hm
    have hmn : m < n := by rw [HLN.out]; exact hm.lt
    have HB1 := Lib.hid hb1
    clear hm hb1
    go_wp2_with fail
    refine (refTurn_any a n c l m _ (HW.out.rk.up HB1.out) h8).mono ?_; rintro e w8 ⟨a5, c5, rfl, ho5, hb5⟩
    rw [turnAt_lt hmn, ← neck_is HM.out] at ho5
    have HOW : Hid (OwI w8 w1.heap.size a5 n c5 (neckL l)) := ⟨ho5⟩
    have hlt1 : W.heap.size < w1.heap.size := Nat.lt_of_lt_of_le hlt HB1.out.size
    have hb8 := bstep HB1.out hb5
    have hz8 := (hb8.block W.heap.size hlt).trans HZ.out
    obtain ⟨⟨q0, q1, q2⟩, f0, f1', f2'⟩ := p_cells hz8
    obtain ⟨w9, e9, ⟨r0, r1, r2⟩, hk9, _, hwc, hbl⟩ := er_setR (Nat.le_refl W.heap.size) hz8 (bstep HBX.out hb8) fr_none fr_none (wc_none _)
    have HE9 := Lib.hid e9
    have HR9 := Lib.hid (And.intro r0 (And.intro r1 r2))
    have HRET := Lib.hid (And.intro hwc hbl)
    have HK9 := Lib.hid hk9
    clear hwc hbl e9 r0 r1 r2 hk9 hz8 ho5 hb5 hb8
    go_wp2
    rw [HE9.out]
    have r0 := HR9.out.1
    have r1 := HR9.out.2.1
    have r2 := HR9.out.2.2
    refine bodyPost_ret (v := .tuple #[.slice a5 n c5, .agg #[.int .i64 0, .slice none 0 0, .slice none 0 0]]) (by simp [results, Tryd.results30, go_sem, r0, r1, r2]) rfl ?_
    exact ⟨_, _, _, _, _, _, _, _, _, _, rfl, (owI_oth HOW.out HK9.out hlt1).rk, HRET.out.1, HRET.out.2⟩
end Go.Proofs.YtjgblanpaanglaaDoor
