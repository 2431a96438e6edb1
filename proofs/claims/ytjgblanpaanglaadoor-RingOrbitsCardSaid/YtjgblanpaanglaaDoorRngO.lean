/- Plain: the rings that came, as keys of a map. ring.Orbit of a right rule and ring. -/
import Derived.Test.YtjgblanpaanglaaDoorRngK
import Derived.Maps.OwnSet
import Derived.Maps.OwnOps
namespace Go.Proofs.YtjgblanpaanglaaDoor
open Go.RowKit
set_option linter.unusedVariables false
set_option maxRecDepth 100000

def kO (wl : List Int) : Lit := .string (keyB wl)
def mpO (f : Nat → List Int) : Nat → DataW Unit
  | 0 => .map []
  | t + 1 => (mpO f t).put (kO (f t)) (.lit (.int .i64 (t : Nat)))
theorem kO_lit (wl : List Int) : WideAt.IsKeyLit (kO wl) := trivial
theorem mpO_map (f : Nat → List Int) : ∀ t, Maps.IsMap (mpO f t)
  | 0 => ⟨[], rfl⟩
  | t + 1 => by
    obtain ⟨es, he⟩ := mpO_map f t
    show ∃ es, (mpO f t).put (kO (f t)) _ = .map es
    rw [he]
    exact ⟨_, rfl⟩
theorem has_mpO (f : Nat → List Int) (v : List Int) : ∀ t, Maps.has (mpO f t) (kO v) = true ↔ ∃ i, i < t ∧ kO (f i) = kO v
  | 0 => by
    constructor
    · intro h; cases h
    · rintro ⟨i, h, _⟩; omega
  | t + 1 => by
    show Maps.has ((mpO f t).put (kO (f t)) _) (kO v) = true ↔ _
    by_cases e : kO v = kO (f t)
    · rw [e, Maps.has_put_same (mpO_map f t) (kO_lit _)]
      exact ⟨fun _ => ⟨t, by omega, rfl⟩, fun _ => rfl⟩
    · rw [Maps.has_put_other e, has_mpO f v t]
      constructor
      · rintro ⟨i, hi, he⟩; exact ⟨i, by omega, he⟩
      · rintro ⟨i, hi, he⟩
        by_cases e2 : i = t
        · subst e2; exact absurd he.symm e
        · exact ⟨i, by omega, he⟩
theorem at_mpO (f : Nat → List Int) (v : List Int) (z : DataW Unit) : ∀ t, (∀ i j, i < j → j < t → kO (f i) ≠ kO (f j)) → ∀ i, i < t → kO (f i) = kO v → (mpO f t).atKey (kO v) z = .lit (.int .i64 (i : Nat))
  | 0, _, i, h, _ => by omega
  | t + 1, hd, i, h, he => by
    show ((mpO f t).put (kO (f t)) _).atKey (kO v) z = _
    by_cases e : kO v = kO (f t)
    · have e3 : i = t := by
        rcases Nat.lt_or_ge i t with h1 | h1
        · exact absurd (he.trans e) (hd i t h1 (by omega))
        · omega
      subst e3
      rw [e, Maps.atKey_put_same (mpO_map f i) (kO_lit _)]
    · rw [Maps.atKey_put_other e]
      have e3 : i ≠ t := fun e2 => e (by rw [← he, e2])
      exact at_mpO f v z t (fun a b h1 h2 => hd a b h1 (by omega)) i (by omega) he
theorem kO_inj {l v : List Int} (h1 : ∀ x ∈ l, 0 ≤ x ∧ x < 10) (h2 : ∀ x ∈ v, 0 ≤ x ∧ x < 10) (e : kO l = kO v) : l = v := by
  have e2 : keyB l = keyB v := by
    unfold kO at e
    exact Lit.string.inj e
  exact keyB_inj h1 h2 e2
theorem lawSR : Maps.Keyed Tryd.prog 9 := Maps.string_keyed Tryd.underlying9
theorem zeroIR (w : World) : (zeroValue 3).run Tryd.prog w = .ok (.int .i64 0) w := by kernel_rfl
abbrev MapO (w : World) (b n : Nat) (D : DataW Unit) : Prop := w.ownsMap Tryd.prog 9 (plainElem (H := Unit) Tryd.prog 3) b n D
theorem mapO_of {w w' : World} {b n : Nat} {D : DataW Unit} (h : MapO w b n D) (hb : w'.heap[b]? = w.heap[b]?) : MapO w' b n D := by
  obtain ⟨es, clock, h1, h2⟩ := h
  exact ⟨es, clock, hb.trans h1, h2⟩
theorem mapO_lt {w : World} {b n : Nat} {D : DataW Unit} (h : MapO w b n D) : b < w.heap.size := by
  obtain ⟨es, clock, h1, _⟩ := h
  exact heap_ltT h1
theorem rk_grownO {w w' : World} {a : Option Addr} {n g m : Nat} {l : List Int} {D : DataW Unit} (h : RK .i64 w a n l) (hg : w.grownBy w' (some g)) (hm : MapO w g m D) : RK .i64 w' a n l := by
  refine ⟨h.1, h.2.1, ?_⟩
  rcases h.2.2 with h0 | ⟨b, o, e, hlt, hc⟩
  · exact .inl h0
  · by_cases hz : n * 1 = 0
    · exact .inl (by omega)
    · refine .inr ⟨b, o, e, Nat.lt_of_lt_of_le hlt hg.size, fun j u hu => ?_⟩
      have hne : b ≠ g := by
        rintro rfl
        have h0 := hc j u hu
        obtain ⟨es, clock, h1, _⟩ := hm
        simp [World.cell?, h1] at h0
      rw [World.cell?_of_block (w := w) (hg.block b hlt (fun q => hne (Option.some.inj q)))]
      exact hc j u hu
theorem wf_nat {t : Nat} (h : t ≤ 100000) : (Lit.int .i64 (t : Int)).wf = true := by
  simp only [Lit.wf, IntKind.min, IntKind.max, IntKind.signed, IntKind.bits, Bool.and_eq_true, decide_eq_true_eq, if_true]
  omega
set_option maxHeartbeats 16000000 in
theorem orbit_anyI (k r : Nat) (a : Option Addr) (n c : Nat) (l : List Int) (aw : Option Addr) (nw cw : Nat) (wl : List Int) (W : World) (R : Nat → Addr) (hG : Glob W R) (hR : RK .i64 W a n l) (hW : RK .i64 W aw nw wl) (h : IsRule k r l) (hw : IsRing k wl) (h64 : nw ≤ 64) :
    Calls Tryd.prog 22 #[ruleV k r a n c, .slice aw nw cw] W fun e w' => Below W.heap.size W w' ∧ ((∃ m p : Nat, 1 ≤ p ∧ m + p ≤ 4096 ∧ itR k r l (m + p) wl = itR k r l m wl ∧ (∀ i j, i < j → j < m + p → itR k r l i wl ≠ itR k r l j wl) ∧ e = .returned (.tuple #[.int .i64 m, .int .i64 p, .nilIface])) ∨
      ((∀ i j, i < j → j < 4097 → itR k r l i wl ≠ itR k r l j wl) ∧ ∃ g, e = .returned (.tuple #[.int .i64 0, .int .i64 0, .iface 72 (.pointer (some ⟨g, 0, none⟩))]) ∧ IsErr W.heap.size R w' (.iface 72 (.pointer (some ⟨g, 0, none⟩))) opRing 1 4))  := by
  have k4 := h.k4
  have hsy : ∀ i, ∀ x ∈ itR k r l i wl, 0 ≤ x ∧ x < 10 := fun i x hx => by
    have := (itR_ring h hw i).sym x hx
    omega
  have hkk : ∀ i j, kO (itR k r l i wl) = kO (itR k r l j wl) ↔ itR k r l i wl = itR k r l j wl := fun i j => ⟨fun e => kO_inj (hsy i) (hsy j) e, fun e => by rw [e]⟩
  have HRU := Lib.hid h
  have HRG := Lib.hid hw
  have HR := Lib.hid hR
  have HW := Lib.hid hW
  have HG := Lib.hid hG
  have HSY := Lib.hid hsy
  have HKK := Lib.hid hkk
  have HNL := Lib.hid hW.len
  obtain ⟨Wb, hWb⟩ : ∃ Wb, W.alloc (.cells #[.int .i64 k, .int .i64 r, .slice a n c] 24) = Wb := ⟨_, rfl⟩
  have HBX : Hid (Below W.heap.size W Wb) := by rw [← hWb]; exact balloc (bnil W) _
  have HPX : Hid (Wb.heap[W.heap.size]? = some (.cells #[.int .i64 k, .int .i64 r, .slice a n c] 24)) := by show _ = _; rw [← hWb]; exact heap_alloc_new W _
  have HWB := Lib.hid hWb
  have x0 : Wb.cell? ⟨W.heap.size, 0, none⟩ = some (.int .i64 k) := by simp [World.cell?, HPX.out]
  have x1 : Wb.cell? ⟨W.heap.size, 1, none⟩ = some (.int .i64 r) := by simp [World.cell?, HPX.out]
  have x2 : Wb.cell? ⟨W.heap.size, 2, none⟩ = some (.slice a n c) := by simp [World.cell?, HPX.out]
  rw [← hWb] at x0 x1 x2
  clear h hw hR hW hG hsy hkk hWb
  go_enter Tryd.func22, Tryd.ntmps22
  go_wp2_with fail
  rw [HWB.out] at x0 x1 x2 ⊢
  refine (ringcheck_ok k r a n c l aw nw cw wl _ (HR.out.up HBX.out) (HW.out.up HBX.out) HRU.out HRG.out).mono ?_; rintro e w1 ⟨rfl, hb1⟩
  have HB1 := Lib.hid (bstep HBX.out hb1)
  have HP1 := Lib.hid ((hb1.block _ (heap_ltT HPX.out)).trans HPX.out)
  have n64 : ¬ (64 : Int) < (nw : Int) := by omega
  have hmm := @run_makeMap Tryd.prog
  clear x0 x1 x2 hb1
  go_wp2_with fail
  obtain ⟨mb, hmb⟩ : ∃ mb, w1.heap.size = mb := ⟨_, rfl⟩
  obtain ⟨w2, hw2⟩ : ∃ w2, w1.alloc (.map #[] 0) = w2 := ⟨_, rfl⟩
  have HM0 : Hid (MapO w2 mb 0 (mpO (fun i => itR k r l i wl) 0)) := by
    show MapO _ _ _ _
    rw [← hw2, ← hmb]
    exact World.ownsMap_made w1 Tryd.prog 9 (plainElem (H := Unit) Tryd.prog 3)
  have HB2 : Hid (Below W.heap.size W w2) := by show Below _ _ _; rw [← hw2]; exact balloc HB1.out _
  have HP2 : Hid (w2.heap[W.heap.size]? = some (.cells #[.int .i64 k, .int .i64 r, .slice a n c] 24)) := by
    show _ = _
    rw [← hw2]
    exact ((balloc (bnil w1) _).block _ (heap_ltT HP1.out)).trans HP1.out
  have HMW : Hid (W.heap.size < mb) := by show _ < _; rw [← hmb]; exact heap_ltT HP1.out
  try rw [hmb]
  try rw [hw2]
  clear hmm hmb hw2
  go_loopw [1, 9] (fun s1 ix wr => ∃ (t : Nat) (a' : Option Addr) (c' : Nat), t ≤ 4097 ∧ ix = .int .i64 (t : Nat) ∧ s1 = .slice a' nw c' ∧ RK .i64 wr a' nw (itR k r l t wl) ∧ (∀ i j, i < j → j < t → itR k r l i wl ≠ itR k r l j wl) ∧ MapO wr mb t (mpO (fun i => itR k r l i wl) t) ∧ wr.heap[W.heap.size]? = some (.cells #[.int .i64 k, .int .i64 r, .slice a n c] 24) ∧ Below W.heap.size W wr) (fun _ ix _ => 4097 - (intOf ix).toNat)
  case atStart => exact ⟨0, aw, cw, by omega, rfl, rfl, HW.out.up HB2.out, fun i j _ h => by omega, HM0.out, HP2.out, HB2.out⟩
  case round =>
    obtain ⟨t, a', c', ht, rfl, rfl, hrk, hds, hmp, hpb, hb⟩ := hrel
    have HK := Lib.hid hrk
    have HDS := Lib.hid hds
    have HM := Lib.hid hmp
    have HP := Lib.hid hpb
    have HB := Lib.hid hb
    clear hrk hds hmp hpb hb
    generalize wr = wo at *
    by_cases htl : t ≤ 4096
    · have t1 : (t : Int) ≤ 4096 := by omega
      go_wp2_with fail
      refine (key_any a' nw c' (itR k r l t wl) wo HK.out (HSY.out t) (by omega)).mono ?_; rintro e w3 ⟨rfl, hb3⟩
      have HM3 := Lib.hid (mapO_of HM.out (hb3.block _ (mapO_lt HM.out)))
      have HP3 := Lib.hid ((hb3.block _ (heap_ltT HP.out)).trans HP.out)
      have HK3 := Lib.hid (HK.out.up hb3)
      have HB3 := Lib.hid (bstep HB.out hb3)
      clear hb3
      have hkey : keyOf Tryd.prog 9 (.string (keyS (itR k r l t wl))) = some (kO (itR k r l t wl)) := by
        have hsz : (keyS (itR k r l t wl)).size ≤ maxLen := by
          have h1 := HNL.out
          have h2 := itR_len k r l t wl
          have h3 : (keyS (itR k r l t wl)).size = nw := by
            show (keyB (itR k r l t wl)).toArray.size = nw
            simp [keyB]
            omega
          rw [h3]; unfold maxLen; omega
        have e := WideMaps.keyOf_string_mk (P := Tryd.prog) Tryd.underlying9 hsz
        rw [e]
        simp [kO, keyS]
      have HKEY := Lib.hid hkey
      clear hkey
      obtain ⟨ks, hks⟩ : ∃ ks, keyS (itR k r l t wl) = ks := ⟨_, rfl⟩
      rw [hks] at HKEY ⊢
      clear hks
      have hhas := has_mpO (fun i => itR k r l i wl) (itR k r l t wl) t
      by_cases hex : ∃ i, i < t ∧ itR k r l i wl = itR k r l t wl
      · obtain ⟨i, hit, hie⟩ := hex
        have hh : Maps.has (mpO (fun i => itR k r l i wl) t) (kO (itR k r l t wl)) = true := hhas.2 ⟨i, hit, by rw [hie]⟩
        have hat2 := at_mpO (fun i => itR k r l i wl) (itR k r l t wl) (.lit (.int .i64 0)) t (fun x y h1 h2 e => HDS.out x y h1 h2 ((HKK.out x y).1 e)) i hit (by rw [hie])
        have HIE := Lib.hid hie
        have HH := Lib.hid hh
        have HA := Lib.hid hat2
        have w1 : IntKind.i64.wrap ((t : Int) - (i : Int)) = ((t - i : Nat) : Int) := by rw [show ((t - i : Nat) : Int) = (t : Int) - (i : Int) by omega]; exact IntWalk.i64_in _ (by omega)
        clear hhas hie hh hat2
        go_wp2_with (at_lookup; refine wpList_lookup_own_ok_int _ rfl _ _ 65 rfl 9 3 .i64 lawSR Tryd.underlying65 Tryd.underlying3 (zeroIR _) mb t _ rfl HM3.out _ _ rfl HKEY.out ?_; intro cL hat hwc; rw [HH.out]; (obtain rfl : cL = (i : Int) := (by have q := hat.symm.trans HA.out; injection q with q; injection q)); clear hat hwc)
        go_ret3
        exact ⟨HB3.out, .inl ⟨i, t - i, by omega, by omega, by rw [show i + (t - i) = t by omega]; exact HIE.out.symm, fun x y h1 h2 => HDS.out x y h1 (by omega), rfl⟩⟩
      · have hh : Maps.has (mpO (fun i => itR k r l i wl) t) (kO (itR k r l t wl)) = false := by
          cases hb : Maps.has (mpO (fun i => itR k r l i wl) t) (kO (itR k r l t wl)) with
          | false => rfl
          | true =>
            obtain ⟨i, h1, h2⟩ := hhas.1 hb
            exact absurd ⟨i, h1, (HKK.out i t).1 h2⟩ hex
        have HH := Lib.hid hh
        have HEX := Lib.hid hex
        have HMWN : Hid (mb ≠ W.heap.size) := by have := HMW.out; show mb ≠ W.heap.size; omega
        have HMWB : Hid (∀ k, some mb = some k → W.heap.size ≤ k) := fun j hj => by cases hj; exact Nat.le_of_lt HMW.out
        clear hhas hh hex
        go_wp2_with (first
          | (at_lookup; refine wpList_lookup_own_ok_int _ rfl _ _ 65 rfl 9 3 .i64 lawSR Tryd.underlying65 Tryd.underlying3 (zeroIR _) mb t _ rfl HM3.out _ _ rfl HKEY.out ?_; intro cL hat hwc; rw [HH.out]; clear hat hwc)
          | (at_mapUpdate; refine wpList_mapUpdate_own _ rfl _ _ _ 65 rfl 9 3 lawSR Tryd.underlying65 _ mb t _ rfl HM3.out (by unfold maxLen; omega) _ _ _ rfl rfl HKEY.out _ [] (plainElem_int Tryd.underlying3 (wf_nat (by omega))) ?_; intro w4 hm4 hg4; have HM4 := Lib.hid hm4; have HP4 := Lib.hid ((hg4.block _ (heap_ltT HP3.out) (fun q => HMWN.out (Option.some.inj q).symm)).trans HP3.out); have HK4 := Lib.hid (rk_grownO HK3.out hg4 HM3.out); have HB4 := Lib.hid (HB3.out.grown hg4 HB3.out.size HMWB.out); clear hm4 hg4; have x0 : w4.cell? ⟨W.heap.size, 0, none⟩ = some (.int .i64 k) := (by simp [World.cell?, HP4.out]); have x1 : w4.cell? ⟨W.heap.size, 1, none⟩ = some (.int .i64 r) := (by simp [World.cell?, HP4.out]); have x2 : w4.cell? ⟨W.heap.size, 2, none⟩ = some (.slice a n c) := (by simp [World.cell?, HP4.out])))
        refine (rimage_ok k r a n c l a' nw c' (itR k r l t wl) w4 (HR.out.up HB4.out) HK4.out HRU.out (itR_ring HRU.out HRG.out t)).mono ?_; rintro e w5 ⟨a5, c5, rfl, ho5, hb5⟩
        clear x0 x1 x2
        have HM5 := Lib.hid (mapO_of HM4.out (hb5.block _ (mapO_lt HM4.out)))
        go_wp2
        go_roundw
        case rel =>
          refine ⟨t + 1, a5, c5, by omega, by go_num, rfl, ho5.rk, fun i j h1 h2 => ?_, HM5.out, (hb5.block _ (heap_ltT HP4.out)).trans HP4.out, bstep HB4.out hb5⟩
          rcases Nat.lt_or_ge j t with h3 | h3
          · exact HDS.out i j h1 h3
          · obtain rfl : j = t := by omega
            exact fun e => HEX.out ⟨i, h1, e⟩
        case measure => simp [intOf]; omega
    · obtain rfl : t = 4097 := by omega
      have t1 : ¬ ((4097 : Nat) : Int) ≤ 4096 := by omega
      go_wp2_with fail
      refine (ring_wrong _ _ _ R (HG.out.up HB.out) (by rfl)).mono ?_; rintro e w' ⟨rfl, rfl⟩
      go_wp2
      go_ret3
      exact ⟨balloc HB.out _, .inr ⟨HDS.out, _, rfl, isErr_new HB.out.size⟩⟩
theorem orbit_any (k r : Nat) (a : Option Addr) (n c : Nat) (l : List Int) (aw : Option Addr) (nw cw : Nat) (wl : List Int) (W : World) (R : Nat → Addr) (hG : Glob W R) (hR : RK .i64 W a n l) (hW : RK .i64 W aw nw wl) (h : IsRule k r l) (hw : IsRing k wl) (h64 : nw ≤ 64) :
    Calls Tryd.prog 22 #[ruleV k r a n c, .slice aw nw cw] W fun e w' => Below W.heap.size W w' ∧ ((∃ m p : Nat, 1 ≤ p ∧ m + p ≤ 4096 ∧ itR k r l (m + p) wl = itR k r l m wl ∧ (∀ i j, i < j → j < m + p → itR k r l i wl ≠ itR k r l j wl) ∧ e = .returned (.tuple #[.int .i64 m, .int .i64 p, .nilIface])) ∨
      ((∀ i j, i < j → j < 4097 → itR k r l i wl ≠ itR k r l j wl) ∧ ∃ g, e = .returned (.tuple #[.int .i64 0, .int .i64 0, .iface 72 (.pointer (some ⟨g, 0, none⟩))]))) := by
  refine (orbit_anyI k r a n c l aw nw cw wl W R hG hR hW h hw h64).mono ?_
  rintro e w' ⟨hb, h1 | ⟨h1, g, he, _⟩⟩
  · exact ⟨hb, .inl h1⟩
  · exact ⟨hb, .inr ⟨h1, g, he⟩⟩
end Go.Proofs.YtjgblanpaanglaaDoor
