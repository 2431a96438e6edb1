/- The contracts of the statements' helpers: Nats, line, same, heavy, awake. -/
import Derived.Test.YteneiianpghalaaDoorMatC
import Derived.Deep.QuietTactic
import Derived.BigQuiet
namespace Go.Proofs.YteneiianpghalaaDoor
open Go.RowKit
set_option linter.unusedVariables false
set_option maxRecDepth 100000

set_option maxHeartbeats 2000000 in
theorem nats_eq (a1 a2 : Option Addr) (n1 n2 c1 c2 : Nat) (l : List Nat) (W : World) (h1 : NR W a1 n1 l) (h2 : NR W a2 n2 l) (hm : n1 ≤ maxLen) :
    Calls Tryd.prog 26 #[.slice a1 n1 c1, .slice a2 n2 c2] W fun e w' => e = .returned (.bool true) ∧ Below W.heap.size W w' := by
  have hmm : n1 ≤ 9223372036854775807 := hm
  obtain rfl : n1 = n2 := h1.len.trans h2.len.symm
  have H1 := Lib.hid h1; clear h1
  have H2 := Lib.hid h2; clear h2
  go_enter Tryd.func26, Tryd.ntmps26
  go_wp2_with fail
  go_loopw [5] (fun ix wr => ∃ k q : Nat, k ≤ n1 ∧ ix = .int .i64 k ∧ wr = W.drewN q) (fun ix _ => n1 - (intOf ix).toNat)
  case atStart => exact ⟨0, 0, by omega, rfl, rfl⟩
  case round =>
    obtain ⟨k, q, hk, rfl, rfl⟩ := hrel
    by_cases hlt : k < n1
    · obtain ⟨b1, o1, rfl, _, hc1⟩ := H1.out.addr (by omega)
      obtain ⟨b2, o2, rfl, _, hc2⟩ := H2.out.addr (by omega)
      have x0 := hc1 k hlt
      have y0 := hc2 k hlt
      clear hc1 hc2
      have i0 : (0 : Int) ≤ (k : Int) := by omega
      have i1 : (k : Int) < (n1 : Int) := by omega
      generalize l.getD k 0 = z at *
      go_wp2_with fail
      go_quiet (fail)
      go_wp2
      go_roundw
      case rel => exact ⟨k + 1, q + nq, by omega, by go_num, by simp⟩
      case measure => simp [intOf]; omega
    · go_wp2
      go_ret
      exact ⟨rfl, bdrewN (bnil W) q⟩

set_option maxHeartbeats 2000000 in
theorem line_eq (a1 a2 : Option Addr) (n c1 c2 : Nat) (F : Nat → List Nat) (W : World) (h1 : NsR W a1 n F) (h2 : NsR W a2 n F) (hm : n ≤ 1000000) :
    Calls Tryd.prog 50 #[.slice a1 n c1, .slice a2 n c2] W fun e w' => e = .returned (.bool true) ∧ Below W.heap.size W w' := by
  have H1 := Lib.hid h1; clear h1
  have H2 := Lib.hid h2; clear h2
  go_enter Tryd.func50, Tryd.ntmps50
  go_wp2_with fail
  go_loopw [5] (fun ix wr => ∃ k : Nat, k ≤ n ∧ ix = .int .i64 k ∧ Below W.heap.size W wr) (fun ix _ => n - (intOf ix).toNat)
  case atStart => exact ⟨0, by omega, rfl, bnil _⟩
  case round =>
    obtain ⟨k, hk, rfl, hb⟩ := hrel
    by_cases hlt : k < n
    · obtain ⟨b1, o1, rfl, hl1, hc1⟩ := H1.out.addr (by omega)
      obtain ⟨b2, o2, rfl, hl2, hc2⟩ := H2.out.addr (by omega)
      obtain ⟨a3, n3, c3, x0, hx⟩ := hc1 k hlt
      obtain ⟨a4, n4, c4, y0, hy⟩ := hc2 k hlt
      have x1 := (hb.cell (p := ⟨b1, o1 + k, none⟩) hl1).trans x0
      have y1 := (hb.cell (p := ⟨b2, o2 + k, none⟩) hl2).trans y0
      have HX := Lib.hid (hx.up hb)
      have HY := Lib.hid (hy.up hb)
      have HB := Lib.hid hb
      clear hc1 hc2 x0 y0 hx hy hb
      have i0 : (0 : Int) ≤ (k : Int) := by omega
      have i1 : (k : Int) < (n : Int) := by omega
      go_wp2_with fail
      go_region_with (go_at_call 26; refine (nats_eq a3 a4 n3 n4 c3 c4 (F k) _ (HX.out.up (bnil _).drew).nr (HY.out.up (bnil _).drew).nr (Nat.le_trans HX.out.le HX.out.cm)).mono ?_; rintro e w5 ⟨rfl, hb5⟩)
      all_goals
        have HB5 := Lib.hid (HB.out.trans (((bnil wr).drew.trans hb5).mono HB.out.size))
        clear hb5
        go_wp2
        go_roundw
        case rel => exact ⟨k + 1, by omega, by go_num, HB5.out⟩
        case measure => simp [intOf]; omega
    · go_wp2
      go_ret
      exact ⟨rfl, hb⟩

set_option maxHeartbeats 2000000 in
theorem same_eq (a1 a2 : Option Addr) (n c1 c2 : Nat) (len : Nat → Nat) (F : Nat → Nat → List Nat) (W : World) (h1 : MsR W a1 n len F) (h2 : MsR W a2 n len F) (hm : n ≤ 1000000) (hlen : ∀ i, i < n → len i ≤ 1000000) :
    Calls Tryd.prog 45 #[.slice a1 n c1, .slice a2 n c2] W fun e w' => e = .returned (.bool true) ∧ Below W.heap.size W w' := by
  have H1 := Lib.hid h1; clear h1
  have H2 := Lib.hid h2; clear h2
  have HL := Lib.hid hlen; clear hlen
  go_enter Tryd.func45, Tryd.ntmps45
  go_wp2_with fail
  go_loopw [5] (fun ix wr => ∃ k : Nat, k ≤ n ∧ ix = .int .i64 k ∧ Below W.heap.size W wr) (fun ix _ => n - (intOf ix).toNat)
  case atStart => exact ⟨0, by omega, rfl, bnil _⟩
  case round =>
    obtain ⟨k, hk, rfl, hb⟩ := hrel
    by_cases hlt : k < n
    · obtain ⟨b1, o1, rfl, hl1, hc1⟩ := H1.out.addr (by omega)
      obtain ⟨b2, o2, rfl, hl2, hc2⟩ := H2.out.addr (by omega)
      obtain ⟨a3, c3, x0, _, _, _, hx⟩ := hc1 k hlt
      obtain ⟨a4, c4, y0, _, _, _, hy⟩ := hc2 k hlt
      have x1 := (hb.cell (p := ⟨b1, o1 + k, none⟩) hl1).trans x0
      have y1 := (hb.cell (p := ⟨b2, o2 + k, none⟩) hl2).trans y0
      have HX := Lib.hid (NsR.up hx hb)
      have HY := Lib.hid (NsR.up hy hb)
      have HB := Lib.hid hb
      have hln := HL.out k hlt
      clear hc1 hc2 x0 y0 hx hy hb
      generalize len k = m at *
      have i0 : (0 : Int) ≤ (k : Int) := by omega
      have i1 : (k : Int) < (n : Int) := by omega
      go_wp2_with fail
      go_region_with (go_at_call 50; refine (line_eq a3 a4 m c3 c4 (F k) _ (HX.out.up (bnil _).drew) (HY.out.up (bnil _).drew) hln).mono ?_; rintro e w5 ⟨rfl, hb5⟩)
      all_goals
        have HB5 := Lib.hid (HB.out.trans (((bnil wr).drew.trans hb5).mono HB.out.size))
        clear hb5
        go_wp2
        go_roundw
        case rel => exact ⟨k + 1, by omega, by go_num, HB5.out⟩
        case measure => simp [intOf]; omega
    · go_wp2
      go_ret
      exact ⟨rfl, hb⟩

/-- not heavy -/
def Light (n : Nat) (len : Nat → Nat) (F : Nat → Nat → List Nat) : Prop := n ≤ 12 ∧ ∀ i, i < n → len i ≤ 12 ∧ ∀ j, j < len i → (F i j).length ≤ 8
def HeavyPost (W : World) (n : Nat) (len : Nat → Nat) (F : Nat → Nat → List Nat) (e : Ending) (w' : World) : Prop := ∃ b : Bool, e = .returned (.bool b) ∧ (b = false → Light n len F) ∧ W = w'
set_option maxHeartbeats 4000000 in
theorem heavy_any (a : Option Addr) (n c : Nat) (len : Nat → Nat) (F : Nat → Nat → List Nat) (W : World) (h : MsR W a n len F) (hm : n ≤ maxLen) :
    Calls Tryd.prog 36 #[.slice a n c] W (HeavyPost W n len F) := by
  have hmm : n ≤ 9223372036854775807 := hm
  have H := Lib.hid h; clear h
  by_cases h12 : 12 < n
  · go_enter Tryd.func36, Tryd.ntmps36
    go_wp2
    go_ret
    exact ⟨true, rfl, (fun h => by cases h), rfl⟩
  · go_enter Tryd.func36, Tryd.ntmps36
    go_wp2_with fail
    go_loop [3] (fun ix => ∃ i : Nat, i ≤ n ∧ ix = .int .i64 i ∧ Hid (∀ p, p < i → len p ≤ 12 ∧ ∀ q, q < len p → (F p q).length ≤ 8)) (fun ix => n - (intOf ix).toNat)
    case atStart => exact ⟨0, by omega, rfl, fun p hp => by omega⟩
    case round =>
      obtain ⟨i, hi, rfl, HI⟩ := hrel
      by_cases hin : i < n
      · obtain ⟨b, o, rfl, _, hc⟩ := H.out.addr (by omega)
        obtain ⟨a1, c1, x0, hle1, hcm1, _, hx⟩ := hc i hin
        have HX := Lib.hid hx
        clear hc hx
        have i0 : (0 : Int) ≤ (i : Int) := by omega
        have i1 : (i : Int) < (n : Int) := by omega
        have hcm1' : c1 ≤ 9223372036854775807 := hcm1
        obtain ⟨m, hm2⟩ : ∃ m, len i = m := ⟨_, rfl⟩
        rw [hm2] at x0 HX hle1
        have HM := Lib.hid hm2
        clear hm2
        by_cases hm12 : 12 < m
        · go_wp2
          go_ret
          exact ⟨true, rfl, (fun h => by cases h), rfl⟩
        · go_wp2_with fail
          go_loop [4] (fun jx => ∃ j : Nat, j ≤ m ∧ jx = .int .i64 j ∧ Hid (∀ q, q < j → (F i q).length ≤ 8)) (fun jx => m - (intOf jx).toNat)
          case atStart => exact ⟨0, by omega, rfl, fun p hp => by omega⟩
          case round =>
            obtain ⟨j, hj, rfl, HJ⟩ := hrel
            by_cases hjm : j < m
            · obtain ⟨b2, o2, rfl, _, hc2⟩ := HX.out.addr (by omega)
              obtain ⟨a3, n3, c3, y0, hy⟩ := hc2 j hjm
              have hlen := hy.nr.len
              have h3a := hy.le
              have h3b : c3 ≤ 9223372036854775807 := hy.cm
              have HLEN := Lib.hid hlen
              clear hc2 hy hlen
              have j0 : (0 : Int) ≤ (j : Int) := by omega
              have j1 : (j : Int) < (m : Int) := by omega
              by_cases h8 : 8 < n3
              · go_wp2
                go_ret
                exact ⟨true, rfl, (fun h => by cases h), rfl⟩
              · have HJ2 : Hid (∀ q, q < j + 1 → (F i q).length ≤ 8) := fun q hq => by
                  by_cases e : q = j
                  · subst e; have := HLEN.out; omega
                  · exact HJ.out q (by omega)
                go_wp2
                go_round
                case rel => exact ⟨j + 1, by omega, by go_num, HJ2⟩
                case measure => simp [intOf]; omega
            · obtain rfl : j = m := by omega
              have HI2 : Hid (∀ p, p < i + 1 → len p ≤ 12 ∧ ∀ q, q < len p → (F p q).length ≤ 8) := fun p hp => by
                by_cases e : p = i
                · subst e; rw [HM.out]; exact ⟨by omega, HJ.out⟩
                · exact HI.out p (by omega)
              go_wp2
              go_round
              case rel => exact ⟨i + 1, by omega, by go_num, HI2⟩
              case measure => simp [intOf]; omega
      · obtain rfl : i = n := by omega
        go_wp2
        go_ret
        exact ⟨false, rfl, fun _ => ⟨by omega, HI.out⟩, rfl⟩
end Go.Proofs.YteneiianpghalaaDoor
