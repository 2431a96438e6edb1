/- Package forms: symbol, the call-backs of Power and behind, made. -/
import Derived.Test.YtiglilecmieelaaGreatDoorPowA
import Derived.Test.YtiglilecmieelaaGreatDoorClone
import Derived.Test.YtiglilecmieelaaGreatDoorSl
import Derived.Deep.RegionHeld3
import Derived.Deep.QuietTactic
import Derived.BigQuiet
namespace Go.Proofs.YtiglilecmieelaaGreatDoor
open Go.RowKit
set_option linter.unusedVariables false
set_option maxRecDepth 100000

theorem cpP {w w' : World} {a : Addr} {v : Value} (hb : Below w.heap.size w w') (h : w.cell? a = some v) : w'.cell? a = some v := (hb.cell (World.block_lt_of_cell? _ _ h)).trans h
theorem heap_ltP {w : World} {b : Nat} {o : Obj} (h : w.heap[b]? = some o) : b < w.heap.size := (Array.getElem?_eq_some_iff.1 h).1
theorem set3P {w : World} {g : Nat} {x0 x1 x2 : Value} {t : TypeId} {fr : Nat × Nat} (h : w.heap[g]? = some (.cells #[x0, x1, x2] t fr)) (u0 u1 u2 : Value) :
    ∃ w6, (((w.setCell ⟨g, 0, none⟩ u0).setCell ⟨g, 1, none⟩ u1).setCell ⟨g, 2, none⟩ u2) = w6 ∧ (∀ k, k ≠ g → w6.heap[k]? = w.heap[k]?) ∧ w6.heap.size = w.heap.size ∧ (∀ (V : World) (B : Nat), B ≤ g → Below B V w → Below B V w6) ∧ w6.heap[g]? = some (.cells #[u0, u1, u2] t fr) := by
  refine ⟨_, rfl, fun k hk => ?_, ?_, fun V B hB hb => ?_, ?_⟩
  · rw [Below.heap_setCell _ _ _ _ hk, Below.heap_setCell _ _ _ _ hk, Below.heap_setCell _ _ _ _ hk]
  · simp [World.setCell]
  · exact ((hb.setCell (p := ⟨g, 0, none⟩) hB _).setCell (p := ⟨g, 1, none⟩) hB _).setCell (p := ⟨g, 2, none⟩) hB _
  · simp [World.setCell, Array.getElem?_modify, h]
theorem cells3P {w : World} {g : Nat} {x0 x1 x2 : Value} {t : TypeId} (h : w.heap[g]? = some (.cells #[x0, x1, x2] t)) : (w.cell? ⟨g, 0, none⟩ = some x0 ∧ w.cell? ⟨g, 1, none⟩ = some x1 ∧ w.cell? ⟨g, 2, none⟩ = some x2) ∧ w.frozen? ⟨g, 0, none⟩ = false ∧ w.frozen? ⟨g, 1, none⟩ = false ∧ w.frozen? ⟨g, 2, none⟩ = false := by
  simp [World.cell?, World.frozen?, h]
theorem rk_heapP {k : IntKind} {w w' : World} {b o n : Nat} {l : List Int} (h : RK k w (some ⟨b, o, none⟩) n l) {g : Nat} (hk : ∀ k, k ≠ g → w'.heap[k]? = w.heap[k]?) (hs : w'.heap.size = w.heap.size) (hg : b ≠ g) : RK k w' (some ⟨b, o, none⟩) n l := by
  refine ⟨h.1, h.2.1, ?_⟩
  rcases h.2.2 with h0 | ⟨b2, o2, e, hb, hc⟩
  · exact .inl h0
  · cases e
    refine .inr ⟨b, o, rfl, by omega, fun j u hu => ?_⟩
    rw [World.cell?_of_block (w := w)]
    · exact hc j u hu
    · exact hk b hg
theorem rule_T {k r : Nat} {tb : List Int} (h : IsRule k r tb) : k ^ (2 * r + 1) ≤ 16384 := rpow_le h.k4 (by have := h.r3; omega)

set_option maxHeartbeats 4000000 in
theorem fsymbol (k r : Nat) (a : Option Addr) (T c : Nat) (tb : List Int) (aw : Option Addr) (nw cw : Nat) (l : List Int) (W : World) (hT : RK .i64 W a T tb) (hW : RK .i64 W aw nw l) (h : IsRule k r tb) (hl : nw = 2 * r + 1) (hs : ∀ x ∈ l, 0 ≤ x ∧ x < (k : Int)) :
    Calls Tryz.prog 84 #[ruleV k r a T c, .slice aw nw cw] W fun e w' => e = .returned (.int .i64 (symL k tb l)) ∧ Below W.heap.size W w' := by
  have hTl := hT.len
  have hwl := hW.len
  have k1 := h.k1
  have k4 := h.k4
  have r3 := h.r3
  have HLN := Lib.hid h.len
  have HTB := Lib.hid (rule_T h)
  have HS := Lib.hid hs
  have HTL := Lib.hid hTl
  have HWL := Lib.hid hwl
  have HLW := Lib.hid hl
  have hnw : nw ≤ 7 := by omega
  clear hl
  obtain ⟨Wb, hWb⟩ : ∃ Wb, W.alloc (.cells #[.int .i64 k, .int .i64 r, .slice a T c] 24) = Wb := ⟨_, rfl⟩
  have hz : Wb.heap[W.heap.size]? = some (.cells #[.int .i64 k, .int .i64 r, .slice a T c] 24) := by rw [← hWb]; exact heap_alloc_new W _
  have HBX : Hid (Below W.heap.size W Wb) := by rw [← hWb]; exact balloc (bnil W) _
  have HZ := Lib.hid hz
  have HT := Lib.hid (hT.up HBX.out)
  have HW := Lib.hid (hW.up HBX.out)
  have HWB := Lib.hid hWb
  clear hT hW h hs hTl hwl hWb hz
  go_enter Tryz.func84, Tryz.ntmps84
  go_wp2_with fail
  rw [HWB.out]
  go_loopw [5, 10] (fun nx ix wr => ∃ i p : Nat, i ≤ nw ∧ ix = .int .i64 (i : Nat) ∧ nx = .int .i64 (p : Nat) ∧ Hid (p = winF k (fun j => l.getD j 0) i) ∧ wr = Wb) (fun _ ix _ => nw - (intOf ix).toNat)
  case atStart => exact ⟨0, 0, Nat.zero_le _, rfl, rfl, rfl, rfl⟩
  case round =>
    obtain ⟨i, p, hi, rfl, rfl, HP, hwr⟩ := hrel
    rw [hwr]
    clear hwr
    obtain ⟨⟨z0, z1, z2⟩, _⟩ := cells3P HZ.out
    by_cases hin : i < nw
    · obtain ⟨b, o, rfl, _, hc⟩ := HW.out.addr (by omega)
      have x0 := hc i hin
      clear hc
      have hx := HS.out (l.getD i 0) (by have := HWL.out; simp [show i < l.length by omega])
      have hpb : p < k ^ i := by
        rw [HP.out]
        exact winF_lt fun j hj => by
          have h2 : l.getD j 0 = l[j]'(by have := HWL.out; omega) := by simp [show j < l.length by have := HWL.out; omega]
          rw [h2]; exact HS.out _ (List.getElem_mem _)
      have hpi : k ^ i ≤ 16384 := rpow_le k4 (by omega)
      obtain ⟨x, hxe⟩ : ∃ x : Nat, l.getD i 0 = (x : Int) := ⟨(l.getD i 0).toNat, by omega⟩
      have HNX : Hid (p * k + x = winF k (fun j => l.getD j 0) (i + 1)) := by
        show _ = winF k (fun j => l.getD j 0) i * k + (l.getD i 0).toNat
        rw [← HP.out, hxe]; rfl
      rw [hxe] at x0 hx
      clear hxe
      have hp16 : p ≤ 16384 := by omega
      have hpk : p * k ≤ 16384 * 4 := Nat.mul_le_mul hp16 k4
      obtain ⟨q, hq⟩ : ∃ q, p * k = q := ⟨_, rfl⟩
      have hqi : (p : Int) * (k : Int) = (q : Int) := by rw [← hq]; simp
      rw [hq] at hpk HNX
      have e1 : IntKind.i64.wrap (q : Int) = (q : Int) := IntWalk.i64_in _ (by omega)
      have e2 : IntKind.i64.wrap ((q : Int) + (x : Int)) = ((q + x : Nat) : Int) := by rw [IntWalk.i64_in _ (by omega)]; omega
      have i0 : (0 : Int) ≤ (i : Int) := by omega
      have i1 : (i : Int) < (nw : Int) := by omega
      clear hq hpb hpi
      go_wp2
      go_roundw
      case rel => exact ⟨i + 1, q + x, by omega, by go_num, rfl, HNX, trivial⟩
      case measure => simp [intOf]; omega
    · obtain rfl : i = nw := by omega
      have i1 : ¬ (i : Int) < (i : Int) := by omega
      have hpn : p = numL k l := by rw [HP.out, HWL.out]; rfl
      have hpT : p < T := by
        rw [hpn, HTL.out, HLN.out, ← HLW.out, HWL.out]
        exact numL_lt HS.out
      obtain ⟨b, o, rfl, _, hc⟩ := HT.out.addr (by omega)
      have x0 := hc p hpT
      have HV : Hid (tb.getD p 0 = symL k tb l) := by show _ = tb.getD (numL k l) 0; rw [hpn]
      have p0 : (0 : Int) ≤ (p : Int) := by omega
      have p1 : (p : Int) < (T : Int) := by omega
      clear hc hpn hpT
      generalize tb.getD p 0 = v at *
      go_wp2
      go_ret
      exact ⟨by first | exact HV.out | (rw [HV.out]; rfl) | rw [HV.out], HBX.out⟩

/-- a call-back that tells a window's symbol -/
def TellsW (F : Nat) (cap : Array Value) (V : World) (m k : Nat) (f : List Int → Int) : Prop :=
  ∀ (w' : World), Below V.heap.size V w' → ∀ (aw : Option Addr) (cw : Nat) (l : List Int), m ≤ cw → RK .i64 w' aw m l → (∀ x ∈ l, 0 ≤ x ∧ x < (k : Int)) →
    Calls Tryz.prog F (#[.slice aw m cw] ++ cap) w' fun e w'' => e = .returned (.int .i64 (f l)) ∧ Below w'.heap.size w' w''
end Go.Proofs.YtiglilecmieelaaGreatDoor
