/- edentop.eca: an elementary rule by its number. -/
import Derived.Test.YtiglilecmieelaaGreatDoorRuleA
import Derived.Test.YtiglilecmieelaaGreatDoorBitI
import Derived.Test.YtiglilecmieelaaGreatDoorSl
import Derived.Deep.RegionWith
import Derived.Deep.RegionLaw
import Derived.Deep.QuietTactic
import Derived.BigQuiet
namespace Go.Proofs.YtiglilecmieelaaGreatDoor
open Go.RowKit
set_option linter.unusedVariables false
set_option maxRecDepth 100000

/-- the first n bits of a number -/
def ecaL (N n : Nat) : List Int := (List.range n).map fun j => ((N / 2 ^ j % 2 : Nat) : Int)
theorem ecaL_len (N n : Nat) : (ecaL N n).length = n := by simp [ecaL]
theorem ecaL_succ (N n : Nat) : ecaL N (n + 1) = ecaL N n ++ [((N / 2 ^ n % 2 : Nat) : Int)] := by simp [ecaL, List.range_succ]
theorem eca_rule (N : Nat) : IsRule 2 1 (ecaL N 8) := ⟨by decide, by decide, by decide, ecaL_len _ _, fun x hx => by
  obtain ⟨j, _, rfl⟩ := List.mem_map.1 hx
  omega⟩
theorem cells3E {w : World} {g : Nat} {x0 x1 x2 : Value} {t : TypeId} (h : w.heap[g]? = some (.cells #[x0, x1, x2] t)) : (w.cell? ⟨g, 0, none⟩ = some x0 ∧ w.cell? ⟨g, 1, none⟩ = some x1 ∧ w.cell? ⟨g, 2, none⟩ = some x2) ∧ w.frozen? ⟨g, 0, none⟩ = false ∧ w.frozen? ⟨g, 1, none⟩ = false ∧ w.frozen? ⟨g, 2, none⟩ = false := by
  simp [World.cell?, World.frozen?, h]
theorem set2E {w : World} {g : Nat} {x0 x1 x2 : Value} {t : TypeId} {fr : Nat × Nat} (h : w.heap[g]? = some (.cells #[x0, x1, x2] t fr)) (u : Value) : (w.setCell ⟨g, 2, none⟩ u).heap[g]? = some (.cells #[x0, x1, u] t fr) := by
  simp [World.setCell, Array.getElem?_modify, h]
theorem set3E {w : World} {g : Nat} {x0 x1 x2 : Value} {t : TypeId} {fr : Nat × Nat} (h : w.heap[g]? = some (.cells #[x0, x1, x2] t fr)) (u0 u1 u2 : Value) :
    ∃ w6, (((w.setCell ⟨g, 0, none⟩ u0).setCell ⟨g, 1, none⟩ u1).setCell ⟨g, 2, none⟩ u2) = w6 ∧ (∀ k, k ≠ g → w6.heap[k]? = w.heap[k]?) ∧ w6.heap.size = w.heap.size ∧ (∀ (V : World) (B : Nat), B ≤ g → Below B V w → Below B V w6) ∧ w6.heap[g]? = some (.cells #[u0, u1, u2] t fr) := by
  refine ⟨_, rfl, fun k hk => ?_, ?_, fun V B hB hb => ?_, ?_⟩
  · rw [Below.heap_setCell _ _ _ _ hk, Below.heap_setCell _ _ _ _ hk, Below.heap_setCell _ _ _ _ hk]
  · simp [World.setCell]
  · exact ((hb.setCell (p := ⟨g, 0, none⟩) hB _).setCell (p := ⟨g, 1, none⟩) hB _).setCell (p := ⟨g, 2, none⟩) hB _
  · simp [World.setCell, Array.getElem?_modify, h]
theorem own_of_heapE {w w' : World} {base sz n : Nat} {e : TypeId} {v : Value} {cs : List Value} (h : w.ownsRow base e sz v n cs) (hh : ∀ b, v.ownBlock = some b → w'.heap[b]? = w.heap[b]?) : w'.ownsRow base e sz v n cs := by
  refine ⟨h.1, ?_⟩
  rcases h.2 with hn | ⟨g, cap, cur, rfl, hbg, hg, rest⟩
  · exact .inl hn
  · exact .inr ⟨g, cap, cur, rfl, hbg, by rw [hh g rfl]; exact hg, rest⟩
theorem heap_ltE {w : World} {b : Nat} {o : Obj} (h : w.heap[b]? = some o) : b < w.heap.size := (Array.getElem?_eq_some_iff.1 h).1
theorem alE {w : World} {a : Addr} {v : Value} {o : Obj} (h : w.cell? a = some v) : (w.alloc o).cell? a = some v := ((balloc (bnil w) o).cell (World.block_lt_of_cell? _ _ h)).trans h

set_option maxHeartbeats 8000000 in
theorem eca_any (N : Nat) (W : World) (hN : N ≤ 255) :
    Calls Tryz.prog 7 #[.int .i64 (N : Nat)] W fun e w' => ∃ a c, e = .returned (ruleV 2 1 a 8 c) ∧ OwI w' W.heap.size a 8 c (ecaL N 8) ∧ Below W.heap.size W w' := by
  obtain ⟨w0, hw0⟩ : ∃ w0, (W.alloc (.cells #[.int .i64 0, .int .i64 0, .slice none 0 0] 24)).alloc (.cells #[.int .i64 2, .int .i64 1, .slice none 0 0] 24) = w0 := ⟨_, rfl⟩
  have hsz : w0.heap.size = W.heap.size + 2 := by rw [← hw0]; simp
  have HZY : Hid (w0.heap[W.heap.size]? = some (.cells #[.int .i64 0, .int .i64 0, .slice none 0 0] 24)) := by
    show _ = _
    rw [← hw0, heap_alloc_old _ _ (by simp)]
    exact heap_alloc_new W _
  obtain ⟨v, hv⟩ : ∃ v, W.heap.size + 1 = v := ⟨_, rfl⟩
  have HZ0 : Hid (w0.heap[v]? = some (.cells #[.int .i64 2, .int .i64 1, .slice none 0 0] 24)) := by
    show _ = _
    rw [← hw0, ← hv]
    have h := heap_alloc_new (W.alloc (.cells #[.int .i64 0, .int .i64 0, .slice none 0 0] 24)) (.cells #[.int .i64 2, .int .i64 1, .slice none 0 0] 24)
    simpa using h
  have HBX : Hid (Below W.heap.size W w0) := by show Below _ _ _; rw [← hw0]; exact balloc (balloc (bnil W) _) _
  have HSZ : Hid (w0.heap.size = v + 1) := by show _ = _; omega
  have HV := Lib.hid hv
  have HWB := Lib.hid hw0
  clear hw0 hsz hv
  go_enter Tryz.func7, Tryz.ntmps7
  go_wp2_with fail
  rw [HWB.out]
  simp only [HV.out]
  go_loopw [4] (fun ix wr => ∃ (i : Nat) (aa : Option Addr) (cc : Nat), i ≤ 8 ∧ ix = .int .i64 (i : Nat) ∧ wr.heap[v]? = some (.cells #[.int .i64 2, .int .i64 1, .slice aa i cc] 24) ∧ OwI wr (v + 1) aa i cc (ecaL N i) ∧ wr.heap[W.heap.size]? = some (.cells #[.int .i64 0, .int .i64 0, .slice none 0 0] 24) ∧ Below W.heap.size W wr) (fun ix _ => 8 - (intOf ix).toNat)
  case atStart => exact ⟨0, none, 0, by omega, rfl, HZ0.out, OwI.nil _ _, HZY.out, HBX.out⟩
  case round =>
    obtain ⟨s, a3, c3, hs, rfl, hh3, ho3, hy3, hb3⟩ := hrel
    have HB3 := Lib.hid hb3
    have HY3 := Lib.hid hy3
    have HO3 := Lib.hid ho3
    have HH3 := Lib.hid hh3
    clear hb3 hy3
    by_cases hs8 : s < 8
    · obtain ⟨⟨u0, u1, u2⟩, g0, g1, g2⟩ := cells3E hh3
      have hvs : v + 1 ≤ wr.heap.size := heap_ltE hh3
      have i1 : (s : Int) < 8 := by omega
      have i2 : (0 : Int) ≤ (s : Int) := by omega
      have i3 : (s : Int) ≤ 64 := by omega
      obtain ⟨A1, hA1⟩ : ∃ A1, N / 2 ^ s = A1 := ⟨_, rfl⟩
      have hA1I : (N : Int) / 2 ^ s = (A1 : Int) := by rw [← hA1, Int.natCast_ediv, Int.natCast_pow]; rfl
      have hA2 : A1 ≤ N := by rw [← hA1]; exact Nat.div_le_self _ _
      have haa := and1_i64 (a := A1) (by omega)
      have hsn : ecaL N (s + 1) = ecaL N s ++ [((A1 % 2 : Nat) : Int)] := by rw [ecaL_succ, hA1]
      obtain ⟨u, hu⟩ : ∃ u : Int, ((A1 % 2 : Nat) : Int) = u := ⟨_, rfl⟩
      rw [hu] at haa hsn
      have HSN := Lib.hid hsn
      clear hsn ho3 hh3 hA1 u1 g0 g1 u0 hu hA2
      have y3 : (wr.alloc (.cells #[.int .i64 u] 3)).cell? ⟨v, 2, none⟩ = some (.slice a3 s c3) := alE u2
      go_wp2_with fail
      go_region_law (first
        | (refine step_app_lit (by rfl) _ _ _ (by rfl) (v + 1) et_int _ s _ HO3.out.own (by rfl) 1 _ _ (by rfl) (by simp) (by rfl) (by rfl) (by unfold maxLen; omega) (by omega) hvs ?_; intro a5 c5 w5 ho5 hg5 hb5 hs5; have y5 : w5.cell? ⟨v, 2, none⟩ = some (.slice a3 s c3) := (hb5.cell (p := ⟨v, 2, none⟩) (Nat.lt_succ_self v)).trans u2; have q5 := (hb5.frozen (p := ⟨v, 2, none⟩) (Nat.lt_succ_self v)).trans g2))
      all_goals
        have hh5 := (hb5.block v (Nat.lt_succ_self v)).trans HH3.out
        have hy5 := (hb5.block W.heap.size (by have := HV.out; omega)).trans HY3.out
        have HH6 := Lib.hid (set2E hh5 (.slice a5 (s + 1) c5))
        have HY6 : Hid ((w5.setCell ⟨v, 2, none⟩ (.slice a5 (s + 1) c5)).heap[W.heap.size]? = some (.cells #[.int .i64 0, .int .i64 0, .slice none 0 0] 24)) := by show _ = _; rw [Below.heap_setCell _ _ _ _ (by show _ ≠ v; have := HV.out; omega)]; exact hy5
        have HO6 : Hid (OwI (w5.setCell ⟨v, 2, none⟩ (.slice a5 (s + 1) c5)) (v + 1) a5 (s + 1) c5 (ecaL N (s + 1))) := by
          show OwI _ _ _ _ _ _
          rw [HSN.out]
          exact ⟨by simpa using own_of_heapE ho5 fun b hb => Below.heap_setCell _ _ _ _ (by have := (ho5.lt b hb).1; show b ≠ v; omega)⟩
        have HB6 := Lib.hid ((HB3.out.trans (hb5.mono (by have := HV.out; omega))).setCell (p := ⟨v, 2, none⟩) (by show _ ≤ v; have := HV.out; omega) (.slice a5 (s + 1) c5))
        clear hh5 hy5 ho5 hg5 hb5 hs5 y5 q5 y3 u2 g2
        go_wp2
        go_roundw
        case rel => exact ⟨s + 1, a5, c5, by omega, by go_num, HH6.out, HO6.out, HY6.out, HB6.out⟩
        case measure => simp [intOf]; omega
    · obtain rfl : s = 8 := by omega
      have i1 : ¬ ((8 : Nat) : Int) < 8 := by omega
      clear ho3 hh3
      obtain ⟨⟨u0, u1, u2⟩, _⟩ := cells3E HH3.out
      obtain ⟨⟨p0, p1, p2⟩, f3, f4, f5⟩ := cells3E HY3.out
      obtain ⟨w9, e9, hk, hs9, hbl, hz⟩ := set3E HY3.out (.int .i64 2) (.int .i64 1) (.slice a3 8 c3)
      obtain ⟨⟨r0, r1, r2⟩, _⟩ := cells3E hz
      have HO9 : Hid (OwI w9 W.heap.size a3 8 c3 (ecaL N 8)) := OwI.base ⟨own_of_heapE HO3.out.own fun b hb => hk b (by have := (HO3.out.own.lt b hb).1; have := HV.out; omega)⟩ (by have := HV.out; omega)
      have HBE := Lib.hid (hbl W W.heap.size (Nat.le_refl _) HB3.out)
      have HE9 := Lib.hid e9
      have HRR := Lib.hid (And.intro r0 (And.intro r1 r2))
      clear e9 hk hs9 hbl hz r0 r1 r2
      go_wp2
      rw [HE9.out]
      have r0 := HRR.out.1
      have r1 := HRR.out.2.1
      have r2 := HRR.out.2.2
      refine bodyPost_ret (v := ruleV 2 1 a3 8 c3) (by simp [ruleV, results, Tryz.results7, go_sem, r0, r1, r2]) rfl ?_
      exact ⟨a3, c3, rfl, HO9.out, HBE.out⟩
end Go.Proofs.YtiglilecmieelaaGreatDoor
