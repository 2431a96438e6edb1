/- Lists of numbers in memory; edenraw.Ints. -/
import Derived.Test.YtnmegpplfbkpcaaDoorProg
import Derived.Test.YtnmegpplfbkpcaaDoorBase
import Derived.WalkKit
import Derived.Deep.QuietTactic
import Derived.BigQuiet
import Derived.Laws.OwnMore
import Derived.IntWalk
import Derived.Lib.Hide
namespace Go.Proofs.YtnmegpplfbkpcaaDoor
open Go.RowKit
set_option linter.unusedVariables false
set_option maxRecDepth 100000

/-- A slice (its address, its length) reads as the list l of numbers of the kind k. -/
def RK (k : IntKind) (w : World) (a : Option Addr) (n : Nat) (l : List Int) : Prop := n = l.length ∧ Rd w a n 1 (l.map (Value.int k))
theorem RK.len {k : IntKind} {w : World} {a : Option Addr} {n : Nat} {l : List Int} (h : RK k w a n l) : n = l.length := h.1
theorem RK.up {k : IntKind} {w w' : World} {a : Option Addr} {n : Nat} {l : List Int} (h : RK k w a n l) (hb : Below w.heap.size w w') : RK k w' a n l := ⟨h.1, h.2.up hb⟩
theorem RK.al {k : IntKind} {w : World} {a : Option Addr} {n : Nat} {l : List Int} (h : RK k w a n l) (o : Obj) : RK k (w.alloc o) a n l := ⟨h.1, h.2.al o⟩
theorem RK.dr {k : IntKind} {w : World} {a : Option Addr} {n : Nat} {l : List Int} (h : RK k w a n l) (m : Nat) : RK k (w.drewN m) a n l := h.up (bdrewN (bnil _) m)
theorem RK.addr {k : IntKind} {w : World} {a : Option Addr} {n : Nat} {l : List Int} (h : RK k w a n l) (hn : 0 < n) :
    ∃ b o, a = some ⟨b, o, none⟩ ∧ b < w.heap.size ∧ ∀ j, j < n → w.cell? ⟨b, o + j, none⟩ = some (.int k (l.getD j 0)) := by
  obtain ⟨b, o, ha, hb, hc⟩ := h.2.2.resolve_left (by omega)
  refine ⟨b, o, ha, hb, fun j hj => hc j _ ?_⟩
  have := h.1
  simp [show j < l.length by omega]
theorem RK.nil {k : IntKind} {w : World} {a : Option Addr} : RK k w a 0 [] := ⟨rfl, rfl, .inl rfl⟩
theorem rk_new {k : IntKind} {w : World} {g m : Nat} {news : Array Value} {e : TypeId} {fr : Nat × Nat} {l : List Int} (hg : g = w.heap.size) (hl : news.toList = l.map (Value.int k)) (hm : m = l.length) : RK k (w.alloc (.cells news e fr)) (some ⟨g, 0, none⟩) m l := by
  refine ⟨hm, ?_⟩
  rw [← hl]
  refine rd_new hg ?_
  have := congrArg List.length hl
  simp at this
  omega
theorem RK.of_own {k : IntKind} {w : World} {base n m c : Nat} {e : TypeId} {a : Option Addr} {l : List Int} (h : w.ownsRow base e 1 (.slice a m c) n (l.map (Value.int k))) : RK k w a n l := by
  have := owns_rd h
  exact ⟨by simpa using this.2.1.symm, this.2⟩
theorem nums_one (k : IntKind) (l : List Int) : ∀ u ∈ l.map (Value.int k), u.oneCell' = true := by
  intro u hu
  obtain ⟨x, _, rfl⟩ := List.mem_map.1 hu
  rfl


theorem take_eq_step {l1 l2 : List Int} {k : Nat} (h1 : k < l1.length) (h2 : k < l2.length) (h : l1.take k = l2.take k) (e : l1.getD k 0 = l2.getD k 0) : l1.take (k + 1) = l2.take (k + 1) := by
  rw [List.take_succ_eq_append_getElem h1, List.take_succ_eq_append_getElem h2, h]
  simp [h1, h2] at e
  rw [e]

set_option maxHeartbeats 1000000 in
theorem ints_any (a1 a2 : Option Addr) (n1 n2 c1 c2 : Nat) (l1 l2 : List Int) (W : World) (hR1 : RK .i64 W a1 n1 l1) (hR2 : RK .i64 W a2 n2 l2) (hm1 : n1 ≤ maxLen) (hm2 : n2 ≤ maxLen) :
    Calls Tryd.prog 9 #[.slice a1 n1 c1, .slice a2 n2 c2] W fun e w' => e = .returned (.bool (decide (l1 = l2))) ∧ ∃ n, w' = W.drewN n := by
  unfold maxLen at hm1 hm2
  have hl1 := hR1.len
  have hl2 := hR2.len
  have HR1 := Lib.hid hR1; clear hR1
  have HR2 := Lib.hid hR2; clear hR2
  by_cases hlen : n1 = n2
  · have hn1 : n1 ≤ n2 := by omega
    have hn2 : n2 ≤ n1 := by omega
    have hne : ((n1 : Int) != (n2 : Int)) = false := by simp; omega
    clear hlen
    have g1 : n1 ≤ l1.length := by omega
    have g2 : n2 ≤ l2.length := by omega
    have HL1 := Lib.hid hl1; clear hl1
    have HL2 := Lib.hid hl2; clear hl2
    go_enter Tryd.func9, Tryd.ntmps9
    go_wp2_with fail
    clear hne
    go_loopw [5] (fun i wr => ∃ (k n : Nat), k ≤ n1 ∧ i = .int .i64 k ∧ l1.take k = l2.take k ∧ wr = W.drewN n) (fun i _ => n1 - (intOf i).toNat)
    case atStart => exact ⟨0, 0, by omega, rfl, rfl, rfl⟩
    case round =>
      obtain ⟨k, n, hk, rfl, heq, rfl⟩ := hrel
      by_cases hlt : k < n1
      · have hlt2 : k < n2 := by omega
        obtain ⟨b1, o1, rfl, hbo1, hc1⟩ := HR1.out.addr (by omega)
        obtain ⟨b2, o2, rfl, hbo2, hc2⟩ := HR2.out.addr (by omega)
        have x0 := hc1 k hlt
        have y0 := hc2 k hlt2
        clear hc1 hc2
        have HE : Hid (l1.getD k 0 = l2.getD k 0 → l1.take (k + 1) = l2.take (k + 1)) := fun h => take_eq_step (by omega) (by omega) heq h
        have HN : Hid (¬ l1.getD k 0 = l2.getD k 0 → decide (l1 = l2) = false) := fun h => by
          rw [decide_eq_false_iff_not]; intro e; subst e; exact h rfl
        clear heq
        have i0 : (0 : Int) ≤ (k : Int) := by omega
        have i1 : (k : Int) < (n1 : Int) := by omega
        have i2 : (k : Int) < (n2 : Int) := by omega
        generalize l1.getD k 0 = z1 at *
        generalize l2.getD k 0 = z2 at *
        by_cases hz : z1 = z2
        · have HE2 := Lib.hid (HE.out hz)
          have hne : (z1 != z2) = false := by simpa using hz
          clear hz
          go_wp2_with fail
          go_quiet (fail)
          go_wp2
          go_roundw
          case rel => exact ⟨k + 1, _, by omega, by go_num, HE2.out, rfl⟩
          case measure => simp [intOf]; omega
        · have HE2 := Lib.hid (HN.out hz)
          have hne : (z1 != z2) = true := by simpa using hz
          clear hz
          go_wp2_with fail
          go_quiet (fail)
          go_wp2
          go_ret
          rw [HE2.out]
          exact ⟨rfl, n + nq, by simp⟩
      · have hfin : decide (l1 = l2) = true := by
          rw [decide_eq_true_eq]
          have := HL1.out; have := HL2.out
          rw [List.take_of_length_le (by omega), List.take_of_length_le (by omega)] at heq
          exact heq
        have HF := Lib.hid hfin
        clear heq hfin
        go_wp2
        go_ret
        rw [HF.out]
        exact ⟨rfl, _, rfl⟩
  · have hfin : decide (l1 = l2) = false := by
      rw [decide_eq_false_iff_not]; intro e; subst e; omega
    have hne : ((n1 : Int) != (n2 : Int)) = true := by simp; omega
    rw [hfin]
    clear hfin hlen hl1 hl2
    go_enter Tryd.func9, Tryd.ntmps9
    go_wp2
    go_ret
    exact ⟨rfl, 0, rfl⟩

theorem ints_eq (a1 a2 : Option Addr) (n1 n2 c1 c2 : Nat) (l : List Int) (W : World) (hR1 : RK .i64 W a1 n1 l) (hR2 : RK .i64 W a2 n2 l) (hm : l.length ≤ maxLen) :
    Calls Tryd.prog 9 #[.slice a1 n1 c1, .slice a2 n2 c2] W fun e w' => e = .returned (.bool true) ∧ ∃ n, w' = W.drewN n := by
  have h1 := hR1.len
  have h2 := hR2.len
  refine (ints_any a1 a2 n1 n2 c1 c2 l l W hR1 hR2 (by omega) (by omega)).mono fun e w' h => ?_
  rw [decide_eq_true rfl] at h
  exact h
theorem ints_eqB (a1 a2 : Option Addr) (n1 n2 c1 c2 : Nat) (l : List Int) (W : World) (hR1 : RK .i64 W a1 n1 l) (hR2 : RK .i64 W a2 n2 l) (hm : l.length ≤ maxLen) :
    Calls Tryd.prog 9 #[.slice a1 n1 c1, .slice a2 n2 c2] W fun e w' => e = .returned (.bool true) ∧ Below W.heap.size W w' :=
  (ints_eq a1 a2 n1 n2 c1 c2 l W hR1 hR2 hm).mono fun e w' h => by
    obtain ⟨h1, m, rfl⟩ := h
    exact ⟨h1, bdrewN (bnil W) m⟩
end Go.Proofs.YtnmegpplfbkpcaaDoor
