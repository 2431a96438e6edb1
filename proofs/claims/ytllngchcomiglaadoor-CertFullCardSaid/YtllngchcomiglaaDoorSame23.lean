/- The contracts of edenlaw23.same, awake. -/
import Derived.Test.YtllngchcomiglaaDoorDec
import Derived.WalkKit
import Derived.Deep.QuietTactic
import Derived.BigQuiet
import Derived.Lib.Hide
namespace Go.Proofs.YtllngchcomiglaaDoor
open Go.RowKit
set_option linter.unusedVariables false
set_option maxRecDepth 100000

theorem decode_ok (a : Option Addr) (c n : Nat) (bs : List Int) (W : World) (R : Nat → Addr) (hG : Glob W R) (hn : n = bs.length) (hR : Rd W a bs.length 1 (bs.map (Value.int .u8))) (hB : ∀ x ∈ bs, 0 ≤ x ∧ x ≤ 255) (hlen : bs.length ≤ maxLen)
    (w h : Int) (l : List (Int × Int × Int)) (hd : decF bs = .ok (w, h, l)) :
    Calls Tryd.prog 10 #[.slice a n c] W fun e w' => ∃ a c, e = .returned (.tuple #[.int .i64 w, .int .i64 h, .slice a l.length c, .nilIface]) ∧ w'.ownsRow W.heap.size 33 3 (.slice a l.length c) l.length (entsC l) ∧ Below W.heap.size W w' := by
  subst hn
  refine (decode_any a c bs W R hG hR hB hlen).mono fun e w' hp => ?_
  obtain ⟨hb, hp⟩ := hp
  rw [hd] at hp
  obtain ⟨a, c, h1, h2⟩ := hp
  exact ⟨a, c, h1, h2, hb⟩
theorem decode_err (a : Option Addr) (c n : Nat) (bs : List Int) (W : World) (R : Nat → Addr) (hG : Glob W R) (hn : n = bs.length) (hR : Rd W a bs.length 1 (bs.map (Value.int .u8))) (hB : ∀ x ∈ bs, 0 ≤ x ∧ x ≤ 255) (hlen : bs.length ≤ maxLen)
    (at_ k : Int) (hd : decF bs = .error (at_, k)) :
    Calls Tryd.prog 10 #[.slice a n c] W fun e w' => ∃ v, e = .returned (.tuple #[.int .i64 0, .int .i64 0, .slice none 0 0, v]) ∧ IsErr W.heap.size R w' v opCert at_ k ∧ Below W.heap.size W w' := by
  subst hn
  refine (decode_any a c bs W R hG hR hB hlen).mono fun e w' hp => ?_
  obtain ⟨hb, hp⟩ := hp
  rw [hd] at hp
  obtain ⟨v, h1, h2⟩ := hp
  exact ⟨v, h1, h2, hb⟩

theorem take_eq_succ {l1 l2 : List (Int × Int × Int)} {k : Nat} (h1 : k < l1.length) (h2 : k < l2.length) (h : l1.take k = l2.take k) (e : l1[k] = l2[k]) : l1.take (k + 1) = l2.take (k + 1) := by
  rw [List.take_succ_eq_append_getElem h1, List.take_succ_eq_append_getElem h2, h, e]

theorem ent_neq (x y : Int × Int × Int) (w : World) : (binOp .neq 33 (.agg #[.int .i64 x.1, .int .i64 x.2.1, .int .i64 x.2.2]) (.agg #[.int .i64 y.1, .int .i64 y.2.1, .int .i64 y.2.2])).run Tryd.prog w = .ok (.bool (!decide (x = y))) w := by
  obtain ⟨x1, x2, x3⟩ := x
  obtain ⟨y1, y2, y3⟩ := y
  have hf : Tryd.prog.fieldsOf 33 = #[⟨ "Col", 3, 0, false, "", "", 0⟩, ⟨ "A", 3, 1, false, "", "", 8⟩, ⟨ "B", 3, 2, false, "", "", 16⟩] := by kernel_rfl
  rw [run_neq_struct, run_equalIn_agg _ _ _ _ _ (by kernel_rfl) (by kernel_rfl), hf]
  simp only [Op.eqFields]
  by_cases h1 : x1 = y1
  · by_cases h2 : x2 = y2
    · by_cases h3 : x3 = y3
      · subst h1 h2 h3; simp [go_sem]
      · subst h1 h2; simp [go_sem, h3]
    · subst h1; simp [go_sem, h2]
  · simp [go_sem, h1]

set_option maxHeartbeats 1000000 in
theorem same_any (a1 a2 : Option Addr) (c1 c2 : Nat) (l1 l2 : List (Int × Int × Int)) (W : World) (hR1 : Rd W a1 l1.length 3 (entsC l1)) (hR2 : Rd W a2 l2.length 3 (entsC l2)) (hm1 : l1.length ≤ maxLen) (hm2 : l2.length ≤ maxLen) :
    Calls Tryd.prog 11 #[.slice a1 l1.length c1, .slice a2 l2.length c2] W fun e w' => e = .returned (.bool (decide (l1 = l2))) ∧ ∃ n, w' = W.drewN n := by
  unfold maxLen at hm1 hm2
  have HR1 := Lib.hid hR1; clear hR1
  have HR2 := Lib.hid hR2; clear hR2
  by_cases hlen : l1.length = l2.length
  · have hl1 : l1.length ≤ l2.length := by omega
    have hl2 : l2.length ≤ l1.length := by omega
    have hne : ((l1.length : Int) != (l2.length : Int)) = false := by simp; omega
    clear hlen
    go_enter Tryd.func11, Tryd.ntmps11
    go_wp2_with fail
    clear hne
    go_loopw [5] (fun i wr => ∃ (k n : Nat), k ≤ l1.length ∧ i = .int .i64 k ∧ l1.take k = l2.take k ∧ wr = W.drewN n) (fun i _ => l1.length - (intOf i).toNat)
    case atStart => exact ⟨0, 0, by omega, rfl, rfl, rfl⟩
    case round =>
      obtain ⟨k, n, hk, rfl, heq, rfl⟩ := hrel
      by_cases hlt : k < l1.length
      · have hlt2 : k < l2.length := by omega
        obtain ⟨b1, o1, rfl, hbo1, hc1⟩ := HR1.out.2.resolve_left (by omega)
        obtain ⟨b2, o2, rfl, hbo2, hc2⟩ := HR2.out.2.resolve_left (by omega)
        obtain ⟨x0, x1, x2⟩ := ent_cells (Below.refl W.heap.size W) hbo1 hc1 k hlt
        obtain ⟨y0, y1, y2⟩ := ent_cells (Below.refl W.heap.size W) hbo2 hc2 k hlt2
        clear hc1 hc2
        have HE : Hid (l1[k] = l2[k] → l1.take (k + 1) = l2.take (k + 1)) := fun h => take_eq_succ hlt hlt2 heq h
        have HN : Hid (¬ l1[k] = l2[k] → decide (l1 = l2) = false) := fun h => by
          rw [decide_eq_false_iff_not]; intro e; subst e; exact h rfl
        clear heq
        have g0 : (0 : Int) ≤ (k : Int) := by omega
        have g1 : (k : Int) < (l1.length : Int) := by omega
        have g2 : (k : Int) < (l2.length : Int) := by omega
        generalize hz1 : l1[k] = z1 at *
        generalize hz2 : l2[k] = z2 at *
        clear hz1 hz2
        have hneq := ent_neq z1 z2
        go_wp2_with fail
        go_quiet (fail)
        go_wp2
        · have hne : ¬ z1 = z2 := by simpa using (show (!decide (z1 = z2)) = true by assumption)
          go_ret
          rw [HN.out hne]
          exact ⟨rfl, n + nq, by simp⟩
        · have he : z1 = z2 := by simpa using (show (!decide (z1 = z2)) = false by assumption)
          have HE2 := Lib.hid (HE.out he)
          go_wp2
          go_roundw
          case rel => exact ⟨k + 1, _, by omega, by go_num, HE2.out, rfl⟩
          case measure => simp [intOf]; omega
      · have hfin : decide (l1 = l2) = true := by
          rw [decide_eq_true_eq]
          rw [List.take_of_length_le (by omega), List.take_of_length_le (by omega)] at heq
          exact heq
        have HF := Lib.hid hfin
        clear heq hfin
        go_wp2
        go_ret
        rw [HF.out]
        exact ⟨rfl, _, rfl⟩
  · have hfin : decide (l1 = l2) = false := by
      rw [decide_eq_false_iff_not]; intro e; subst e; exact hlen rfl
    have hne : ((l1.length : Int) != (l2.length : Int)) = true := by simp; omega
    rw [hfin]
    clear hfin hlen
    go_enter Tryd.func11, Tryd.ntmps11
    go_wp2
    go_ret
    exact ⟨rfl, 0, rfl⟩
end Go.Proofs.YtllngchcomiglaaDoor
