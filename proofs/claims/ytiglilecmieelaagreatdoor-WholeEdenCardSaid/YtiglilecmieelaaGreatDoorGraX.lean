/- Plain: a sorted list without repeats is the rising list of its members. Plain: the pairs behind a pair, gathered symbol by symbol, sorted and without repeats. Package pairs: arrows. Package pairs: Graph. Package pairs: Graph of any rule. -/
import Derived.Test.YtiglilecmieelaaGreatDoorEdnS
import Derived.Lib.SlicesCompact
import Derived.Test.YtiglilecmieelaaGreatDoorRR
import Derived.Test.YtiglilecmieelaaGreatDoorOvQ
import Derived.Test.YtiglilecmieelaaGreatDoorFpwX
import Derived.Test.YtiglilecmieelaaGreatDoorLibE
import Derived.Deep.Cut
namespace Go.Proofs.YtiglilecmieelaaGreatDoor
open Go.Lib
set_option linter.unusedVariables false

theorem compact_inv {d : Array Int} (hs : ∀ i j, i ≤ j → j < d.size → d[i]! ≤ d[j]!) : ∀ m, m ≤ d.size → (compactUpTo d m).Pairwise (· < ·) ∧ (∀ x ∈ compactUpTo d m, ∃ j, j < m ∧ d[j]! = x) ∧ ∀ j, j < m → d[j]! ∈ compactUpTo d m
  | 0, _ => by simp [compactUpTo]
  | m + 1, hm => by
    obtain ⟨h1, h2, h3⟩ := compact_inv hs m (by omega)
    rw [compactUpTo_succ]
    by_cases hk : keeps d m = true
    · rw [if_pos hk]
      refine ⟨?_, ?_, ?_⟩
      · rw [List.pairwise_append]
        refine ⟨h1, by simp, fun x hx y hy => ?_⟩
        rw [List.mem_singleton.1 hy]
        obtain ⟨j, hj, rfl⟩ := h2 x hx
        have hle := hs j m (by omega) (by omega)
        rcases Int.lt_or_eq_of_le hle with h | h
        · exact h
        · exfalso
          have h4 := hs j (m - 1) (by omega) (by omega)
          have h5 := hs (m - 1) m (by omega) (by omega)
          have h6 : d[m]! = d[m - 1]! := by omega
          unfold keeps at hk
          simp only [decide_eq_true_eq, ne_eq] at hk
          rcases hk with hk | hk
          · omega
          · exact hk h6
      · intro x hx
        rcases List.mem_append.1 hx with h | h
        · obtain ⟨j, hj, e⟩ := h2 x h
          exact ⟨j, by omega, e⟩
        · exact ⟨m, by omega, (List.mem_singleton.1 h).symm⟩
      · intro j hj
        rcases Nat.lt_succ_iff_lt_or_eq.1 hj with h | rfl
        · exact List.mem_append.2 (.inl (h3 j h))
        · exact List.mem_append.2 (.inr (List.mem_singleton.2 rfl))
    · rw [if_neg hk, List.append_nil]
      refine ⟨h1, fun x hx => ?_, fun j hj => ?_⟩
      · obtain ⟨j, hj, e⟩ := h2 x hx
        exact ⟨j, by omega, e⟩
      · rcases Nat.lt_succ_iff_lt_or_eq.1 hj with h | rfl
        · exact h3 j h
        · unfold keeps at hk
          simp only [decide_eq_true_eq, ne_eq, not_or, Classical.not_not] at hk
          rw [hk.2]
          exact h3 (j - 1) (by omega)
theorem rising_ext : ∀ {l m : List Int}, l.Pairwise (· < ·) → m.Pairwise (· < ·) → (∀ x, x ∈ l ↔ x ∈ m) → l = m
  | [], [], _, _, _ => rfl
  | [], y :: m, _, _, h => absurd ((h y).2 (List.mem_cons_self ..)) (by simp)
  | x :: l, [], _, _, h => absurd ((h x).1 (List.mem_cons_self ..)) (by simp)
  | x :: l, y :: m, h1, h2, h => by
    rw [List.pairwise_cons] at h1 h2
    have hxy : x = y := by
      rcases List.mem_cons.1 ((h x).1 (List.mem_cons_self ..)) with e | hm
      · exact e
      · rcases List.mem_cons.1 ((h y).2 (List.mem_cons_self ..)) with e | hl
        · exact e.symm
        · have := h2.1 x hm
          have := h1.1 y hl
          omega
    subst hxy
    rw [rising_ext h1.2 h2.2 fun z => ?_]
    constructor
    · intro hz
      rcases List.mem_cons.1 ((h z).1 (List.mem_cons_of_mem _ hz)) with rfl | hm
      · exact absurd (h1.1 z hz) (Int.lt_irrefl _)
      · exact hm
    · intro hz
      rcases List.mem_cons.1 ((h z).2 (List.mem_cons_of_mem _ hz)) with rfl | hm
      · exact absurd (h2.1 z hz) (Int.lt_irrefl _)
      · exact hm
theorem sorted_get {l : List Int} (h : l.Pairwise (· ≤ ·)) : ∀ i j, i ≤ j → j < l.toArray.size → l.toArray[i]! ≤ l.toArray[j]! := by
  intro i j hij hj
  have hj' : j < l.length := by simpa using hj
  have hi' : i < l.length := by omega
  simp only [List.getElem!_toArray, List.getElem!_eq_getElem?_getD, List.getElem?_eq_getElem hj', List.getElem?_eq_getElem hi', Option.getD_some]
  rcases Nat.lt_or_eq_of_le hij with h' | rfl
  · exact List.pairwise_iff_getElem.1 h i j hi' hj' h'
  · exact Int.le_refl _
/-- sorted, then without repeats: the rising list of the members -/
theorem compact_sort {l r : List Int} (hr : r.Pairwise (· < ·)) (h : ∀ x, x ∈ l ↔ x ∈ r) : compact (l.mergeSort fun x y => decide (x ≤ y)) = r := by
  have hsort : (l.mergeSort fun x y => decide (x ≤ y)).Pairwise (· ≤ ·) := by
    have := List.pairwise_mergeSort (le := fun x y : Int => decide (x ≤ y)) (fun a b c h1 h2 => by simp only [decide_eq_true_eq] at *; omega) (fun a b => by simp only [Bool.or_eq_true, decide_eq_true_eq]; omega) l
    exact this.imp (fun h => of_decide_eq_true h)
  obtain ⟨h1, h2, h3⟩ := compact_inv (sorted_get hsort) _ (Nat.le_refl _)
  refine rising_ext (by simpa [compact] using h1) hr fun x => ?_
  have hmem : x ∈ compact (l.mergeSort fun x y => decide (x ≤ y)) ↔ x ∈ l.mergeSort fun x y => decide (x ≤ y) := by
    unfold compact
    constructor
    · intro hx
      obtain ⟨j, hj, e⟩ := h2 x (by simpa using hx)
      have hj' : j < (l.mergeSort fun x y => decide (x ≤ y)).length := by simpa using hj
      rw [← e]
      simp only [List.getElem!_toArray, List.getElem!_eq_getElem?_getD, List.getElem?_eq_getElem hj', Option.getD_some]
      exact List.getElem_mem hj'
    · intro hx
      obtain ⟨j, hj, e⟩ := List.getElem_of_mem hx
      have := h3 j (by simpa using hj)
      simp only [List.getElem!_toArray, List.getElem!_eq_getElem?_getD, List.getElem?_eq_getElem hj, Option.getD_some, e] at this
      simpa using this
  rw [hmem, List.mem_mergeSort, h]
end Go.Proofs.YtiglilecmieelaaGreatDoor
namespace Go.Proofs.YtiglilecmieelaaGreatDoor
set_option linter.unusedVariables false

section
variable (k N : Nat) (tb : List Int) (u v : Nat)
def selP (c d : Nat) : List Int := if tb.getD (u * k + c) 0 = tb.getD (v * k + d) 0 then [(((u * k + c) % N * N + (v * k + d) % N : Nat) : Int)] else []
def toP (a b : Nat) : List Int := ((List.range a).flatMap fun c => (List.range k).flatMap fun d => selP k N tb u v c d) ++ (List.range b).flatMap fun d => selP k N tb u v a d
end
section
variable {k N : Nat} {tb : List Int} {u v : Nat}
theorem toP_zero : toP k N tb u v 0 0 = [] := rfl
theorem toP_succ (a b : Nat) : toP k N tb u v a (b + 1) = toP k N tb u v a b ++ selP k N tb u v a b := by
  simp [toP, List.range_succ]
theorem toP_next (a : Nat) : toP k N tb u v a k = toP k N tb u v (a + 1) 0 := by
  simp [toP, List.range_succ]
theorem selP_len (c d : Nat) : (selP k N tb u v c d).length ≤ 1 := by
  unfold selP; split <;> simp
theorem flat_len {α : Type} (f : Nat → List α) (B : Nat) (h : ∀ x, (f x).length ≤ B) : ∀ l : List Nat, (l.flatMap f).length ≤ l.length * B
  | [] => by simp
  | x :: l => by
    have := flat_len f B h l
    have := h x
    rw [List.flatMap_cons, List.length_append, List.length_cons, Nat.add_mul]
    omega
theorem toP_len (a b : Nat) : (toP k N tb u v a b).length ≤ a * k + b := by
  unfold toP
  rw [List.length_append]
  have h1 := flat_len (fun c => (List.range k).flatMap fun d => selP k N tb u v c d) k (fun c => by
    have := flat_len (fun d => selP k N tb u v c d) 1 (fun d => selP_len c d) (List.range k)
    simpa using this) (List.range a)
  have h2 := flat_len (fun d => selP k N tb u v a d) 1 (fun d => selP_len a d) (List.range b)
  simp only [List.length_range] at h1 h2
  omega
/-- the pairs behind a pair, rising, as numbers -/
def adjI (k N : Nat) (tb : List Int) (p : Nat) : List Int := (adjF k N (labT tb) p).map fun q : Nat => (q : Int)
theorem adjI_rise (p : Nat) : (adjI k N tb p).Pairwise (· < ·) := by
  unfold adjI adjF
  rw [List.pairwise_map]
  refine List.Pairwise.imp ?_ ((List.pairwise_lt_range (n := N * N)).filter _)
  intro a b h
  exact Int.ofNat_lt.2 h
theorem toP_mem (hN : 0 < N) (hs : ∀ x ∈ tb, 0 ≤ x) {p : Nat} (hu : p / N = u) (hv : p % N = v) (x : Int) : x ∈ toP k N tb u v k 0 ↔ x ∈ adjI k N tb p := by
  have hpos : ∀ i, 0 ≤ tb.getD i 0 := fun i => by
    rw [List.getD_eq_getElem?_getD]
    by_cases h : i < tb.length
    · rw [List.getElem?_eq_getElem h]; exact hs _ (List.getElem_mem h)
    · rw [List.getElem?_eq_none (by omega)]; exact Int.le_refl _
  have hlab : ∀ i j, labT tb i = labT tb j ↔ tb.getD i 0 = tb.getD j 0 := fun i j => by
    unfold labT
    have := hpos i
    have := hpos j
    omega
  unfold toP adjI
  simp only [List.range_zero, List.flatMap_nil, List.append_nil, List.mem_flatMap, List.mem_range, List.mem_map, adjF_mem hN, pe_iff, hlab, hu, hv]
  constructor
  · rintro ⟨c, hc, d, hd, hx⟩
    unfold selP at hx
    split at hx
    · rename_i h
      exact ⟨_, ⟨c, d, hc, hd, h, rfl⟩, (List.mem_singleton.1 hx).symm⟩
    · cases hx
  · rintro ⟨q, ⟨c, d, hc, hd, h, rfl⟩, rfl⟩
    exact ⟨c, hc, d, hd, by unfold selP; rw [if_pos h]; exact List.mem_singleton.2 rfl⟩
theorem toP_sorted (hN : 0 < N) (hs : ∀ x ∈ tb, 0 ≤ x) {p : Nat} (hu : p / N = u) (hv : p % N = v) : Go.Lib.compact ((toP k N tb u v k 0).mergeSort fun x y => decide (x ≤ y)) = adjI k N tb p :=
  compact_sort (adjI_rise p) (toP_mem hN hs hu hv)
end
end Go.Proofs.YtiglilecmieelaaGreatDoor
namespace Go.Proofs.YtiglilecmieelaaGreatDoor
open Go.RowKit
set_option linter.unusedVariables false
set_option maxRecDepth 100000

theorem et_arw : ET Tryz.prog 85 87 (.agg #[.int .i64 0, .int .i64 0]) 2 16 := ⟨Tryz.underlying85, info_parts (by kernel_rfl), rfl, by decide⟩
theorem mkArw (n : Nat) (hb : n ≤ 32768) (w : World) : (Instr.makeSlice 83 (.int .i64 (n : Int)) (.int .i64 (n : Int))).run Tryz.prog w = .ok (.slice (some ⟨w.heap.size, 0, none⟩) n n) (w.alloc (.cells ((List.range n).map fun _ => Value.slice none 0 0).toArray 85)) := by
  have h := run_make_row' (P := Tryz.prog) 83 85 (.slice none 0 0) 24 Tryz.underlying83 (by kernel_rfl) rfl .i64 .i64 n (by omega) (by omega) w
  rw [h, made_listR]
/-- the arrows of a node by its first s symbols -/
def arC (k N : Nat) (tb : List Int) (i s : Nat) : List Value := (List.range s).flatMap fun c => [.int .i64 (((i * k + c) % N : Nat) : Int), .int .i64 (tb.getD (i * k + c) 0)]
theorem arC_succ (k N : Nat) (tb : List Int) (i s : Nat) : arC k N tb i (s + 1) = arC k N tb i s ++ [.int .i64 (((i * k + s) % N : Nat) : Int), .int .i64 (tb.getD (i * k + s) 0)] := by
  simp [arC, List.range_succ]
theorem arC_at (k N : Nat) (tb : List Int) (i s c : Nat) (h : c < s) : (arC k N tb i s)[c * 2]? = some (.int .i64 (((i * k + c) % N : Nat) : Int)) ∧ (arC k N tb i s)[c * 2 + 1]? = some (.int .i64 (tb.getD (i * k + c) 0)) := by
  have hl : ∀ s, (arC k N tb i s).length = s * 2 := by
    intro s
    induction s with
    | zero => rfl
    | succ s ih => rw [arC_succ, List.length_append, ih]; simp; omega
  induction s with
  | zero => omega
  | succ s ih =>
    rw [arC_succ]
    by_cases e : c = s
    · subst e
      rw [List.getElem?_append_right (by rw [hl]; omega), List.getElem?_append_right (by rw [hl]; omega), hl]
      constructor
      · rw [Nat.sub_self]; rfl
      · rw [show c * 2 + 1 - c * 2 = 1 by omega]; rfl
    · have := ih (by omega)
      rw [List.getElem?_append_left (by rw [hl]; omega), List.getElem?_append_left (by rw [hl]; omega)]
      exact this
def cntA (k m s : Nat) : Nat → Nat := fun i => if i < m then k else if i = m then s else 0
def csA (k N : Nat) (tb : List Int) (m s : Nat) : Nat → List Value := fun i => arC k N tb i (cntA k m s i)
theorem cntA_at (k m s : Nat) : cntA k m s m = s := by simp [cntA]
theorem csA_at (k N : Nat) (tb : List Int) (m s : Nat) : csA k N tb m s m = arC k N tb m s := by unfold csA; rw [cntA_at]
theorem cntA_upd (k m s : Nat) : upd (cntA k m s) m (cntA k m s m + 1) = cntA k m (s + 1) := by
  funext i
  by_cases e : i = m
  · subst e; rw [upd_at, cntA_at, cntA_at]
  · rw [upd_ne _ _ e]; simp [cntA, e]
theorem csA_upd (k N : Nat) (tb : List Int) (m s : Nat) : upd (csA k N tb m s) m (csA k N tb m s m ++ [.int .i64 (((m * k + s) % N : Nat) : Int), .int .i64 (tb.getD (m * k + s) 0)]) = csA k N tb m (s + 1) := by
  funext i
  by_cases e : i = m
  · subst e; rw [upd_at, csA_at, csA_at, arC_succ]
  · rw [upd_ne _ _ e]; simp [csA, cntA, e]
theorem cntA_next (k m : Nat) : cntA k m k = cntA k (m + 1) 0 := by
  funext i
  unfold cntA
  by_cases h1 : i < m
  · rw [if_pos h1, if_pos (by omega)]
  · by_cases h2 : i = m
    · rw [if_neg h1, if_pos h2, if_pos (by omega)]
    · rw [if_neg h1, if_neg h2, if_neg (by omega)]; simp
theorem csA_next (k N : Nat) (tb : List Int) (m : Nat) : csA k N tb m k = csA k N tb (m + 1) 0 := by
  funext i
  unfold csA; rw [cntA_next]
theorem cntA_zero (k : Nat) : cntA k 0 0 = fun _ => 0 := by funext i; simp [cntA]
theorem csA_zero (k N : Nat) (tb : List Int) : csA k N tb 0 0 = fun _ => [] := by funext i; simp [csA, cntA, arC]
/-- the arrows of all nodes lie in the block g -/
def ArwR (w : World) (B g k N : Nat) (tb : List Int) : Prop := ∃ rw_, RR w B g N 85 87 2 rw_ (cntA k N 0) (csA k N tb N 0)
set_option maxHeartbeats 4000000 in
theorem arrows_ok (k r N : Nat) (a : Option Addr) (T c : Nat) (tb : List Int) (W : World) (hR : RK .i64 W a T tb) (hI : IsRule k r tb) (hT : T ≤ 256) (hTN : T = N * k) (hN0 : 0 < N) :
    Calls Tryz.prog 29 #[ruleV k r a T c] W fun e w' => ∃ g, e = .returned (.slice (some ⟨g, 0, none⟩) N N) ∧ ArwR w' W.heap.size g k N tb ∧ Below W.heap.size W w' := by
  have k1 := hI.k1
  have k4 := hI.k4
  have hN256 : N ≤ 256 := by have h1 : N * 1 ≤ N * k := Nat.mul_le_mul_left _ k1; omega
  obtain ⟨w0, hw0⟩ : ∃ w0, W.alloc (.cells #[.int .i64 k, .int .i64 r, .slice a T c] 24) = w0 := ⟨_, rfl⟩
  have HBX : Hid (Below W.heap.size W w0) := by show Below _ _ _; rw [← hw0]; exact balloc (bnil W) _
  have hx : w0.cell? ⟨W.heap.size, 0, none⟩ = some (.int .i64 k) ∧ w0.cell? ⟨W.heap.size, 1, none⟩ = some (.int .i64 r) ∧ w0.cell? ⟨W.heap.size, 2, none⟩ = some (.slice a T c) := by rw [← hw0]; exact ⟨by simp, by simp, by simp⟩
  have HNS := Lib.hid (Nodes_ok k r N a T c tb w0 (hR.up HBX.out) hI hT hTN)
  have HR := Lib.hid hR; clear hR
  have HI := Lib.hid hI; clear hI
  have HTN := Lib.hid hTN; clear hTN
  have HX := Lib.hid hx
  obtain ⟨x0, x1, x2⟩ := hx
  rw [← hw0] at x0 x1 x2
  have HWB := Lib.hid hw0; clear hw0
  go_enter Tryz.func29, Tryz.ntmps29
  go_wp2_with fail
  rw [HWB.out]
  refine HNS.out.mono ?_; rintro e w1 ⟨rfl, hb⟩
  clear x0 x1 x2
  have HX1 : Hid (w1.cell? ⟨W.heap.size, 0, none⟩ = some (.int .i64 k) ∧ w1.cell? ⟨W.heap.size, 1, none⟩ = some (.int .i64 r) ∧ w1.cell? ⟨W.heap.size, 2, none⟩ = some (.slice a T c)) := ⟨cpE hb HX.out.1, cpE hb HX.out.2.1, cpE hb HX.out.2.2⟩
  have HB1 := Lib.hid (bstep HBX.out hb)
  clear hb
  have hmk := mkArw N (by omega)
  obtain ⟨w2, hw2⟩ : ∃ w2, w1.alloc (.cells ((List.range N).map fun _ => Value.slice none 0 0).toArray 85) = w2 := ⟨_, rfl⟩
  have HB2 : Hid (Below w1.heap.size w1 w2) := by show Below _ _ _; rw [← hw2]; exact balloc (bnil w1) _
  have HRR : Hid (RR w2 w1.heap.size w1.heap.size N 85 87 2 (fun _ => .slice none 0 0) (cntA k 0 0) (csA k N tb 0 0)) := by
    show RR _ _ _ _ _ _ _ _ _ _
    rw [cntA_zero, csA_zero, ← hw2]; exact RR.fresh w1 _ _ 2 N
  have HW2 := Lib.hid hw2; clear hw2
  go_wp2_with fail
  rw [HW2.out]
  clear hmk
  obtain ⟨g, hg⟩ : ∃ g, w1.heap.size = g := ⟨_, rfl⟩
  have HG := Lib.hid hg
  rw [hg] at HRR HB2 ⊢
  clear hg
  go_loopw [20] (fun i wr => ∃ (m : Nat) (rw_ : Nat → Value), m ≤ N ∧ i = .int .i64 m ∧ RR wr g g N 85 87 2 rw_ (cntA k m 0) (csA k N tb m 0) ∧ Below g w1 wr) (fun i _ => N - (intOf i).toNat)
  case atStart => exact ⟨0, _, Nat.zero_le _, rfl, HRR.out, HB2.out⟩
  case round =>
    clear HRR HB2
    obtain ⟨m, rw_, hm, rfl, hrr, hb⟩ := hrel
    have HRR := Lib.hid hrr
    have HB := Lib.hid hb
    have hB1 : Below w1.heap.size w1 wr := by rw [HG.out]; exact hb
    clear hrr hb
    have x0 := cpE hB1 HX1.out.1
    clear hB1
    by_cases hlt : m < N
    · have q0 : (m : Int) < (N : Int) := by omega
      go_wp2_with fail
      clear x0
      go_loopw [25] (fun i wr => ∃ (s : Nat) (rw_ : Nat → Value), s ≤ k ∧ i = .int .i64 s ∧ RR wr g g N 85 87 2 rw_ (cntA k m s) (csA k N tb m s) ∧ Below g w1 wr) (fun i _ => k - (intOf i).toNat)
      case atStart => exact ⟨0, _, Nat.zero_le _, rfl, HRR.out, HB.out⟩
      case round =>
        clear HRR HB
        obtain ⟨s, rw_, hs, rfl, hrr, hb⟩ := hrel
        have HRR := Lib.hid hrr
        have HB := Lib.hid hb
        have hB1 : Below w1.heap.size w1 wr := by rw [HG.out]; exact hb
        have HBW : Hid (Below W.heap.size W wr) := bstep HB1.out hB1
        clear hrr hb
        by_cases hsk : s < k
        · have q1 : (s : Int) < (k : Int) := by omega
          have x0 := cpE hB1 HX1.out.1
          have x1 := cpE hB1 HX1.out.2.1
          have x2 := cpE hB1 HX1.out.2.2
          clear hB1
          go_wp2_with fail
          refine (edge_ok k r N m s a T c tb wr (HR.out.up HBW.out) HI.out hT HTN.out hlt hsk).mono ?_; rintro e w3 ⟨rfl, hb3⟩
          clear x0 x1 x2
          have HRR3 := Lib.hid (HRR.out.up hb3)
          have hgs : g ≤ wr.heap.size := by have := HB.out.size; rw [HG.out] at this; exact this
          have HB3 : Hid (Below g w1 w3) := HB.out.trans (hb3.mono hgs)
          have HGS : Hid (g ≤ w3.heap.size) := Nat.le_trans hgs hb3.size
          clear hb3 hgs HRR HB HBW
          obtain ⟨a9, c9, hv9⟩ := own_wf (HRR3.out.row m hlt)
          rw [cntA_at] at hv9
          have cg := HRR3.out.cell hlt
          rw [hv9] at cg
          have HO : Hid (w3.ownsRow g 87 2 (.slice a9 s c9) s (csA k N tb m s m)) := by
            have := HRR3.out.row m hlt
            rw [cntA_at, hv9] at this
            exact this
          have HV9 := Lib.hid hv9; clear hv9
          have i0 : (0 : Int) ≤ (m : Int) := by omega
          generalize hto : (m * k + s) % N = to at *
          generalize hlb : tb.getD (m * k + s) 0 = lb at *
          have HTO := Lib.hid hto; clear hto
          have HLB := Lib.hid hlb; clear hlb
          go_wp2_with (first
            | (at_builtin; refine apl rfl _ _ _ rfl g et_arw _ s _ HO.out rfl 1 _ _ rfl rfl rfl rfl (by unfold maxLen; omega) (by omega) HGS.out ?_; intro a4 c4 w4 h4; have HA4 := Lib.hid h4; clear h4; have cg4 := ((HA4.out.row.block g HRR3.out.lt (fun e => own_neT HO.out HRR3.out.out (by decide) e.symm))); have fz4 : w4.frozen? ⟨g, m, none⟩ = false := (by simp [World.frozen?, cg4, HRR3.out.out]); have cl4 : w4.cell? ⟨g, m, none⟩ = some (.slice a9 s c9) := (by rw [World.cell?_of_block cg4]; exact cg); clear cg4))
          have hA := HA4.out
          rw [← HLB.out, ← HTO.out] at hA
          have hA2 : Appended g 87 2 w3 w4 (rw_ m) (.slice a4 (s + 1) c4) (cntA k m s m) 1 (csA k N tb m s m) [.int .i64 (((m * k + s) % N : Nat) : Int), .int .i64 (tb.getD (m * k + s) 0)] := by
            rw [cntA_at, HV9.out]; exact hA
          have hr := HRR3.out.app hlt hA2 (by decide)
          rw [cntA_upd, csA_upd] at hr
          refine ⟨⟨s + 1, _, by omega, by go_num, hr, (HB3.out.trans hA2.below).setCell (p := ⟨g, m, none⟩) (Nat.le_refl _) _⟩, by simp [intOf]; omega⟩
        · obtain rfl : s = k := by omega
          have q1 : ¬ (s : Int) < (s : Int) := by omega
          have x0 := cpE hB1 HX1.out.1
          clear hB1
          have hfin := HRR.out
          rw [cntA_next, csA_next] at hfin
          have HF := Lib.hid hfin
          clear hfin
          go_wp2
          refine ⟨⟨m + 1, rw_, by omega, by go_num, HF.out, HB.out⟩, by simp [intOf]; omega⟩
    · obtain rfl : m = N := by omega
      have q0 : ¬ (m : Int) < (m : Int) := by omega
      clear x0
      go_wp2
      go_ret
      have hB1 : Below w1.heap.size w1 wr := by rw [HG.out]; exact HB.out
      refine ⟨g, rfl, ⟨rw_, HRR.out.base ?_⟩, bstep HB1.out hB1⟩
      rw [← HG.out]; exact HB1.out.size
end Go.Proofs.YtiglilecmieelaaGreatDoor
namespace Go.Proofs.YtiglilecmieelaaGreatDoor
open Go.RowKit
set_option linter.unusedVariables false
set_option maxRecDepth 100000

theorem mkIns (n : Nat) (hb : n ≤ 32768) (w : World) : (Instr.makeSlice 36 (.int .i64 (n : Int)) (.int .i64 (n : Int))).run Tryz.prog w = .ok (.slice (some ⟨w.heap.size, 0, none⟩) n n) (w.alloc (.cells ((List.range n).map fun _ => Value.slice none 0 0).toArray 22)) := by
  have h := run_make_row' (P := Tryz.prog) 36 22 (.slice none 0 0) 24 Tryz.underlying36 (by kernel_rfl) rfl .i64 .i64 n (by omega) (by omega) w
  rw [h, made_listR]
theorem cells2P {w : World} {g : Nat} {x0 x1 : Value} {t : TypeId} (h : w.heap[g]? = some (.cells #[x0, x1] t)) : w.cell? ⟨g, 0, none⟩ = some x0 ∧ w.cell? ⟨g, 1, none⟩ = some x1 := by
  simp [World.cell?, h]
/-- the rows as they are made -/
def csG (k N : Nat) (tb : List Int) (m : Nat) : Nat → List Value := fun i => if i < m then (adjI k N tb i).map (Value.int .i64) else []
def cntG (k N : Nat) (tb : List Int) (m : Nat) : Nat → Nat := fun i => if i < m then (adjI k N tb i).length else 0
theorem csG_upd (k N : Nat) (tb : List Int) (m : Nat) : upd (csG k N tb m) m ((adjI k N tb m).map (Value.int .i64)) = csG k N tb (m + 1) := by
  funext i
  by_cases e : i = m
  · subst e; rw [upd_at]; simp [csG]
  · rw [upd_ne _ _ e]
    unfold csG
    by_cases h : i < m
    · rw [if_pos h, if_pos (by omega)]
    · rw [if_neg h, if_neg (by omega)]
theorem cntG_upd (k N : Nat) (tb : List Int) (m : Nat) : upd (cntG k N tb m) m ((adjI k N tb m).length) = cntG k N tb (m + 1) := by
  funext i
  by_cases e : i = m
  · subst e; rw [upd_at]; simp [cntG]
  · rw [upd_ne _ _ e]
    unfold cntG
    by_cases h : i < m
    · rw [if_pos h, if_pos (by omega)]
    · rw [if_neg h, if_neg (by omega)]
/-- the graph lies in the block g -/
def GraphR (w : World) (B g k N : Nat) (tb : List Int) : Prop := ∃ rw_, RR w B g (N * N) 22 3 1 rw_ (cntG k N tb (N * N)) (csG k N tb (N * N))
set_option maxHeartbeats 4000000 in
theorem graph_of (kI rI : Int) (k r N M : Nat) (a : Option Addr) (T c T' c' : Nat) (tb : List Int) (W : World) (hI : IsRule k r tb) (hT : T' ≤ 256) (hTN : T' = N * k) (hN0 : 0 < N) (hN128 : N ≤ 128) (hM : N * N = M)
    (HW : ∀ w1, Below W.heap.size W w1 → Calls Tryz.prog 28 #[ruleV kI rI a T c] w1 fun e w' => ∃ a', e = .returned (.tuple #[ruleV k r a' T' c', .nilIface]) ∧ RK .i64 w' a' T' tb ∧ Below w1.heap.size w1 w') :
    Calls Tryz.prog 11 #[ruleV kI rI a T c] W fun e w' => ∃ g, e = .returned (.tuple #[.slice (some ⟨g, 0, none⟩) M M, .nilIface]) ∧ GraphR w' W.heap.size g k N tb ∧ Below W.heap.size W w' := by
  have k1 := hI.k1
  have k4 := hI.k4
  have hM2 : M ≤ 16384 := by rw [← hM]; exact Nat.le_trans (Nat.mul_le_mul hN128 hN128) (by decide)
  have HM := Lib.hid hM
  have hMI : (N : Int) * (N : Int) = (M : Int) := by rw [← hM, Int.natCast_mul]
  clear hM
  obtain ⟨w0, hw0⟩ : ∃ w0, W.alloc (.cells #[.int .i64 kI, .int .i64 rI, .slice a T c] 24) = w0 := ⟨_, rfl⟩
  have HBX : Hid (Below W.heap.size W w0) := by show Below _ _ _; rw [← hw0]; exact balloc (bnil W) _
  have hx : w0.cell? ⟨W.heap.size, 0, none⟩ = some (.int .i64 kI) ∧ w0.cell? ⟨W.heap.size, 1, none⟩ = some (.int .i64 rI) ∧ w0.cell? ⟨W.heap.size, 2, none⟩ = some (.slice a T c) := by rw [← hw0]; exact ⟨by simp, by simp, by simp⟩
  have HWK := Lib.hid (HW w0 HBX.out)
  have HI := Lib.hid hI
  have HTN := Lib.hid hTN
  clear HW hI hTN
  obtain ⟨x0, x1, x2⟩ := hx
  rw [← hw0] at x0 x1 x2
  have HWB := Lib.hid hw0; clear hw0
  go_enter Tryz.func11, Tryz.ntmps11
  go_wp2_with fail
  rw [HWB.out]
  refine HWK.out.mono ?_; rintro e w1 ⟨a', rfl, hR1, hb⟩
  clear x0 x1 x2
  have HB1 := Lib.hid (bstep HBX.out hb)
  have HR1 := Lib.hid hR1
  clear hb hR1
  obtain ⟨w2, e2⟩ : ∃ w2, w1.alloc (.cells #[.int .i64 k, .int .i64 r, .slice a' T' c'] 24) = w2 := ⟨_, rfl⟩
  have hb2 : Below w1.heap.size w1 w2 := by rw [← e2]; exact balloc (bnil w1) _
  have hz2 : w2.heap[w1.heap.size]? = some (.cells #[.int .i64 k, .int .i64 r, .slice a' T' c'] 24) := by rw [← e2]; exact heap_alloc_new w1 _
  have HE2 := Lib.hid e2
  have HB2 : Hid (Below W.heap.size W w2) := bstep HB1.out hb2
  have HR2 := Lib.hid (HR1.out.up hb2)
  obtain ⟨⟨x0, x1, x2⟩, _⟩ := cells3P hz2
  have HAR := Lib.hid (arrows_ok k r N a' T' c' tb w2 HR2.out HI.out hT HTN.out hN0)
  clear e2 hz2 hb2
  go_upto_region 4 with (fail)
  rw [HE2.out]
  go_wp2_with fail
  refine HAR.out.mono ?_; rintro e w3 ⟨gA, rfl, hA, hb3⟩
  clear x0 x1 x2
  have HA := Lib.hid hA
  have HB3 := Lib.hid (bstep HB2.out hb3)
  clear hA hb3
  have hmk := mkIns M (by omega)
  have q1 : IntKind.i64.wrap (M : Int) = (M : Int) := IntWalk.i64_in _ (by omega)
  obtain ⟨w4, hw4⟩ : ∃ w4, w3.alloc (.cells ((List.range M).map fun _ => Value.slice none 0 0).toArray 22) = w4 := ⟨_, rfl⟩
  have HB4 : Hid (Below w3.heap.size w3 w4) := by show Below _ _ _; rw [← hw4]; exact balloc (bnil w3) _
  have HRR : Hid (RR w4 w3.heap.size w3.heap.size M 22 3 1 (fun _ => .slice none 0 0) (cntG k N tb 0) (csG k N tb 0)) := by
    show RR _ _ _ _ _ _ _ _ _ _
    have h1 : cntG k N tb 0 = fun _ => 0 := by funext i; simp [cntG]
    have h2 : csG k N tb 0 = fun _ => [] := by funext i; simp [csG]
    rw [h1, h2, ← hw4]; exact RR.fresh w3 _ _ 1 M
  have HW4 := Lib.hid hw4; clear hw4
  go_wp2_with fail
  rw [HW4.out]
  clear hmk q1
  obtain ⟨g, hg⟩ : ∃ g, w3.heap.size = g := ⟨_, rfl⟩
  have HG := Lib.hid hg
  rw [hg] at HRR HB4 ⊢
  clear hg
  go_loopw [33] (fun i wr => ∃ (m : Nat) (rw_ : Nat → Value), m ≤ M ∧ i = .int .i64 m ∧ RR wr g g M 22 3 1 rw_ (cntG k N tb m) (csG k N tb m) ∧ Below g w3 wr) (fun i _ => M - (intOf i).toNat)
  case atStart => exact ⟨0, _, Nat.zero_le _, rfl, HRR.out, HB4.out⟩
  case round =>
    clear HRR HB4
    obtain ⟨m, rw_, hm, rfl, hrr, hb⟩ := hrel
    have HRR := Lib.hid hrr
    have HB := Lib.hid hb
    have hB3 : Below w3.heap.size w3 wr := by rw [HG.out]; exact hb
    clear hrr hb
    obtain ⟨rA, hA⟩ := HA.out
    have HAR := Lib.hid (hA.up hB3)
    clear hA
    by_cases hlt : m < M
    · have q0 : (m : Int) < (M : Int) := by omega
      have q3 : (0 : Int) ≤ (m : Int) := by omega
      have hmM : m < N * N := by rw [HM.out]; exact hlt
      have hu := pair_div_lt hmM
      have hv := pair_mod_lt hmM
      have eq1 : (m : Int) / (N : Int) = ((m / N : Nat) : Int) := by simp
      have eq2 : (m : Int) % (N : Int) = ((m % N : Nat) : Int) := by simp
      obtain ⟨u, hue⟩ : ∃ u, m / N = u := ⟨_, rfl⟩
      obtain ⟨v, hve⟩ : ∃ v, m % N = v := ⟨_, rfl⟩
      rw [hue] at hu eq1
      rw [hve] at hv eq2
      have HUE := Lib.hid hue
      have HVE := Lib.hid hve
      clear hue hve hmM
      obtain ⟨ua, uc, hru⟩ := own_wf (HAR.out.row u hu)
      obtain ⟨va, vc, hrv⟩ := own_wf (HAR.out.row v hv)
      have cu := HAR.out.cell hu
      have cv := HAR.out.cell hv
      have hcu : cntA k N 0 u = k := by simp [cntA, hu]
      have hcv : cntA k N 0 v = k := by simp [cntA, hv]
      rw [hcu] at hru
      rw [hcv] at hrv
      have hou := HAR.out.row u hu
      have hov := HAR.out.row v hv
      rw [hru, hcu] at hou
      rw [hrv, hcv] at hov
      rw [hru] at cu
      rw [hrv] at cv
      obtain ⟨bu, rfl, hbu1, hbu2⟩ := own_form hou (by omega)
      obtain ⟨bv, rfl, hbv1, hbv2⟩ := own_form hov (by omega)
      have HUC : Hid (∀ s, s < k → wr.cell? ⟨bu, s * 2, none⟩ = some (.int .i64 (((u * k + s) % N : Nat) : Int)) ∧ wr.cell? ⟨bu, s * 2 + 1, none⟩ = some (.int .i64 (tb.getD (u * k + s) 0))) := by
        intro s hs
        have h2 := arC_at k N tb u k s hs
        have h3 : csA k N tb N 0 u = arC k N tb u k := by unfold csA; rw [hcu]
        rw [h3] at hou
        exact ⟨(hou.cellAt _ (by omega)).trans h2.1, (hou.cellAt _ (by omega)).trans h2.2⟩
      have HVC : Hid (∀ s, s < k → wr.cell? ⟨bv, s * 2, none⟩ = some (.int .i64 (((v * k + s) % N : Nat) : Int)) ∧ wr.cell? ⟨bv, s * 2 + 1, none⟩ = some (.int .i64 (tb.getD (v * k + s) 0))) := by
        intro s hs
        have h2 := arC_at k N tb v k s hs
        have h3 : csA k N tb N 0 v = arC k N tb v k := by unfold csA; rw [hcv]
        rw [h3] at hov
        exact ⟨(hov.cellAt _ (by omega)).trans h2.1, (hov.cellAt _ (by omega)).trans h2.2⟩
      have hNI : (0 : Int) < (N : Int) := by omega
      clear hou hov hcu hcv hru hrv hbu1 hbv1
      have HCV := Lib.hid cv
      have HBU := Lib.hid hbu2
      have HBV := Lib.hid hbv2
      clear cv hbu2 hbv2 hB3
      have i0 : (0 : Int) ≤ (u : Int) := by omega
      have i1 : (u : Int) < (N : Int) := by omega
      go_wp2_with fail
      clear cu
      obtain ⟨V, rfl⟩ : ∃ V, V = wr := ⟨_, rfl⟩
      obtain ⟨h, hh⟩ : ∃ h, V.heap.size = h := ⟨_, rfl⟩
      have HH := Lib.hid hh
      rw [hh] at HBU HBV
      clear hh
      go_loopw [10, 43] (fun tv iv wr => ∃ (c : Nat) (ax : Option Addr) (nx cx : Nat), c ≤ k ∧ iv = .int .i64 c ∧ tv = .slice ax nx cx ∧ wr.ownsRow h 3 1 (.slice ax nx cx) nx ((toP k N tb u v c 0).map (Value.int .i64)) ∧ Below h V wr) (fun _ iv _ => k - (intOf iv).toNat)
      case atStart => exact ⟨0, none, 0, 0, Nat.zero_le _, rfl, rfl, World.ownsRow_nil _ _ _ _, by rw [← HH.out]; exact bnil V⟩
      case round =>
        obtain ⟨c, ax, nx, cx, hc, rfl, rfl, hox, hbx⟩ := hrel
        have hbV : Below V.heap.size V wr := by rw [HH.out]; exact hbx
        have HOX := Lib.hid hox
        have HBVx := Lib.hid hbx
        clear hox hbx
        by_cases hck : c < k
        · have j1 : (c : Int) < (k : Int) := by omega
          have j0 : (0 : Int) ≤ (c : Int) := by omega
          have y0 := cpE hbV (HUC.out c hck).1
          have y1 := cpE hbV (HUC.out c hck).2
          generalize ht1 : (u * k + c) % N = t1 at *
          generalize hl1 : tb.getD (u * k + c) 0 = l1 at *
          have HT1 := Lib.hid ht1
          have HL1 := Lib.hid hl1
          clear ht1 hl1
          obtain ⟨w5, e5⟩ : ∃ w5, wr.alloc (.cells #[.int .i64 t1, .int .i64 l1] 87) = w5 := ⟨_, rfl⟩
          have hb5 : Below wr.heap.size wr w5 := by rw [← e5]; exact balloc (bnil wr) _
          have hz5 : w5.heap[wr.heap.size]? = some (.cells #[.int .i64 t1, .int .i64 l1] 87) := by rw [← e5]; exact heap_alloc_new wr _
          obtain ⟨b12, hb12⟩ : ∃ b, wr.heap.size = b := ⟨_, rfl⟩
          have HB12 := Lib.hid hb12
          have HE5 := Lib.hid e5
          have cv := cpE hb5 (cpE hbV HCV.out)
          have hhw : h ≤ wr.heap.size := by have := hbV.size; rw [HH.out] at this; exact this
          have HO5 := Lib.hid (owns_up HOX.out hb5)
          have HV5 : Hid (Below h V w5) := HBVx.out.trans (hb5.mono hhw)
          rw [hb12] at hz5
          have HZ5 := Lib.hid hz5
          have HHW : Hid (h ≤ w5.heap.size) := Nat.le_trans hhw hb5.size
          clear e5 hb5 hz5 hb12 hhw hbV HOX HBVx
          go_upto_region 14 with (fail)
          rw [HE5.out, HB12.out]
          clear y0 y1
          have i2 : (0 : Int) ≤ (v : Int) := by omega
          have i3 : (v : Int) < (N : Int) := by omega
          go_wp2_with fail
          clear cv
          go_loopw [10, 54] (fun tv iv wr => ∃ (d : Nat) (ax : Option Addr) (nx cx : Nat), d ≤ k ∧ iv = .int .i64 d ∧ tv = .slice ax nx cx ∧ wr.ownsRow h 3 1 (.slice ax nx cx) nx ((toP k N tb u v c d).map (Value.int .i64)) ∧ Below h V wr ∧ wr.heap[b12]? = some (.cells #[.int .i64 t1, .int .i64 l1] 87) ∧ h ≤ wr.heap.size) (fun _ iv _ => k - (intOf iv).toNat)
          case atStart => exact ⟨0, ax, nx, cx, Nat.zero_le _, rfl, rfl, HO5.out, HV5.out, HZ5.out, HHW.out⟩
          case round =>
            clear HO5 HV5 HZ5 HHW HE5 HB12
            obtain ⟨d, ax, nx, cx, hd, rfl, rfl, hox, hbx, hz, hhw⟩ := hrel
            have hbV : Below V.heap.size V wr := by rw [HH.out]; exact hbx
            have hnx : nx ≤ 20 := by
              have h1 := hox.1
              have h2 := toP_len (k := k) (N := N) (tb := tb) (u := u) (v := v) c d
              have h3 : c * k ≤ 4 * 4 := Nat.mul_le_mul (by omega) k4
              simp only [List.length_map, Nat.mul_one] at h1
              omega
            have HOX := Lib.hid hox
            have HBVx := Lib.hid hbx
            have HZ := Lib.hid hz
            have HHW := Lib.hid hhw
            clear hox hbx hz hhw
            by_cases hdk : d < k
            · have j3 : (d : Int) < (k : Int) := by omega
              have j2 : (0 : Int) ≤ (d : Int) := by omega
              have y0 := cpE hbV (HVC.out d hdk).1
              have y1 := cpE hbV (HVC.out d hdk).2
              have hlt1 : t1 < N := by rw [← HT1.out]; exact Nat.mod_lt _ hN0
              have hlt2 : (v * k + d) % N < N := Nat.mod_lt _ hN0
              have HSUC := Lib.hid (toP_succ (k := k) (N := N) (tb := tb) (u := u) (v := v) c d)
              have HSEL : Hid (selP k N tb u v c d = if l1 = tb.getD (v * k + d) 0 then [((t1 * N + (v * k + d) % N : Nat) : Int)] else []) := by
                show selP k N tb u v c d = _
                unfold selP; rw [HT1.out, HL1.out]
              generalize (v * k + d) % N = t2 at *
              generalize tb.getD (v * k + d) 0 = l2 at *
              obtain ⟨w6, e6⟩ : ∃ w6, wr.alloc (.cells #[.int .i64 t2, .int .i64 l2] 87) = w6 := ⟨_, rfl⟩
              have hb6 : Below wr.heap.size wr w6 := by rw [← e6]; exact balloc (bnil wr) _
              have hz6 : w6.heap[wr.heap.size]? = some (.cells #[.int .i64 t2, .int .i64 l2] 87) := by rw [← e6]; exact heap_alloc_new wr _
              have hz12 := (hb6.block _ (heap_ltR HZ.out)).trans HZ.out
              obtain ⟨z0, z1⟩ := cells2P hz12
              obtain ⟨z2, z3⟩ := cells2P hz6
              have HE6 := Lib.hid e6
              have HO6 := Lib.hid (owns_up HOX.out hb6)
              have HV6 : Hid (Below h V w6) := HBVx.out.trans (hb6.mono HHW.out)
              have HHW6 : Hid (h ≤ w6.heap.size) := Nat.le_trans HHW.out hb6.size
              have HZ12 := Lib.hid hz12
              clear e6 hb6 hz6 hz12 hbV HOX HBVx HZ HHW
              go_upto_region 17 with (fail)
              rw [HE6.out]
              clear y0 y1
              by_cases hll : l1 = l2
              · have hle : (l1 == l2) = true := by simpa using hll
                have HSE2 : Hid (toP k N tb u v c (d + 1) = toP k N tb u v c d ++ [((t1 * N + t2 : Nat) : Int)]) := by
                  show _ = _
                  rw [HSUC.out, HSEL.out, if_pos hll]
                clear hll HSUC HSEL
                obtain ⟨P, hP⟩ : ∃ P, t1 * N = P := ⟨_, rfl⟩
                have hPI : (t1 : Int) * (N : Int) = (P : Int) := by rw [← hP, Int.natCast_mul]
                have hPl : P ≤ 16384 := by rw [← hP]; exact Nat.le_trans (Nat.mul_le_mul (show t1 ≤ 128 by omega) hN128) (by decide)
                rw [hP] at HSE2
                have q5 : IntKind.i64.wrap (P : Int) = (P : Int) := IntWalk.i64_in _ (by omega)
                have q6 : IntKind.i64.wrap ((P : Int) + (t2 : Int)) = ((P + t2 : Nat) : Int) := by rw [IntWalk.i64_in _ (by omega)]; omega
                clear hP
                go_wp2_with (first
                  | (at_builtin; refine apl rfl _ _ _ rfl h et_int _ nx _ HO6.out rfl 1 _ _ rfl rfl rfl rfl (by unfold maxLen; omega) (by omega) HHW6.out ?_; intro a7 c7 w7 h7; have HA7 := Lib.hid h7; clear h7))
                have h12 := (HA7.out.row.block b12 (heap_ltR HZ12.out) (fun e => own_neT HO6.out HZ12.out (by decide) e.symm)).trans HZ12.out
                have ho7 : w7.ownsRow h 3 1 (.slice a7 (nx + 1) c7) (nx + 1) ((toP k N tb u v c (d + 1)).map (Value.int .i64)) := by
                  have ho7 := HA7.out.own
                  rw [HSE2.out, List.map_append]
                  exact ho7
                go_roundw
                case measure => simp [intOf]; omega
                case rel => exact ⟨.slice a7 (nx + 1) c7, .pointer (some ⟨wr.heap.size, 0, none⟩), .int .i64 ((d : Int) + 1), ⟨d + 1, by omega, by go_num, a7, _, c7, rfl, ho7, HV6.out.trans HA7.out.below, h12, Nat.le_trans HHW6.out HA7.out.grew⟩, rfl, rfl, rfl⟩
              · have hle : (l1 == l2) = false := by simpa using hll
                have HSE2 : Hid (toP k N tb u v c (d + 1) = toP k N tb u v c d) := by
                  show _ = _
                  rw [HSUC.out, HSEL.out, if_neg hll, List.append_nil]
                clear hll HSUC HSEL
                go_wp2
                go_roundw
                case measure => simp [intOf]; omega
                case rel => refine ⟨d + 1, ax, nx, cx, by omega, by go_num, rfl, by rw [HSE2.out]; exact HO6.out, HV6.out, HZ12.out, HHW6.out⟩
            · obtain rfl : d = k := by omega
              have j3 : ¬ (d : Int) < (d : Int) := by omega
              have HO8 : Hid (wr.ownsRow h 3 1 (.slice ax nx cx) nx ((toP d N tb u v (c + 1) 0).map (Value.int .i64))) := by
                show World.ownsRow _ _ _ _ _ _ _
                rw [← toP_next]; exact HOX.out
              clear hbV
              go_wp2
              go_roundw
              case measure => simp [intOf]; omega
              case rel => refine ⟨c + 1, ax, nx, cx, by omega, by go_num, rfl, HO8.out, HBVx.out⟩
        · obtain rfl : c = k := by omega
          have j1 : ¬ (c : Int) < (c : Int) := by omega
          have hnx : nx ≤ 20 := by
            have h1 := HOX.out.1
            have h2 := toP_len (k := c) (N := N) (tb := tb) (u := u) (v := v) c 0
            have h3 : c * c ≤ 4 * 4 := Nat.mul_le_mul k4 k4
            simp only [List.length_map, Nat.mul_one] at h1
            omega
          have hhw : h ≤ wr.heap.size := by have := hbV.size; rw [HH.out] at this; exact this
          have HLO : Hid (∀ i, i < M → ∀ b, (rw_ i).ownBlock = some b → b < h) := fun i hi b hb => by rw [← HH.out]; exact ((HRR.out.row i hi).lt b hb).2
          have hgh : g ≤ h := by rw [← HH.out]; have := HB.out.size; rw [HG.out] at this; exact this
          have HSRT := Lib.hid (toP_sorted (k := c) (N := N) (tb := tb) (u := u) (v := v) (p := m) hN0 (fun x hx => (HI.out.sym x hx).1) HUE.out HVE.out)
          clear hbV
          go_wp2_with fail
          refine (sort_own HOX.out hhw (by omega)).mono ?_; rintro e w5 ⟨rfl, ho5, hk5, hb5⟩
          have HO5 := Lib.hid ho5
          have hb5w : Below h V w5 := HBVx.out.trans hb5
          have hhw5 : h ≤ w5.heap.size := Nat.le_trans hhw hb5.size
          clear hk5 ho5
          go_wp2_with fail
          refine (compact_own HO5.out hhw5 (by omega)).mono ?_; rintro e w6 ⟨rfl, ho6, hk6, hb6⟩
          rw [HSRT.out] at ho6 ⊢
          have hb6w : Below h V w6 := hb5w.trans hb6
          have hb6V : Below V.heap.size V w6 := by rw [HH.out]; exact hb6w
          have hrr6 := HRR.out.up hb6V
          have hap : ∀ i, i < M → i ≠ m → Ap (.slice ax (adjI c N tb m).length cx) (rw_ i) := fun i hi _ b hb1 hb2 => by
            have := HLO.out i hi b hb2
            have := (ho6.lt b hb1).1
            omega
          have hput := hrr6.put hlt (owns_base ho6 hgh) (by decide) hap
          rw [cntG_upd, csG_upd] at hput
          have cg6 := hrr6.cell hlt
          have fz6 := hrr6.fz m
          have HPUT := Lib.hid hput
          have HBF : Hid (Below g w3 (w6.setCell ⟨g, m, none⟩ (.slice ax (adjI c N tb m).length cx))) := (HB.out.trans (hb6w.mono hgh)).setCell (p := ⟨g, m, none⟩) (Nat.le_refl _) _
          clear hput hap hrr6 hb6V hb6w ho6 hk6 hb6 hb5 hb5w hhw5 hhw HO5 HOX HBVx
          generalize (adjI c N tb m).length = L6 at *
          go_wp2
          go_roundw
          case measure => simp [intOf]; omega
          case rel => exact ⟨m + 1, _, by omega, by go_num, HPUT.out, HBF.out⟩
    · obtain rfl : m = M := by omega
      have q0 : ¬ (m : Int) < (m : Int) := by omega
      have hbW : Below W.heap.size W wr := bstep HB3.out hB3
      have hlo : W.heap.size ≤ g := by rw [← HG.out]; exact HB3.out.size
      have HFIN : Hid (GraphR wr W.heap.size g k N tb) := by
        show GraphR _ _ _ _ _ _
        refine ⟨rw_, ?_⟩
        rw [HM.out]
        exact HRR.out.base hlo
      clear hB3
      go_wp2
      go_ret2
      exact ⟨g, rfl, HFIN.out, hbW⟩
end Go.Proofs.YtiglilecmieelaaGreatDoor
namespace Go.Proofs.YtiglilecmieelaaGreatDoor
open Go.RowKit
set_option linter.unusedVariables false
set_option maxRecDepth 100000

theorem node_bounds {k r T : Nat} {tb : List Int} (h : IsRule k r tb) (hT : T = tb.length) (h256 : T ≤ 256) : T = k ^ (2 * r) * k ∧ 0 < k ^ (2 * r) ∧ k ^ (2 * r) ≤ 128 := by
  have h1 : T = k ^ (2 * r) * k := by rw [hT, h.len, Nat.pow_succ]
  have k1 := h.k1
  refine ⟨h1, Nat.pow_pos k1, ?_⟩
  by_cases hk : k = 1
  · subst hk; rw [Nat.one_pow]; decide
  · have h2 : k ^ (2 * r) * 2 ≤ k ^ (2 * r) * k := Nat.mul_le_mul_left _ (by omega)
    omega
theorem wide_rule {k : Nat} {tb : List Int} (h : IsRule k 0 tb) : IsRule k 1 (madeT k 3 (midF k tb)) :=
  made_rule (r := 1) h.k1 h.k4 (by decide) fun l _ _ => symL_range h.sym h.k1
theorem graph_one (k r N M : Nat) (a : Option Addr) (T c : Nat) (tb : List Int) (W : World) (hR : RK .i64 W a T tb) (hI : IsRule k r tb) (hT : T ≤ 256) (h1 : 1 ≤ r) (hN : N = k ^ (2 * r)) (hM : N * N = M) :
    Calls Tryz.prog 11 #[ruleV k r a T c] W fun e w' => ∃ g, e = .returned (.tuple #[.slice (some ⟨g, 0, none⟩) M M, .nilIface]) ∧ GraphR w' W.heap.size g k N tb ∧ Below W.heap.size W w' := by
  obtain ⟨h2, h3, h4⟩ := node_bounds hI hR.len hT
  rw [← hN] at h2 h3 h4
  refine graph_of k r k r N M a T c T c tb W hI hT h2 h3 h4 hM fun w1 hb => ?_
  refine (working_one k r a T c tb w1 (hR.up hb) hI hT h1).mono ?_
  rintro e w2 ⟨rfl, hb2⟩
  exact ⟨a, rfl, (hR.up hb).up hb2, hb2⟩
theorem graph_zero (k : Nat) (a : Option Addr) (T c : Nat) (tb : List Int) (W : World) (hR : RK .i64 W a T tb) (hI : IsRule k 0 tb) (hT : T ≤ 256) :
    Calls Tryz.prog 11 #[.agg #[.int .i64 k, .int .i64 0, .slice a T c]] W fun e w' => ∃ g m, e = .returned (.tuple #[.slice (some ⟨g, 0, none⟩) m m, .nilIface]) ∧ Below W.heap.size W w' := by
  have k1 := hI.k1
  have k4 := hI.k4
  have h3 : k ^ 3 ≤ 64 := Nat.pow_le_pow_left k4 3
  have h2 : k ^ 2 ≤ 16 := Nat.pow_le_pow_left k4 2
  refine (graph_of k 0 k 1 (k ^ 2) (k ^ 2 * k ^ 2) a T c (k ^ 3) (k ^ 3) (madeT k 3 (midF k tb)) W (wide_rule hI) (by omega) (by rw [Nat.pow_succ]) (Nat.pow_pos k1) (by omega) rfl fun w1 hb => ?_).mono ?_
  · refine (working_zero k a T c tb w1 (hR.up hb) hI hT).mono ?_
    rintro e w2 ⟨aT, rfl, hr, hb2⟩
    exact ⟨_, rfl, hr, hb2⟩
  · rintro e w2 ⟨g, rfl, _, hb⟩
    exact ⟨g, _, rfl, hb⟩
set_option maxHeartbeats 2000000 in
theorem graph_err (k r : Int) (a : Option Addr) (T c : Nat) (tb : List Int) (W : World) (R : Nat → Addr) (hG : Glob W R) (hR : RK .i64 W a T tb) (hm : T ≤ maxLen) (h : ∀ kn rn : Nat, k = kn → r = rn → IsRule kn rn tb → 256 < T) :
    Calls Tryz.prog 11 #[ruleV k r a T c] W fun e w' => ∃ g, e = .returned (.tuple #[.slice none 0 0, .iface 75 (.pointer (some ⟨g, 0, none⟩))]) ∧ Below W.heap.size W w' := by
  obtain ⟨w0, hw0⟩ : ∃ w0, W.alloc (.cells #[.int .i64 k, .int .i64 r, .slice a T c] 24) = w0 := ⟨_, rfl⟩
  have HBX : Hid (Below W.heap.size W w0) := by show Below _ _ _; rw [← hw0]; exact balloc (bnil W) _
  have hx : w0.cell? ⟨W.heap.size, 0, none⟩ = some (.int .i64 k) ∧ w0.cell? ⟨W.heap.size, 1, none⟩ = some (.int .i64 r) ∧ w0.cell? ⟨W.heap.size, 2, none⟩ = some (.slice a T c) := by rw [← hw0]; exact ⟨by simp, by simp, by simp⟩
  have HWK := Lib.hid (working_err k r a T c tb w0 R (hG.up HBX.out) (hR.up HBX.out) hm h)
  obtain ⟨x0, x1, x2⟩ := hx
  rw [← hw0] at x0 x1 x2
  have HWB := Lib.hid hw0
  clear hG hR hm h hw0
  go_enter Tryz.func11, Tryz.ntmps11
  go_wp2_with fail
  rw [HWB.out]
  refine HWK.out.mono ?_; rintro e w1 ⟨g, rfl, hb⟩
  have HB1 := Lib.hid (bstep HBX.out hb)
  clear x0 x1 x2 hb
  go_wp2
  go_ret2
  exact ⟨g, rfl, balloc HB1.out _⟩
end Go.Proofs.YtiglilecmieelaaGreatDoor
