/- Numbers of four matrices and one more, collected: no two in one block. -/
import Derived.Test.YtmdicmcmalmbaaaDoorMatO
import Derived.Test.YtmdicmcmalmbaaaDoorApartN
namespace Go.Proofs.YtmdicmcmalmbaaaDoor
open Go.RowKit
set_option linter.unusedVariables false
set_option maxRecDepth 100000

structure Four (W0 : World) (B0 n : Nat) (its : Nat → Nat → Nat → It) : Prop where
  own : ∀ s i j, s < 4 → i < n → j < n → (∃ xs, W0.ownsRow B0 75 1 (IV (its s i j)) (its s i j).2.1 xs) ∧ (its s i j).2.1 ≤ 100000
  ap : ∀ s i j s' i' j', s < 4 → i < n → j < n → s' < 4 → i' < n → j' < n → ¬ (s = s' ∧ i = i' ∧ j = j') → Ap (IV (its s i j)) (IV (its s' i' j'))
structure Coll (W0 : World) (B0 n : Nat) (its : Nat → Nat → Nat → It) (t : Nat) (L : List It) : Prop where
  pw : L.Pairwise fun x y => Ap (IV x) (IV y)
  own : ∀ x ∈ L, (∃ xs, W0.ownsRow B0 75 1 (IV x) x.2.1 xs) ∧ x.2.1 ≤ 100000
  len : L.length = 1 + t * n
  cross : ∀ s i j, s < 4 → i < n → j < n → t ≤ 4 * i + s → ∀ x ∈ L, Ap (IV x) (IV (its s i j))
theorem Coll.add {W0 : World} {B0 n t s i : Nat} {its : Nat → Nat → Nat → It} {L : List It} (h : Coll W0 B0 n its t L) (F : Four W0 B0 n its) (hs : s < 4) (hi : i < n) (ht : 4 * i + s = t) : Coll W0 B0 n its (t + 1) (L ++ (List.range n).map (its s i)) := by
  have hm : ∀ x, x ∈ (List.range n).map (its s i) → ∃ j, j < n ∧ x = its s i j := fun x hx => by
    obtain ⟨j, hj, rfl⟩ := List.mem_map.1 hx
    exact ⟨j, List.mem_range.1 hj, rfl⟩
  refine ⟨List.pairwise_append.2 ⟨h.pw, ?_, fun x hx y hy => ?_⟩, fun x hx => ?_, ?_, fun s' i' j' h1 h2 h3 h4 x hx => ?_⟩
  · rw [List.pairwise_iff_getElem]
    intro p q hp hq hpq
    simp only [List.length_map, List.length_range] at hp hq
    simp only [List.getElem_map, List.getElem_range]
    exact F.ap s i p s i q hs hi hp hs hi hq (by omega)
  · obtain ⟨j, hj, rfl⟩ := hm y hy
    exact h.cross s i j hs hi hj (by omega) x hx
  · rcases List.mem_append.1 hx with hx | hx
    · exact h.own x hx
    · obtain ⟨j, hj, rfl⟩ := hm x hx
      exact F.own s i j hs hi hj
  · rw [List.length_append, h.len, List.length_map, List.length_range, Nat.add_mul, Nat.one_mul]; omega
  · rcases List.mem_append.1 hx with hx | hx
    · exact h.cross s' i' j' h1 h2 h3 (by omega) x hx
    · obtain ⟨j, hj, rfl⟩ := hm x hx
      exact F.ap s i j s' i' j' hs hi hj h1 h2 h3 (by omega)
/-- the list while it is grown -/
structure AllAt (W0 wr : World) (h0 B0 n : Nat) (its : Nat → Nat → Nat → It) (t : Nat) (a : Option Addr) (m c : Nat) (L : List It) : Prop where
  coll : Coll W0 B0 n its t L
  len : m = L.length
  row : wr.ownsRow h0 39 1 (.slice a m c) m (L.map IV)
  bel : Below h0 W0 wr
theorem AllAt.step {W0 wr w' : World} {h0 B0 n t s i m c c' : Nat} {its : Nat → Nat → Nat → It} {a a' : Option Addr} {L : List It} (h : AllAt W0 wr h0 B0 n its t a m c L) (F : Four W0 B0 n its) (hs : s < 4) (hi : i < n) (ht : 4 * i + s = t)
    (ha : Appended h0 39 1 wr w' (.slice a m c) (.slice a' (m + n) c') m n (L.map IV) ((List.range n).map fun j => IV (its s i j))) :
    AllAt W0 w' h0 B0 n its (t + 1) a' (m + n) c' (L ++ (List.range n).map (its s i)) := by
  refine ⟨h.coll.add F hs hi ht, by rw [List.length_append, ← h.len]; simp, ?_, h.bel.trans ha.below⟩
  have := ha.own
  rwa [List.map_append, List.map_map]
theorem AllAt.small {W0 wr : World} {h0 B0 n t m c : Nat} {its : Nat → Nat → Nat → It} {a : Option Addr} {L : List It} (h : AllAt W0 wr h0 B0 n its t a m c L) (hn : n ≤ 5) (ht : t ≤ 20) : m ≤ 101 ∧ 0 < m := by
  have h1 := h.coll.len
  have h2 := h.len
  have : t * n ≤ 20 * 5 := Nat.mul_le_mul ht hn
  omega
/-- row i of a matrix of the call's own, read in a world behind -/
theorem OwMs.line {W0 wr : World} {base n c i h0 : Nat} {a : Option Addr} {rows : Nat → It} {its : Nat → Nat → It} {F : Nat → Nat → List Nat} (h : OwMs W0 base (.slice a n c) n n rows its F) (hb : Below h0 W0 wr) (h0e : W0.heap.size ≤ h0) (hi : i < n) :
    ∃ g a2 c2, a = some ⟨g, 0, none⟩ ∧ wr.cell? ⟨g, i, none⟩ = some (.slice a2 n c2) ∧ (a2 = none → c2 = 0) ∧ Rd wr a2 n 1 ((List.range n).map fun j => IV (its i j)) := by
  obtain ⟨g, rfl, _, hg⟩ := own_form h.row (by omega)
  have x0 := h.row.cellAt i (by omega)
  rw [range_at _ hi] at x0
  obtain ⟨hrn, hri⟩ := h.ns i hi
  obtain ⟨a1, m, c1, hr⟩ : ∃ a1 m c1, rows i = (a1, m, c1) := ⟨_, _, _, rfl⟩
  rw [hr] at x0 hrn hri
  simp only at hrn
  subst hrn
  refine ⟨g, a1, c1, rfl, (hb.cell (p := ⟨g, i, none⟩) (Nat.lt_of_lt_of_le hg h0e)).trans x0, (hri.nsR' rfl).2.2.1, ?_⟩
  exact ((owns_rd (a := a1) (c := c1) hri.row).2).below hb h0e
theorem OwMs.num' {W0 : World} {base B0 n L : Nat} {v : Value} {rows : Nat → It} {its : Nat → Nat → It} {F : Nat → Nat → List Nat} (h : OwMs W0 base v n n rows its F) (hb : B0 ≤ base) (hL : ∀ i j, i < n → j < n → (F i j).length ≤ L) (hL5 : L ≤ 100000) : ∀ i j, i < n → j < n → (∃ xs, W0.ownsRow B0 75 1 (IV (its i j)) (its i j).2.1 xs) ∧ (its i j).2.1 ≤ 100000 := fun i j hi hj =>
  ⟨⟨_, owns_base ((h.ns i hi).2.num j hj).own hb⟩, Nat.le_trans (((h.ns i hi).2.num j hj).ns.small (hL i j hi hj)) hL5⟩
theorem OwMs.ap' {W0 : World} {base n : Nat} {v : Value} {rows : Nat → It} {its : Nat → Nat → It} {F : Nat → Nat → List Nat} (h : OwMs W0 base v n n rows its F) : ∀ i j i' j', i < n → j < n → i' < n → j' < n → ¬ (i = i' ∧ j = j') → Ap (IV (its i j)) (IV (its i' j')) := fun i j i' j' hi hj hi' hj' hne => by
  by_cases e : i = i'
  · subst e
    exact (h.ns i hi).2.ap j j' hj hj' fun e2 => hne ⟨rfl, e2⟩
  · exact h.ap i j i' j' hi hi' hj hj' e
/-- a matrix made later lies apart -/
theorem OwMs.ap2 {w w2 : World} {b1 b2 n : Nat} {v1 v2 : Value} {rows1 rows2 : Nat → It} {its1 its2 : Nat → Nat → It} {F1 F2 : Nat → Nat → List Nat} (h1 : OwMs w b1 v1 n n rows1 its1 F1) (h2 : OwMs w2 b2 v2 n n rows2 its2 F2) (hb : w.heap.size ≤ b2) : ∀ i j i' j', i < n → j < n → i' < n → j' < n → Ap (IV (its1 i j)) (IV (its2 i' j')) := fun i j i' j' hi hj hi' hj' =>
  ap_after ((h1.ns i hi).2.num j hj).own ((h2.ns i' hi').2.num j' hj').own hb
def four (p q o m : Nat → Nat → It) : Nat → Nat → Nat → It := fun s => if s = 0 then p else if s = 1 then q else if s = 2 then o else m
theorem Four.mk4 {W0 : World} {B0 n : Nat} {p q o m : Nat → Nat → It}
    (op : ∀ i j, i < n → j < n → (∃ xs, W0.ownsRow B0 75 1 (IV (p i j)) (p i j).2.1 xs) ∧ (p i j).2.1 ≤ 100000) (oq : ∀ i j, i < n → j < n → (∃ xs, W0.ownsRow B0 75 1 (IV (q i j)) (q i j).2.1 xs) ∧ (q i j).2.1 ≤ 100000)
    (oo : ∀ i j, i < n → j < n → (∃ xs, W0.ownsRow B0 75 1 (IV (o i j)) (o i j).2.1 xs) ∧ (o i j).2.1 ≤ 100000) (om : ∀ i j, i < n → j < n → (∃ xs, W0.ownsRow B0 75 1 (IV (m i j)) (m i j).2.1 xs) ∧ (m i j).2.1 ≤ 100000)
    (pp : ∀ i j i' j', i < n → j < n → i' < n → j' < n → ¬ (i = i' ∧ j = j') → Ap (IV (p i j)) (IV (p i' j'))) (qq : ∀ i j i' j', i < n → j < n → i' < n → j' < n → ¬ (i = i' ∧ j = j') → Ap (IV (q i j)) (IV (q i' j')))
    (o2 : ∀ i j i' j', i < n → j < n → i' < n → j' < n → ¬ (i = i' ∧ j = j') → Ap (IV (o i j)) (IV (o i' j'))) (m2 : ∀ i j i' j', i < n → j < n → i' < n → j' < n → ¬ (i = i' ∧ j = j') → Ap (IV (m i j)) (IV (m i' j')))
    (pq : ∀ i j i' j', i < n → j < n → i' < n → j' < n → Ap (IV (p i j)) (IV (q i' j'))) (po : ∀ i j i' j', i < n → j < n → i' < n → j' < n → Ap (IV (p i j)) (IV (o i' j'))) (pm : ∀ i j i' j', i < n → j < n → i' < n → j' < n → Ap (IV (p i j)) (IV (m i' j')))
    (qo : ∀ i j i' j', i < n → j < n → i' < n → j' < n → Ap (IV (q i j)) (IV (o i' j'))) (qm : ∀ i j i' j', i < n → j < n → i' < n → j' < n → Ap (IV (q i j)) (IV (m i' j'))) (om' : ∀ i j i' j', i < n → j < n → i' < n → j' < n → Ap (IV (o i j)) (IV (m i' j'))) :
    Four W0 B0 n (four p q o m) := by
  have cs : ∀ s, s < 4 → s = 0 ∨ s = 1 ∨ s = 2 ∨ s = 3 := fun s h => by omega
  refine ⟨fun s i j hs hi hj => ?_, fun s i j s' i' j' hs hi hj hs' hi' hj' hne => ?_⟩
  · rcases cs s hs with rfl | rfl | rfl | rfl
    · exact op i j hi hj
    · exact oq i j hi hj
    · exact oo i j hi hj
    · exact om i j hi hj
  · rcases cs s hs with rfl | rfl | rfl | rfl <;> rcases cs s' hs' with rfl | rfl | rfl | rfl
    · exact pp i j i' j' hi hj hi' hj' fun e => hne ⟨rfl, e.1, e.2⟩
    · exact pq i j i' j' hi hj hi' hj'
    · exact po i j i' j' hi hj hi' hj'
    · exact pm i j i' j' hi hj hi' hj'
    · exact (pq i' j' i j hi' hj' hi hj).symm
    · exact qq i j i' j' hi hj hi' hj' fun e => hne ⟨rfl, e.1, e.2⟩
    · exact qo i j i' j' hi hj hi' hj'
    · exact qm i j i' j' hi hj hi' hj'
    · exact (po i' j' i j hi' hj' hi hj).symm
    · exact (qo i' j' i j hi' hj' hi hj).symm
    · exact o2 i j i' j' hi hj hi' hj' fun e => hne ⟨rfl, e.1, e.2⟩
    · exact om' i j i' j' hi hj hi' hj'
    · exact (pm i' j' i j hi' hj' hi hj).symm
    · exact (qm i' j' i j hi' hj' hi hj).symm
    · exact (om' i' j' i j hi' hj' hi hj).symm
    · exact m2 i j i' j' hi hj hi' hj' fun e => hne ⟨rfl, e.1, e.2⟩
theorem oneCells (L : List It) : ∀ u ∈ L.map IV, u.oneCell' = true := fun u hu => by
  obtain ⟨x, _, rfl⟩ := List.mem_map.1 hu
  rfl
theorem oneCellsR (n : Nat) (f : Nat → It) : ∀ u ∈ (List.range n).map (fun j => IV (f j)), u.oneCell' = true := fun u hu => by
  obtain ⟨x, _, rfl⟩ := List.mem_map.1 hu
  rfl
/-- the collected numbers are told apart -/
theorem apart_all {W0 wr : World} {h0 B0 n t m c : Nat} {its : Nat → Nat → Nat → It} {a : Option Addr} {L : List It} (h : AllAt W0 wr h0 B0 n its t a m c L) (hh : h0 = W0.heap.size) (hB : B0 ≤ h0) (hn : n ≤ 5) (ht : t ≤ 20) :
    Calls Tryd.prog 25 #[.slice a m c] wr fun e w' => e = .returned (.bool true) ∧ Below B0 wr w' := by
  obtain ⟨hm1, hm0⟩ := h.small hn ht
  obtain ⟨gl, rfl, hg1, hg2⟩ := own_form h.row hm0
  have hL := h.len
  have hlt : ∀ q (hq : q < L.length) b, (IV L[q]).ownBlock = some b → b < h0 := fun q hq b hb => by
    obtain ⟨⟨xs, ho⟩, _⟩ := h.coll.own _ (List.getElem_mem hq)
    have := own_lt ho b hb
    omega
  have hS : ApN.St gl L := by
    refine ⟨fun p q hp hq hne => ?_, fun q hq e => ?_, fun q hq => ?_, by omega⟩
    · rcases Nat.lt_or_ge p q with h1 | h1
      · exact List.pairwise_iff_getElem.1 h.coll.pw p q hp hq h1
      · exact Ap.symm (List.pairwise_iff_getElem.1 h.coll.pw q p hq hp (by omega))
    · have := hlt q hq gl e
      omega
    · have := (h.coll.own _ (List.getElem_mem hq)).2
      omega
  refine (ApN.apart_any gl B0 L wr hS hg2 (by omega) (fun q hq => ?_) (fun q hq => ?_) m c hL).mono fun e w' hp => ⟨hp.1, hp.2.1⟩
  · have := h.row.cellAt q (by omega)
    rw [this, List.getElem?_map, List.getElem?_eq_getElem hq]
    rfl
  · obtain ⟨⟨xs, ho⟩, _⟩ := h.coll.own _ (List.getElem_mem hq)
    exact ⟨xs, owns_below ho h.bel (by omega)⟩
end Go.Proofs.YtmdicmcmalmbaaaDoor
