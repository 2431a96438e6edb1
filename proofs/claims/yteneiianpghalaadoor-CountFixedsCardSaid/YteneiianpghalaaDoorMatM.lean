/- Lists and matrices of numbers in memory: read, and owned. -/
import Derived.Test.YteneiianpghalaaDoorNatA
import Derived.Test.YteneiianpghalaaDoorNatD
import Derived.Test.YteneiianpghalaaDoorBase
namespace Go.Proofs.YteneiianpghalaaDoor
open Go.RowKit
set_option linter.unusedVariables false
set_option maxRecDepth 100000

/-- a slice of limbs with its bounds -/
structure Ns (w : World) (a : Option Addr) (n c : Nat) (l : List Nat) : Prop where
  nr : NR w a n l
  le : n ≤ c
  cm : c ≤ maxLen
theorem Ns.up {w w' : World} {a : Option Addr} {n c : Nat} {l : List Nat} (h : Ns w a n c l) (hb : Below w.heap.size w w') : Ns w' a n c l := ⟨h.nr.up hb, h.le, h.cm⟩
theorem NV.ns {w : World} {a : Option Addr} {n c x : Nat} (h : NV w a n c x) : Ns w a n c (limbs x) := ⟨h.nr, h.le, h.cm⟩

/-- a row of cells at an address: the property of each -/
def Cells (w : World) (a : Option Addr) (n : Nat) (P : Nat → Value → Prop) : Prop :=
  n = 0 ∨ ∃ b o, a = some ⟨b, o, none⟩ ∧ b < w.heap.size ∧ ∀ j, j < n → ∃ v, w.cell? ⟨b, o + j, none⟩ = some v ∧ P j v
theorem Cells.up {w w' : World} {a : Option Addr} {n : Nat} {P Q : Nat → Value → Prop} (h : Cells w a n P) (hb : Below w.heap.size w w') (hPQ : ∀ j v, j < n → P j v → Q j v) : Cells w' a n Q := by
  rcases h with h | ⟨b, o, h1, h2, h3⟩
  · exact .inl h
  · refine .inr ⟨b, o, h1, Nat.lt_of_lt_of_le h2 hb.size, fun j hj => ?_⟩
    obtain ⟨v, h4, h5⟩ := h3 j hj
    exact ⟨v, (hb.cell (p := ⟨b, o + j, none⟩) h2).trans h4, hPQ j v hj h5⟩
/-- a list of numbers: slices that read as limbs -/
def NsR (w : World) (a : Option Addr) (n : Nat) (F : Nat → List Nat) : Prop :=
  Cells w a n fun j v => ∃ a' n' c', v = .slice a' n' c' ∧ Ns w a' n' c' (F j)
theorem NsR.up {w w' : World} {a : Option Addr} {n : Nat} {F : Nat → List Nat} (h : NsR w a n F) (hb : Below w.heap.size w w') : NsR w' a n F :=
  Cells.up h hb fun _ _ _ ⟨a', n', c', h1, h2⟩ => ⟨a', n', c', h1, h2.up hb⟩
theorem NsR.addr {w : World} {a : Option Addr} {n : Nat} {F : Nat → List Nat} (h : NsR w a n F) (hn : 0 < n) :
    ∃ b o, a = some ⟨b, o, none⟩ ∧ b < w.heap.size ∧ ∀ j, j < n → ∃ a' n' c', w.cell? ⟨b, o + j, none⟩ = some (.slice a' n' c') ∧ Ns w a' n' c' (F j) := by
  rcases h with h | ⟨b, o, h1, h2, h3⟩
  · omega
  · refine ⟨b, o, h1, h2, fun j hj => ?_⟩
    obtain ⟨v, h4, a', n', c', rfl, h5⟩ := h3 j hj
    exact ⟨a', n', c', h4, h5⟩
/-- a list of lists of numbers; len: how long each is -/
def MsR (w : World) (a : Option Addr) (n : Nat) (len : Nat → Nat) (F : Nat → Nat → List Nat) : Prop :=
  Cells w a n fun i v => ∃ a' c', v = .slice a' (len i) c' ∧ len i ≤ c' ∧ c' ≤ maxLen ∧ (a' = none → c' = 0) ∧ NsR w a' (len i) (F i)
theorem MsR.up {w w' : World} {a : Option Addr} {n : Nat} {len : Nat → Nat} {F : Nat → Nat → List Nat} (h : MsR w a n len F) (hb : Below w.heap.size w w') : MsR w' a n len F :=
  Cells.up h hb fun _ _ _ ⟨a', c', h1, h2, h3, h4, h5⟩ => ⟨a', c', h1, h2, h3, h4, h5.up hb⟩
theorem MsR.addr {w : World} {a : Option Addr} {n : Nat} {len : Nat → Nat} {F : Nat → Nat → List Nat} (h : MsR w a n len F) (hn : 0 < n) :
    ∃ b o, a = some ⟨b, o, none⟩ ∧ b < w.heap.size ∧ ∀ i, i < n → ∃ a' c', w.cell? ⟨b, o + i, none⟩ = some (.slice a' (len i) c') ∧ len i ≤ c' ∧ c' ≤ maxLen ∧ (a' = none → c' = 0) ∧ NsR w a' (len i) (F i) := by
  rcases h with h | ⟨b, o, h1, h2, h3⟩
  · omega
  · refine ⟨b, o, h1, h2, fun j hj => ?_⟩
    obtain ⟨v, h4, a', c', rfl, h5⟩ := h3 j hj
    exact ⟨a', c', h4, h5⟩

/-! ### owned -/
abbrev It := Option Addr × Nat × Nat
def IV (p : It) : Value := .slice p.1 p.2.1 p.2.2
/-- rows of two types lie in two blocks -/
theorem ap_type {w : World} {b1 b2 s1 s2 n1 n2 : Nat} {e1 e2 : TypeId} {v1 v2 : Value} {c1 c2 : List Value} (h1 : w.ownsRow b1 e1 s1 v1 n1 c1) (h2 : w.ownsRow b2 e2 s2 v2 n2 c2) (he : e1 ≠ e2) : Ap v1 v2 := by
  intro g hg hg2
  rcases h1.2 with ⟨rfl, _⟩ | ⟨k1, _, _, rfl, _, q1, _⟩
  · cases hg
  · rcases h2.2 with ⟨rfl, _⟩ | ⟨k2, _, _, rfl, _, q2, _⟩
    · cases hg2
    · simp only [Value.ownBlock, Option.some.injEq] at hg hg2
      subst hg hg2
      rw [q1] at q2
      simp only [Option.some.injEq, Obj.cells.injEq] at q2
      exact he q2.2.1
theorem ap_after {w w2 : World} {b1 b2 sz1 sz2 n1 n2 : Nat} {e1 e2 : TypeId} {v1 v2 : Value} {c1 c2 : List Value} (h1 : w.ownsRow b1 e1 sz1 v1 n1 c1) (h2 : w2.ownsRow b2 e2 sz2 v2 n2 c2) (hb : w.heap.size ≤ b2) : Ap v1 v2 := by
  intro g hg hg2
  have := (h1.lt g hg).2
  have := (h2.lt g hg2).1
  omega
/-- a number's own row -/
structure OwN (w : World) (base : Nat) (p : It) (l : List Nat) : Prop where
  own : w.ownsRow base 95 1 (IV p) p.2.1 ((ofN l).map (Value.int .u32))
  u32 : U32 l
theorem OwN.up {w w' : World} {base : Nat} {p : It} {l : List Nat} (h : OwN w base p l) (hb : Below w.heap.size w w') : OwN w' base p l := ⟨owns_up h.own hb, h.u32⟩
theorem OwN.base {w : World} {base b' : Nat} {p : It} {l : List Nat} (h : OwN w base p l) (hb : b' ≤ base) : OwN w b' p l := ⟨owns_base h.own hb, h.u32⟩
theorem OwN.ns {w : World} {base : Nat} {p : It} {l : List Nat} (h : OwN w base p l) : Ns w p.1 p.2.1 p.2.2 l := by
  obtain ⟨a, c, he, h1, h2⟩ := owns_slice h.own
  unfold IV at he
  injection he with e1 e2 e3
  exact ⟨⟨RK.of_own (a := p.1) (c := p.2.2) h.own, h.u32⟩, by rw [e3]; exact h1, by rw [e3]; exact h2⟩
theorem OwN.nil (w : World) (base : Nat) : OwN w base (none, 0, 0) [] := ⟨World.ownsRow_nil _ _ _ _, fun x hx => by cases hx⟩
theorem OwN.set {w : World} {base g j n c : Nat} {p : It} {l : List Nat} {cs : List Value} {b' sz : Nat} {e : TypeId} (h : OwN w base p l) (ho : w.ownsRow b' e sz (.slice (some ⟨g, 0, none⟩) n c) n cs) (he : e ≠ 95) (u : Value) : OwN (w.setCell ⟨g, j, none⟩ u) base p l :=
  ⟨own_set_other h.own (fun e2 => (ap_type ho h.own he) g rfl e2) u, h.u32⟩

/-- a list of numbers that the call owns: the list, its numbers, all in blocks of their own -/
structure OwNs (w : World) (base : Nat) (v : Value) (n : Nat) (its : Nat → It) (F : Nat → List Nat) : Prop where
  row : w.ownsRow base 27 1 v n ((List.range n).map fun j => IV (its j))
  num : ∀ j, j < n → OwN w base (its j) (F j)
  ap : ∀ i j, i < n → j < n → i ≠ j → Ap (IV (its i)) (IV (its j))
theorem OwNs.up {w w' : World} {base n : Nat} {v : Value} {its : Nat → It} {F : Nat → List Nat} (h : OwNs w base v n its F) (hb : Below w.heap.size w w') : OwNs w' base v n its F := ⟨owns_up h.row hb, fun j hj => (h.num j hj).up hb, h.ap⟩
theorem OwNs.base {w : World} {base b' n : Nat} {v : Value} {its : Nat → It} {F : Nat → List Nat} (h : OwNs w base v n its F) (hb : b' ≤ base) : OwNs w b' v n its F := ⟨owns_base h.row hb, fun j hj => (h.num j hj).base hb, h.ap⟩
theorem OwNs.congr {w : World} {base n : Nat} {v : Value} {its : Nat → It} {F G : Nat → List Nat} (h : OwNs w base v n its F) (e : ∀ j, j < n → F j = G j) : OwNs w base v n its G := ⟨h.row, fun j hj => by rw [← e j hj]; exact h.num j hj, h.ap⟩
theorem range_at {n j : Nat} (f : Nat → Value) (h : j < n) : ((List.range n).map f)[j]? = some (f j) := by simp [h]
theorem OwNs.nsR {w : World} {base n c : Nat} {a : Option Addr} {its : Nat → It} {F : Nat → List Nat} (h : OwNs w base (.slice a n c) n its F) : NsR w a n F := by
  rcases Nat.eq_zero_or_pos n with h0 | h0
  · exact .inl h0
  · obtain ⟨g, rfl, _, hg⟩ := own_form h.row h0
    refine .inr ⟨g, 0, rfl, hg, fun j hj => ⟨IV (its j), ?_, _, _, _, rfl, (h.num j hj).ns⟩⟩
    rw [Nat.zero_add, h.row.cellAt j (by omega), range_at _ hj]
def upd {α : Type} (f : Nat → α) (j : Nat) (x : α) : Nat → α := fun i => if i = j then x else f i
theorem upd_self {α : Type} (f : Nat → α) (j : Nat) (x : α) : upd f j x j = x := by simp [upd]
theorem upd_ne {α : Type} (f : Nat → α) {i j : Nat} (x : α) (h : i ≠ j) : upd f j x i = f i := by simp [upd, h]
theorem range_set {n j : Nat} (f : Nat → Value) (x : Value) (g : Nat → Value) (hg : ∀ i, i < n → g i = if i = j then x else f i) : ((List.range n).map f).set j x = (List.range n).map g := by
  apply List.ext_getElem
  · simp
  · intro i h1 h2
    simp only [List.length_map, List.length_range] at h2
    rw [List.getElem_set]
    simp only [List.getElem_map, List.getElem_range]
    rw [hg i h2]
    by_cases e : i = j
    · rw [if_pos e.symm, if_pos e]
    · rw [if_neg fun e2 => e e2.symm, if_neg e]
/-- a number is stored into the list -/
theorem OwNs.store {w : World} {base n c g j : Nat} {its : Nat → It} {F : Nat → List Nat} {p : It} {l : List Nat} (h : OwNs w base (.slice (some ⟨g, 0, none⟩) n c) n its F) (hj : j < n) (hp : OwN w base p l) (hap : ∀ i, i < n → i ≠ j → Ap (IV (its i)) (IV p)) :
    OwNs (w.setCell ⟨g, j, none⟩ (IV p)) base (.slice (some ⟨g, 0, none⟩) n c) n (upd its j p) (upd F j l) := by
  have hne : 27 ≠ 95 := by decide
  refine ⟨?_, fun i hi => ?_, fun i k hi hk hik => ?_⟩
  · have := own_set h.row j (IV p)
    rwa [range_set (fun j => IV (its j)) (IV p) (fun i => IV (upd its j p i)) fun i _ => by unfold upd; split <;> rfl] at this
  · by_cases e : i = j
    · subst e; rw [upd_self, upd_self]; exact hp.set h.row hne _
    · rw [upd_ne _ _ e, upd_ne _ _ e]; exact (h.num i hi).set h.row hne _
  · by_cases e : i = j
    · subst e
      rw [upd_self, upd_ne _ _ (fun e2 => hik e2.symm)]
      exact (hap k hk (fun e2 => hik e2.symm)).symm
    · rw [upd_ne _ _ e]
      by_cases e2 : k = j
      · subst e2; rw [upd_self]; exact hap i hi hik
      · rw [upd_ne _ _ e2]; exact h.ap i k hi hk hik
theorem OwN.lt {w : World} {base : Nat} {p : It} {l : List Nat} (h : OwN w base p l) : ∀ g, (IV p).ownBlock = some g → g < w.heap.size := own_lt h.own
theorem made_nats (n : Nat) : (madeCells (Value.slice none 0 0).cells (n * 1)).toList = (List.range n).map fun _ => IV (none, 0, 0) := by
  rw [show (Value.slice none 0 0).cells = #[.slice none 0 0] from by rfl, toList_madeCells_one]
  simp [IV, List.map_const']
theorem OwNs.made {w : World} {base n c : Nat} {a : Option Addr} (h : w.ownsRow base 27 1 (.slice a n c) n ((List.range n).map fun _ => IV (none, 0, 0))) : OwNs w base (.slice a n c) n (fun _ => (none, 0, 0)) fun _ => [] :=
  ⟨h, fun j hj => OwN.nil _ _, fun i j _ _ _ g hg => by cases hg⟩
theorem OwNs.set {w : World} {base n g j m c b' sz : Nat} {v : Value} {its : Nat → It} {F : Nat → List Nat} {cs : List Value} {e : TypeId} (h : OwNs w base v n its F) (ho : w.ownsRow b' e sz (.slice (some ⟨g, 0, none⟩) m c) m cs) (h1 : e ≠ 27) (h2 : e ≠ 95) (u : Value) : OwNs (w.setCell ⟨g, j, none⟩ u) base v n its F :=
  ⟨own_set_other h.row (fun e2 => (ap_type ho h.row h1) g rfl e2) u, fun i hi => (h.num i hi).set ho h2 u, h.ap⟩
/-- a matrix that the call owns: its first r lines are there -/
structure OwMs (w : World) (base : Nat) (v : Value) (n r : Nat) (rows : Nat → It) (its : Nat → Nat → It) (F : Nat → Nat → List Nat) : Prop where
  row : w.ownsRow base 82 1 v n ((List.range n).map fun i => IV (rows i))
  ns : ∀ i, i < r → (rows i).2.1 = n ∧ OwNs w base (IV (rows i)) n (its i) (F i)
  apR : ∀ i k, i < r → k < r → i ≠ k → Ap (IV (rows i)) (IV (rows k))
  ap : ∀ i j k q, i < r → k < r → j < n → q < n → i ≠ k → Ap (IV (its i j)) (IV (its k q))
theorem OwMs.up {w w' : World} {base n r : Nat} {v : Value} {rows : Nat → It} {its : Nat → Nat → It} {F : Nat → Nat → List Nat} (h : OwMs w base v n r rows its F) (hb : Below w.heap.size w w') : OwMs w' base v n r rows its F := ⟨owns_up h.row hb, fun i hi => ⟨(h.ns i hi).1, (h.ns i hi).2.up hb⟩, h.apR, h.ap⟩
theorem OwMs.base {w : World} {base b' n r : Nat} {v : Value} {rows : Nat → It} {its : Nat → Nat → It} {F : Nat → Nat → List Nat} (h : OwMs w base v n r rows its F) (hb : b' ≤ base) : OwMs w b' v n r rows its F := ⟨owns_base h.row hb, fun i hi => ⟨(h.ns i hi).1, (h.ns i hi).2.base hb⟩, h.apR, h.ap⟩
theorem OwMs.congr {w : World} {base n r : Nat} {v : Value} {rows : Nat → It} {its : Nat → Nat → It} {F G : Nat → Nat → List Nat} (h : OwMs w base v n r rows its F) (e : ∀ i j, i < r → j < n → F i j = G i j) : OwMs w base v n r rows its G := ⟨h.row, fun i hi => ⟨(h.ns i hi).1, (h.ns i hi).2.congr fun j hj => e i j hi hj⟩, h.apR, h.ap⟩
theorem OwNs.nsR' {w : World} {base n : Nat} {p : It} {its : Nat → It} {F : Nat → List Nat} (h : OwNs w base (IV p) n its F) (hp : p.2.1 = n) : n ≤ p.2.2 ∧ p.2.2 ≤ maxLen ∧ (p.1 = none → p.2.2 = 0) ∧ NsR w p.1 n F := by
  obtain ⟨a2, m2, c2⟩ := p
  simp only at hp
  subst hp
  obtain ⟨a3, c3, he, h3, h4⟩ := owns_slice h.row
  unfold IV at he
  injection he with e1 e2 e3
  subst e1 e3
  refine ⟨h3, h4, fun e => ?_, h.nsR⟩
  simp only at e
  subst e
  rcases h.row.2 with ⟨h5, _⟩ | ⟨_, _, _, h5, _⟩
  · unfold IV at h5; injection h5
  · unfold IV at h5; injection h5 with e1; cases e1
theorem OwMs.msR {w : World} {base n c : Nat} {a : Option Addr} {rows : Nat → It} {its : Nat → Nat → It} {F : Nat → Nat → List Nat} (h : OwMs w base (.slice a n c) n n rows its F) : MsR w a n (fun _ => n) F := by
  rcases Nat.eq_zero_or_pos n with h0 | h0
  · exact .inl h0
  · obtain ⟨g, rfl, _, hg⟩ := own_form h.row h0
    refine .inr ⟨g, 0, rfl, hg, fun i hi => ⟨IV (rows i), ?_, (rows i).1, (rows i).2.2, ?_, ?_⟩⟩
    · rw [Nat.zero_add, h.row.cellAt i (by omega), range_at _ hi]
    · obtain ⟨h1, h2⟩ := h.ns i hi
      unfold IV; rw [h1]
    · obtain ⟨h1, h2⟩ := h.ns i hi
      exact h2.nsR' h1
/-- a line is stored into the matrix -/
theorem OwMs.store {w : World} {base n c g r : Nat} {rows : Nat → It} {its : Nat → Nat → It} {F : Nat → Nat → List Nat} {p : It} {it : Nat → It} {G : Nat → List Nat} (h : OwMs w base (.slice (some ⟨g, 0, none⟩) n c) n r rows its F) (hr : r < n) (hpn : p.2.1 = n) (hp : OwNs w base (IV p) n it G)
    (hapR : ∀ i, i < r → Ap (IV (rows i)) (IV p)) (hap : ∀ i j q, i < r → j < n → q < n → Ap (IV (its i j)) (IV (it q))) :
    OwMs (w.setCell ⟨g, r, none⟩ (IV p)) base (.slice (some ⟨g, 0, none⟩) n c) n (r + 1) (upd rows r p) (upd its r it) (upd F r G) := by
  have hne : 82 ≠ 27 := by decide
  have hne2 : 82 ≠ 95 := by decide
  refine ⟨?_, fun i hi => ?_, fun i k hi hk hik => ?_, fun i j k q hi hk hj hq hik => ?_⟩
  · have := own_set h.row r (IV p)
    rwa [range_set (fun j => IV (rows j)) (IV p) (fun i => IV (upd rows r p i)) fun i _ => by unfold upd; split <;> rfl] at this
  · by_cases e : i = r
    · subst e; rw [upd_self, upd_self, upd_self]; exact ⟨hpn, hp.set h.row hne hne2 _⟩
    · rw [upd_ne _ _ e, upd_ne _ _ e, upd_ne _ _ e]
      exact ⟨(h.ns i (by omega)).1, (h.ns i (by omega)).2.set h.row hne hne2 _⟩
  · by_cases e : i = r
    · subst e
      rw [upd_self, upd_ne _ _ (fun e2 => hik e2.symm)]
      exact (hapR k (by omega)).symm
    · rw [upd_ne _ _ e]
      by_cases e2 : k = r
      · subst e2; rw [upd_self]; exact hapR i (by omega)
      · rw [upd_ne _ _ e2]; exact h.apR i k (by omega) (by omega) hik
  · by_cases e : i = r
    · subst e
      rw [upd_self, upd_ne _ _ (fun e2 => hik e2.symm)]
      exact (hap k q j (by omega) hq hj).symm
    · rw [upd_ne _ _ e]
      by_cases e2 : k = r
      · subst e2; rw [upd_self]; exact hap i j q (by omega) hj hq
      · rw [upd_ne _ _ e2]; exact h.ap i j k q (by omega) (by omega) hj hq hik
theorem OwMs.made {w : World} {base n c : Nat} {a : Option Addr} (h : w.ownsRow base 82 1 (.slice a n c) n ((List.range n).map fun _ => IV (none, 0, 0))) (F : Nat → Nat → List Nat) : OwMs w base (.slice a n c) n 0 (fun _ => (none, 0, 0)) (fun _ _ => (none, 0, 0)) F :=
  ⟨h, fun i hi => by omega, fun i _ hi => by omega, fun i _ _ _ hi => by omega⟩
theorem OwNs.keep {w : World} {base b' n m c g2 j : Nat} {v : Value} {its : Nat → It} {F : Nat → List Nat} {cs : List Value} (h : OwNs w base v n its F) (ho : w.ownsRow b' 27 1 (.slice (some ⟨g2, 0, none⟩) m c) m cs) (hap : Ap v (.slice (some ⟨g2, 0, none⟩) m c)) (u : Value) : OwNs (w.setCell ⟨g2, j, none⟩ u) base v n its F :=
  ⟨own_set_other h.row (fun e2 => hap g2 e2 rfl) u, fun i hi => (h.num i hi).set ho (by decide) u, h.ap⟩
/-- a number is stored into a line -/
theorem OwMs.put {w : World} {base n r i j g2 c2 : Nat} {v : Value} {rows : Nat → It} {its : Nat → Nat → It} {F : Nat → Nat → List Nat} {p : It} {l : List Nat} (h : OwMs w base v n r rows its F) (hi : i < r) (hj : j < n) (hrow : rows i = (some ⟨g2, 0, none⟩, n, c2)) (hp : OwN w base p l)
    (hap : ∀ q k, q < r → k < n → ¬ (q = i ∧ k = j) → Ap (IV (its q k)) (IV p)) : OwMs (w.setCell ⟨g2, j, none⟩ (IV p)) base v n r rows (upd its i (upd (its i) j p)) (upd F i (upd (F i) j l)) := by
  have hri := (h.ns i hi).2
  rw [hrow] at hri
  have hne : 27 ≠ 82 := by decide
  refine ⟨own_set_other h.row (fun e2 => (ap_type hri.row h.row hne) g2 rfl e2) _, fun q hq => ⟨(h.ns q hq).1, ?_⟩, h.apR, fun q k q' k' hq hq' hk hk' hne2 => ?_⟩
  · by_cases e : q = i
    · subst e
      rw [upd_self, upd_self, hrow]
      exact hri.store hj hp fun k hk hkj => hap q k hq hk fun e => hkj e.2
    · rw [upd_ne _ _ e, upd_ne _ _ e]
      have := h.apR q i hq hi e
      rw [hrow] at this
      exact (h.ns q hq).2.keep hri.row this _
  · have key : ∀ a b, upd its i (upd (its i) j p) a b = if a = i ∧ b = j then p else its a b := fun a b => by
      by_cases e : a = i
      · subst e
        rw [upd_self]
        by_cases e2 : b = j
        · subst e2; rw [upd_self, if_pos ⟨rfl, rfl⟩]
        · rw [upd_ne _ _ e2, if_neg fun e3 => e2 e3.2]
      · rw [upd_ne _ _ e, if_neg fun e3 => e e3.1]
    rw [key, key]
    by_cases e : q = i ∧ k = j
    · rw [if_pos e, if_neg fun e2 => hne2 (e.1.trans e2.1.symm)]
      exact (hap q' k' hq' hk' fun e2 => hne2 (e.1.trans e2.1.symm)).symm
    · rw [if_neg e]
      by_cases e2 : q' = i ∧ k' = j
      · rw [if_pos e2]; exact hap q k hq hk e
      · rw [if_neg e2]; exact h.ap q k q' k' hq hq' hk hk' hne2
/-- rows made later lie apart from what was there -/
theorem OwMs.later {w w2 : World} {base n m r b2 : Nat} {v : Value} {rows : Nat → It} {its : Nat → Nat → It} {F : Nat → Nat → List Nat} {p : It} {it : Nat → It} {G : Nat → List Nat} (h : OwMs w base v n r rows its F) (hp : OwNs w2 b2 (IV p) m it G) (hb : w.heap.size ≤ b2) :
    (∀ i, i < r → Ap (IV (rows i)) (IV p)) ∧ ∀ i j q, i < r → j < n → q < m → Ap (IV (its i j)) (IV (it q)) :=
  ⟨fun i hi => ap_after (h.ns i hi).2.row hp.row hb, fun i j q hi hj hq => ap_after ((h.ns i hi).2.num j hj).own (hp.num q hq).own hb⟩
end Go.Proofs.YteneiianpghalaaDoor
