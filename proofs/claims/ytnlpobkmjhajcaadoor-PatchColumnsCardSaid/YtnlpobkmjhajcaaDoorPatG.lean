/- What patch.Parse tells of a text (plain), and its faults' end. -/
import Derived.Test.YtnlpobkmjhajcaaDoorPatE
import Derived.Test.YtnlpobkmjhajcaaDoorShelf
import Derived.Lib.SplitLaws
namespace Go.Proofs.YtnlpobkmjhajcaaDoor
open Go.RowKit
set_option linter.unusedVariables false
set_option maxRecDepth 100000

def badC (x : UInt8) : Bool := x != 46 && x != 35 && x != 47
def cellC (x : UInt8) : Int := Lib.indexByte [46, 35] x
def rowC (t : ByteArray) : List Int := t.data.toList.map cellC
def lnsB (s : ByteArray) : List ByteArray := Lib.splitB ⟨#[47]⟩ 0 (Lib.countB s ⟨#[47]⟩) s
def wid (s : ByteArray) : Nat := ((lnsB s).getD 0 ⟨#[]⟩).size
/-- the first line that is empty or of another length: where it ends -/
def lineErr (w : Nat) : Int → List ByteArray → Option Int
  | _, [] => none
  | e, t :: r => if t.size = 0 ∨ t.size ≠ w then some (e + ((t.size : Int) + 1)) else lineErr w (e + ((t.size : Int) + 1)) r
def parErrP (s : ByteArray) : Option (Int × Int) :=
  if 8192 < s.size then some (0, 4)
  else match s.data.toList.findIdx? badC with
    | some i => some ((i : Int), 6)
    | none => match lineErr (wid s) (-1) (lnsB s) with
      | some e => some (e, 6)
      | none => if 64 < wid s then some (1, 4) else if 64 < (lnsB s).length then some (2, 4) else none
def parCells (s : ByteArray) : List Int := (lnsB s).flatMap rowC

theorem split_sizes (sp : ByteArray) : ∀ (k : Nat) (s : ByteArray), ∀ t ∈ Lib.splitB sp 0 k s, t.size ≤ s.size
  | 0, s, t, h => by simp [Lib.splitB] at h; simp [h]
  | k + 1, s, t, h => by
    unfold Lib.splitB at h
    split at h
    · simp at h; simp [h]
    · rcases List.mem_cons.1 h with rfl | h
      · rw [ByteArray.size_extract]; omega
      · have := split_sizes sp k _ t h
        rw [ByteArray.size_extract] at this
        omega
theorem lns_size {s t : ByteArray} (h : t ∈ lnsB s) : t.size ≤ s.size := split_sizes _ _ _ t h
theorem lns_len (s : ByteArray) : (lnsB s).length = Lib.countB s ⟨#[47]⟩ + 1 := Lib.splitB_all _ (by decide) 0 _ s rfl
theorem lns_le (s : ByteArray) : (lnsB s).length ≤ s.size + 1 := by
  rw [lns_len]
  have := Lib.countB_le ⟨#[47]⟩ (by decide) s.size s (Nat.le_refl _)
  omega
theorem par_big {s : ByteArray} (h : 8192 < s.size) : parErrP s = some (0, 4) := by unfold parErrP; rw [if_pos h]
theorem par_bad {s : ByteArray} {i : Nat} (h : ¬ 8192 < s.size) (hi : i < s.size) (hg : ∀ j (hj : j < s.size), j < i → badC s[j] = false) (hb : badC s[i] = true) : parErrP s = some ((i : Int), 6) := by
  have hf : s.data.toList.findIdx? badC = some i := by
    rw [List.findIdx?_eq_some_iff_getElem]
    refine ⟨by simpa using hi, hb, fun j hj => ?_⟩
    have := hg j (by omega) hj
    have hjs : j < s.size := by omega
    have h2 : badC (s.data.toList[j]'(by simpa using hjs)) = false := this
    rw [h2]
    decide
  unfold parErrP
  rw [if_neg h, hf]
theorem par_fine {s : ByteArray} (h : ¬ 8192 < s.size) (hg : ∀ j (hj : j < s.size), badC s[j] = false) : parErrP s = match lineErr (wid s) (-1) (lnsB s) with
      | some e => some (e, 6)
      | none => if 64 < wid s then some (1, 4) else if 64 < (lnsB s).length then some (2, 4) else none := by
  have hf : s.data.toList.findIdx? badC = none := by
    rw [List.findIdx?_eq_none_iff]
    intro x hx
    obtain ⟨j, hj, rfl⟩ := List.getElem_of_mem hx
    exact hg j (by simpa using hj)
  unfold parErrP
  rw [if_neg h, hf]
theorem line_bad {w : Nat} {e : Int} {t : ByteArray} {r : List ByteArray} (h : t.size = 0 ∨ t.size ≠ w) : lineErr w e (t :: r) = some (e + ((t.size : Int) + 1)) := by rw [lineErr, if_pos h]
theorem line_fine {w : Nat} {e : Int} {t : ByteArray} {r : List ByteArray} (h1 : ¬ t.size = 0) (h2 : t.size = w) : lineErr w e (t :: r) = lineErr w (e + ((t.size : Int) + 1)) r := by rw [lineErr, if_neg (by omega)]
theorem rowC_len (t : ByteArray) : (rowC t).length = t.size := by simp [rowC]
theorem rowC_snoc {x : ByteArray} {i : Nat} (h : i < x.size) : (rowC x).take (i + 1) = (rowC x).take i ++ [cellC x[i]] := by
  have h2 : i < (rowC x).length := by rw [rowC_len]; exact h
  rw [List.take_succ_eq_append_getElem h2]
  simp only [rowC, List.getElem_map]
  rfl
theorem rows_snoc {L : List ByteArray} {j : Nat} {x : ByteArray} (h : L[j]? = some x) : (L.take (j + 1)).flatMap rowC = (L.take j).flatMap rowC ++ rowC x := by
  obtain ⟨hj, rfl⟩ := List.getElem?_eq_some_iff.1 h
  rw [List.take_succ_eq_append_getElem hj, List.flatMap_append]
  simp

/-- a fault's end: the result's variable keeps the empty patch -/
theorem pe_fin {W w1 : World} {R : Nat → Addr} (hS : Sent W R) (hb1 : Below W.heap.size W w1) (hz : w1.heap[W.heap.size]? = some (.cells #[.int .i64 0, .int .i64 0, .slice none 0 0] 24)) (at_ num : Int) :
    ((w1.alloc (faultObj opPatch at_ (.iface 139 (.pointer (some (R (rix num))))))).heap[W.heap.size]? = some (.cells #[.int .i64 0, .int .i64 0, .slice none 0 0] 24)) ∧
    ∃ w9, ((((w1.alloc (faultObj opPatch at_ (.iface 139 (.pointer (some (R (rix num))))))).setCell ⟨W.heap.size, 0, none⟩ (.int .i64 0)).setCell ⟨W.heap.size, 1, none⟩ (.int .i64 0)).setCell ⟨W.heap.size, 2, none⟩ (.slice none 0 0)) = w9 ∧
      (w9.cell? ⟨W.heap.size, 0, none⟩ = some (.int .i64 0) ∧ w9.cell? ⟨W.heap.size, 1, none⟩ = some (.int .i64 0) ∧ w9.cell? ⟨W.heap.size, 2, none⟩ = some (.slice none 0 0)) ∧
      PatErr R (some ([(opPatch, at_)], num)) W (.returned (.tuple #[patV 0 0 none 0 0, .iface 78 (.pointer (some ⟨w1.heap.size, 0, none⟩))])) w9 := by
  have hlt : W.heap.size < w1.heap.size := (Array.getElem?_eq_some_iff.1 hz).1
  have hz2 : (w1.alloc (faultObj opPatch at_ (.iface 139 (.pointer (some (R (rix num))))))).heap[W.heap.size]? = some (.cells #[.int .i64 0, .int .i64 0, .slice none 0 0] 24) := ((balloc (bnil w1) _).block _ hlt).trans hz
  obtain ⟨w9, e9, hc, hk9, hs9, hbl9⟩ := set3p hz2 (.int .i64 0) (.int .i64 0) (.slice none 0 0)
  have hE : EC R (w1.alloc (faultObj opPatch at_ (.iface 139 (.pointer (some (R (rix num))))))) (.iface 78 (.pointer (some ⟨w1.heap.size, 0, none⟩))) (some ([(opPatch, at_)], num)) := ec_err ((hS.up hb1).up (balloc (bnil w1) _)) (isErr_new (Nat.le_refl _))
  exact ⟨hz2, w9, e9, hc, _, rfl, hE.othP hS hk9 hz2 (Nat.le_refl _), hbl9 _ _ (Nat.le_refl _) (balloc hb1 _)⟩
theorem set2p {w : World} {g : Nat} {x0 x1 x2 : Value} {t : TypeId} {fr : Nat × Nat} (h : w.heap[g]? = some (.cells #[x0, x1, x2] t fr)) (u : Value) : (w.setCell ⟨g, 2, none⟩ u).heap[g]? = some (.cells #[x0, x1, u] t fr) := by
  simp [World.setCell, Array.getElem?_modify, h]
theorem ixb (x : ByteArray) (i : Nat) (hi : i < x.size) (w : World) : Calls Tryd.prog 45 #[.string ⟨#[46, 35]⟩, .int .u8 x[i].toNat] w fun e w' => e = .returned (.int .i64 (cellC x[i])) ∧ w' = w := by
  refine (Tryd.strings_IndexByte ⟨#[46, 35]⟩ x[i].toNat w).mono ?_
  rintro e w' ⟨rfl, rfl⟩
  refine ⟨?_, rfl⟩
  have : ((x[i].toNat : Int)).toNat.toUInt8 = x[i] := by simp
  rw [this]
  rfl
/-- the patch that a text writes -/
def ParOk (W : World) (s : ByteArray) (e : Ending) (w' : World) : Prop :=
  ∃ a c', e = .returned (.tuple #[patV (wid s) (lnsB s).length a (parCells s).length c', .nilIface]) ∧ OwI w' W.heap.size a (parCells s).length c' (parCells s) ∧ Below W.heap.size W w'
end Go.Proofs.YtnlpobkmjhajcaaDoor
