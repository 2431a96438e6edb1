/- Small lemmas on memory: slices that read as lists, rows that a call owns. -/
import Derived.WalkKit
import Derived.Laws.BytesArg
import Derived.Laws.StructEq
import Derived.Deep.Draws
import Derived.Lib.Hide
namespace Go.Proofs.YtocfkmdoalhjmaaDoor
open Go.RowKit

/-- A slice (its address, its length) reads as the cells cs, sz cells an element. -/
def Rd (w : World) (a : Option Addr) (n sz : Nat) (cs : List Value) : Prop :=
  cs.length = n * sz ∧ (n = 0 ∨ ∃ b o, a = some ⟨b, o, none⟩ ∧ b < w.heap.size ∧ ∀ j u, cs[j]? = some u → w.cell? ⟨b, o + j, none⟩ = some u)

theorem Rd.below {B : Nat} {w w' : World} {a : Option Addr} {n sz : Nat} {cs : List Value} (h : Rd w a n sz cs) (hb : Below B w w') (hB : w.heap.size ≤ B) : Rd w' a n sz cs := by
  refine ⟨h.1, ?_⟩
  rcases h.2 with h0 | ⟨b, o, ha, hlt, hc⟩
  · exact .inl h0
  · refine .inr ⟨b, o, ha, Nat.lt_of_lt_of_le hlt hb.size, fun j u hu => ?_⟩
    have := hb.cell (p := ⟨b, o + j, none⟩) (Nat.lt_of_lt_of_le hlt hB)
    rw [this]; exact hc j u hu

theorem below_drewN {B : Nat} {a w : World} (h : Below B a w) (n : Nat) : Below B a (w.drewN n) := h.trans ⟨rfl, rfl, rfl, Nat.le_refl _, fun _ _ => rfl⟩

theorem bstep {a b c : World} (h : Below a.heap.size a b) (k : Below b.heap.size b c) : Below a.heap.size a c := h.trans (k.mono h.size)
theorem balloc {a b : World} (h : Below a.heap.size a b) (o : Obj) : Below a.heap.size a (b.alloc o) := h.alloc h.size o
theorem bdrewN {a b : World} (h : Below a.heap.size a b) (n : Nat) : Below a.heap.size a (b.drewN n) := below_drewN h n
theorem bnil (a : World) : Below a.heap.size a a := Below.refl _ _
/-- what is there stays, over the worlds behind -/
theorem Rd.up {w w' : World} {a : Option Addr} {n sz : Nat} {cs : List Value} (h : Rd w a n sz cs) (hb : Below w.heap.size w w') : Rd w' a n sz cs := h.below hb (Nat.le_refl _)
theorem Rd.al {w : World} {a : Option Addr} {n sz : Nat} {cs : List Value} (h : Rd w a n sz cs) (o : Obj) : Rd (w.alloc o) a n sz cs := h.up (balloc (bnil _) o)

theorem owns_slice {w : World} {base sz n : Nat} {e : TypeId} {v : Value} {cs : List Value} (h : w.ownsRow base e sz v n cs) : ∃ a c, v = .slice a n c ∧ n ≤ c ∧ c ≤ maxLen := by
  rcases h.2 with ⟨rfl, rfl⟩ | ⟨g, cap, cur, rfl, _, _, h1, h2, _⟩
  · exact ⟨none, 0, rfl, Nat.le_refl _, Nat.zero_le _⟩
  · exact ⟨_, _, rfl, h1, h2⟩

theorem owns_rd {w : World} {base sz n m : Nat} {e : TypeId} {a : Option Addr} {c : Nat} {cs : List Value} (h : w.ownsRow base e sz (.slice a m c) n cs) : m = n ∧ Rd w a n sz cs := by
  rcases h.2 with ⟨h1, h2⟩ | ⟨g, cap, cur, h1, h2, h3, h4, h5, h6, h7⟩
  · cases h1; subst h2; exact ⟨rfl, h.1, .inl rfl⟩
  · cases h1
    refine ⟨rfl, h.1, .inr ⟨g, 0, rfl, (Array.getElem?_eq_some_iff.1 h3).1, fun j u hu => ?_⟩⟩
    have := h.cells (g := g) rfl j u hu
    simpa [Addr.add] using (by unfold Addr.add at this; split at this <;> simp_all : w.cell? ⟨g, 0 + j, none⟩ = some u)

/-- What a row that is owned from 'base' on owes to the worlds behind it, where nothing below 'lim' is written: it stays. -/
theorem owns_below {w w' : World} {base B sz n : Nat} {e : TypeId} {v : Value} {cs : List Value} (h : w.ownsRow base e sz v n cs) (hb : Below B w w') (hB : w.heap.size ≤ B) : w'.ownsRow base e sz v n cs := by
  refine ⟨h.1, ?_⟩
  rcases h.2 with hn | ⟨g, cap, cur, rfl, hbg, hg, rest⟩
  · exact .inl hn
  · have hlt := (Array.getElem?_eq_some_iff.1 hg).1
    exact .inr ⟨g, cap, cur, rfl, hbg, by rw [hb.block g (by omega)]; exact hg, rest⟩
theorem owns_up {w w' : World} {base sz n : Nat} {e : TypeId} {v : Value} {cs : List Value} (h : w.ownsRow base e sz v n cs) (hb : Below w.heap.size w w') : w'.ownsRow base e sz v n cs := owns_below h hb (Nat.le_refl _)
theorem owns_base {w : World} {base b' sz n : Nat} {e : TypeId} {v : Value} {cs : List Value} (h : w.ownsRow base e sz v n cs) (hb : b' ≤ base) : w.ownsRow b' e sz v n cs := by
  refine ⟨h.1, ?_⟩
  rcases h.2 with hn | ⟨g, cap, cur, rfl, hbg, rest⟩
  · exact .inl hn
  · exact .inr ⟨g, cap, cur, rfl, Nat.le_trans hb hbg, rest⟩

/-- a slice over a block that has just been laid -/
theorem rd_new {w : World} {g m sz : Nat} {news : Array Value} {e : TypeId} {fr : Nat × Nat} (hg : g = w.heap.size) (hn : news.size = m * sz) : Rd (w.alloc (.cells news e fr)) (some ⟨g, 0, none⟩) m sz news.toList := by
  subst hg
  refine ⟨by simpa using hn, .inr ⟨w.heap.size, 0, rfl, by simp, fun j u hu => ?_⟩⟩
  have hh : (w.alloc (.cells news e fr)).heap[w.heap.size]? = some (.cells news e fr) := heap_alloc_new w _
  simp only [World.cell?, hh, Nat.zero_add]
  simpa using hu

/-- string(bytes) -/
theorem conv_str {P : Program} {w : World} {src dst e : TypeId} (hs : P.underlying src = some (.slice e)) (he : P.underlying e = some (.int .u8)) (hd : P.underlying dst = some .string)
    {a : Option Addr} {n c : Nat} {xs : List Int} (hR : Rd w a n 1 (xs.map (Value.int .u8))) : (convert src dst (.slice a n c)).run P w = .ok (.string (strOfNums xs)) w := by
  have hl : xs.length = n := by simpa using hR.1
  rcases hR.2 with h0 | ⟨b, o, rfl, _, hc⟩
  · subst h0
    have hx : xs = [] := List.eq_nil_of_length_eq_zero hl
    subst hx
    cases a with
    | none => rw [run_convert_bytes_nil w src e hs he _ _ dst hd]; rfl
    | some ad =>
      obtain ⟨b, o, sp⟩ := ad
      rw [run_convert_bytes_string w src dst e _ _ c hs he hd]
      rw [run_bytesToString (P := P) w _ 0 c [] (by simp [loadCells, loadCellsFrom])]
      rfl
  · exact run_convert_bytes_arg w src e hs he b o n c xs hl (fun i hi => hc i _ (by simp [hl ▸ hi])) dst hd

theorem strOfNums_eq {xs ys : List Int} (hx : ∀ x ∈ xs, 0 ≤ x ∧ x ≤ 255) (hy : ∀ y ∈ ys, 0 ≤ y ∧ y ≤ 255) : ((strOfNums xs).toList == (strOfNums ys).toList) = decide (xs = ys) := by
  rw [Bool.eq_iff_iff, beq_iff_eq, decide_eq_true_eq, ByteArray.toList_eq, ByteArray.toList_eq]
  constructor
  · intro h
    rw [strOfNums_data, strOfNums_data] at h
    have h2 := congrArg (List.map fun c : UInt8 => (c.toNat : Int)) h
    rw [List.map_map, List.map_map] at h2
    have key : ∀ l : List Int, (∀ x ∈ l, 0 ≤ x ∧ x ≤ 255) → l.map ((fun c : UInt8 => (c.toNat : Int)) ∘ fun n : Int => UInt8.ofNat n.toNat) = l := by
      intro l hl
      refine (List.map_congr_left fun x hxm => ?_).trans (List.map_id l)
      have := hl x hxm
      simp only [Function.comp, UInt8.toNat_ofNat', id]
      omega
    rw [key xs hx, key ys hy] at h2
    exact h2
  · intro h; subst h; rfl
end Go.Proofs.YtocfkmdoalhjmaaDoor
