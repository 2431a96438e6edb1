/- Rows of the call's own: stores, values apart, appends; slices that read as fronts. -/
import Derived.Test.YtocfkmdoalhjmaaDoorApp
import Derived.WalkKit
namespace Go.Proofs.YtocfkmdoalhjmaaDoor
open Go.RowKit
set_option linter.unusedVariables false
set_option maxRecDepth 100000

/-- store into a row of the call's own -/
theorem own_set {w : World} {base sz n : Nat} {e : TypeId} {g c : Nat} {cs : List Value} (h : w.ownsRow base e sz (.slice (some ⟨g, 0, none⟩) n c) n cs) (j : Nat) (u : Value) :
    (w.setCell ⟨g, j, none⟩ u).ownsRow base e sz (.slice (some ⟨g, 0, none⟩) n c) n (cs.set j u) := (h.stored j u).1
theorem own_set_other {w : World} {base sz n g j : Nat} {e : TypeId} {v : Value} {cs : List Value} (h : w.ownsRow base e sz v n cs) (hne : v.ownBlock ≠ some g) (u : Value) : (w.setCell ⟨g, j, none⟩ u).ownsRow base e sz v n cs := by
  refine ⟨h.1, ?_⟩
  rcases h.2 with hn | ⟨g', cap, cur, rfl, hbg, hg, rest⟩
  · exact .inl hn
  · refine .inr ⟨g', cap, cur, rfl, hbg, ?_, rest⟩
    rw [Below.heap_setCell _ _ _ _ (by intro e; apply hne; simp [Value.ownBlock, e])]
    exact hg
theorem own_form {w : World} {base sz n c : Nat} {e : TypeId} {a : Option Addr} {cs : List Value} (h : w.ownsRow base e sz (.slice a n c) n cs) (hn : 0 < n) : ∃ g, a = some ⟨g, 0, none⟩ ∧ base ≤ g ∧ g < w.heap.size := by
  have hlt := h.lt
  rcases h.2 with ⟨h1, h2⟩ | ⟨g, cap, cur, h1, h2, h3, _⟩
  · omega
  · cases h1
    exact ⟨g, rfl, (hlt g rfl).1, (hlt g rfl).2⟩

theorem set_step (k : Nat) (u : Value) (bs : List Value) (hk : k < bs.length) : (List.replicate k u ++ bs.drop k).set k u = List.replicate (k + 1) u ++ bs.drop (k + 1) := by
  rw [List.set_append_right _ _ (by simp)]
  simp only [List.length_replicate, Nat.sub_self]
  rw [List.drop_eq_getElem_cons hk, List.set_cons_zero, List.replicate_succ', List.append_assoc]
  rfl

/-- two values do not own one block -/
def Ap (v u : Value) : Prop := ∀ g, v.ownBlock = some g → u.ownBlock ≠ some g
theorem Ap.symm {v u : Value} (h : Ap v u) : Ap u v := fun g h1 h2 => h g h2 h1
theorem Ap.ne {v u : Value} (h : Ap v u) : u.ownBlock = none ∨ u.ownBlock ≠ v.ownBlock := by
  cases hu : u.ownBlock with
  | none => exact .inl rfl
  | some g => exact .inr fun e => h g e.symm hu
theorem Ap.app {base size n m : Nat} {e : TypeId} {w w' : World} {v v' u : Value} {xs news : List Value} (h : Ap v u) (ha : Appended base e size w w' v v' n m xs news) (hu : ∀ g, u.ownBlock = some g → g < w.heap.size) : Ap v' u := by
  intro g hg hug
  rcases ha.at_ with h1 | ⟨g', h1, h2⟩
  · exact h g (h1 ▸ hg) hug
  · rw [hg] at h1; cases h1; have := hu g hug; omega
theorem own_lt {w : World} {base sz n : Nat} {e : TypeId} {v : Value} {cs : List Value} (h : w.ownsRow base e sz v n cs) : ∀ g, v.ownBlock = some g → g < w.heap.size := fun g hg => (h.lt g hg).2
theorem own_off {w : World} {base sz n m c b o : Nat} {e : TypeId} {a : Option Addr} {cs : List Value} (h : w.ownsRow base e sz (.slice a m c) n cs) (ha : a = some ⟨b, o, none⟩) : o = 0 ∧ (Value.slice a m c).ownBlock = some b := by
  subst ha
  rcases h.2 with ⟨h1, _⟩ | ⟨g, _, _, h1, _⟩
  · cases h1
  · cases h1; exact ⟨rfl, rfl⟩
/-- what an owned row reads as stays while another row, or the same behind it, is appended to -/
theorem Appended.rd_own {base base' size n m sz k c : Nat} {e e' : TypeId} {w w0 w' : World} {v v' : Value} {a : Option Addr} {xs news cs cs' : List Value} (h : Appended base e size w w' v v' n m xs news)
    (ho : w0.ownsRow base' e' sz (.slice a k c) k cs') (hr : Rd w a k sz cs) (hn : Ap v (.slice a k c) ∨ k * sz ≤ n * size) : Rd w' a k sz cs := by
  refine h.rd hr fun b o hab hvb => ?_
  obtain ⟨rfl, h2⟩ := own_off ho hab
  rcases hn with hn | hn
  · exact absurd h2 (hn b hvb)
  · omega

theorem own_empty {w : World} {e : TypeId} {sz : Nat} (base g : Nat) (hg : g = w.heap.size) (hb : base ≤ w.heap.size) : (w.alloc (.cells #[] e)).ownsRow base e sz (.slice (some ⟨g, 0, none⟩) 0 0) 0 [] := by
  subst hg
  exact World.ownsRow_made w #[] 0 hb (by decide) (by simp)

theorem wrap64_in (n : Int) (h : -9223372036854775808 ≤ n ∧ n ≤ 9223372036854775807) : wrap64 n = n := by unfold wrap64; omega
theorem Rd.take {w : World} {a : Option Addr} {n k sz : Nat} {cs : List Value} (h : Rd w a n sz cs) (hk : k ≤ n) : Rd w a k sz (cs.take (k * sz)) := by
  have hm : k * sz ≤ n * sz := Nat.mul_le_mul_right _ hk
  refine ⟨by rw [List.length_take, h.1]; omega, ?_⟩
  rcases h.2 with h0 | ⟨b, o, ha, hlt, hc⟩
  · exact .inl (by omega)
  · refine .inr ⟨b, o, ha, hlt, fun j u hu => hc j u ?_⟩
    rw [List.getElem?_take] at hu
    split at hu
    · exact hu
    · cases hu
theorem own_lit {w : World} {base g n sz : Nat} {e : TypeId} {cs : Array Value} (hg : g = w.heap.size) (hb : base ≤ w.heap.size) (hn : n ≤ maxLen) (hs : cs.size = n * sz) : (w.alloc (.cells cs e)).ownsRow base e sz (.slice (some ⟨g, 0, none⟩) n n) n cs.toList := by
  subst hg
  exact ⟨by simpa using hs, .inr ⟨w.heap.size, n, cs, rfl, hb, heap_alloc_new w _, Nat.le_refl _, hn, hs, by rw [List.take_of_length_le (by simp; omega)]⟩⟩


/-- the law's call returns true, and what was there is as it was -/
def TrueBelow (W : World) (e : Ending) (w' : World) : Prop := e = .returned (.bool true) ∧ Below W.heap.size W w'
end Go.Proofs.YtocfkmdoalhjmaaDoor
