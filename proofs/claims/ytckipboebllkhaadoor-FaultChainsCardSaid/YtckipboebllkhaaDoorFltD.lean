/- fault.Deep and Trail over any tree of errors. -/
import Derived.Test.YtckipboebllkhaaDoorFltC
import Derived.BigQuiet
import Derived.Shelf.Abstract
import Derived.BigRegion
import Derived.IntWalk
import Derived.Deep.RegionHeld3
import Derived.Deep.QuietTactic
namespace Go.Proofs.YtckipboebllkhaaDoor
open Go.RowKit Go.Extern.Stop Go.Stop Go.Extern
set_option linter.unusedVariables false
set_option maxRecDepth 100000

theorem al000 {w : World} {a : Addr} {v : Value} {o : Obj} (h : w.cell? a = some v) : (w.alloc o).cell? a = some v := cpF (balloc (bnil w) o) h
theorem cell_set_far {w : World} {g B o : Nat} {v u : Value} (h : w.cell? ⟨B, o, none⟩ = some v) (hne : B ≠ g) : (w.setCell ⟨g, 0, none⟩ u).cell? ⟨B, o, none⟩ = some v := by rw [World.cell?_setCell_far _ _ _ _ (fun e => hne e.symm)]; exact h

/-! ### Deep -/
def DeepS (B : Nat) (l : List (ByteArray × Int)) (w : World) : Prop := w.cell? ⟨B, 0, none⟩ = some (.int .i64 (l.length : Nat)) ∧ w.frozen? ⟨B, 0, none⟩ = false
theorem deep_each (w0 w : World) (B gf g : Nat) (l : List (ByteArray × Int)) (op : ByteArray) (at_ : Int) (hs : DeepS B l w) (hl : l.length + 1 ≤ 1000000) (hB : w0.heap.size ≤ B) (hne : B ≠ gf) (hb : Below w0.heap.size w0 w) :
    Calls Tryd.prog 45 #[.pointer (some ⟨g, 0, none⟩), .pointer (some ⟨B, 0, none⟩)] w (EachPost (DeepS B) w0 w gf (l ++ [(op, at_)])) := by
  obtain ⟨c0, f0⟩ := hs
  have k0 : IntKind.i64.wrap ((l.length : Int) + 1) = (((l ++ [(op, at_)]).length : Nat) : Int) := by rw [IntWalk.i64_in _ (by omega)]; simp
  unfold EachPost DeepS
  generalize hm : l.length = m at *
  generalize ((l ++ [(op, at_)]).length : Int) = m1 at *
  go_enter Tryd.func45, Tryd.ntmps45
  go_wp2
  go_end0
  exact ⟨by first | rfl | skip, ⟨World.cell?_setCell_same' _ _ _ (by rw [c0]; rfl), by rw [World.frozen?_setCell]; exact f0⟩, hb.setCell (p := ⟨B, 0, none⟩) hB _, Below.heap_setCell _ _ _ _ (fun e => hne e.symm)⟩
set_option maxHeartbeats 4000000 in
theorem deep_all (t : ErrT) (v : Value) (w : World) (hv : TR w t v) (hET : ErrType w) (hl : (faultsF t).length ≤ 1000000) :
    Calls Tryd.prog 21 #[v] w fun e w' => e = .returned (.int .i64 ((faultsF t).length : Nat)) ∧ Below w.heap.size w w' := by
  have eg : ∀ args w, (callFunc 45 args).run Tryd.prog w = .ok (.enter 45 args) w := enters_of Tryd.func45 (by kernel_rfl) rfl
  have EG := Lib.hid eg; clear eg
  have hmf : ∀ (fn : Fn) (first cap : Array Value) (w : World), (Instr.makeFunc fn first cap).run Tryd.prog w = .ok (.func fn first cap) w := fun _ _ _ _ => rfl
  obtain ⟨B, hB⟩ : ∃ B, w.heap.size = B := ⟨_, rfl⟩
  obtain ⟨W1, hW1⟩ : ∃ W1, w.alloc (.cells #[.int .i64 0] 3) = W1 := ⟨_, rfl⟩
  have h1 : DeepS B [] W1 := by rw [← hW1, ← hB]; exact ⟨by simp, by simp⟩
  have h2 : W1.heap.size = B + 1 := by rw [← hW1, ← hB]; simp
  have h3 : Below w.heap.size w W1 := by rw [← hW1]; exact balloc (bnil w) _
  have hrun := faults_any 45 #[.pointer (some ⟨B, 0, none⟩)] (DeepS B) t v w W1 hv h3 hET EG.out h1
    (fun l w1 w2 hs hb => ⟨cpF hb hs.1, by rw [hb.frozen (World.block_lt_of_cell? _ _ hs.1)]; exact hs.2⟩)
    (fun l w1 u hs => ⟨cell_set_far hs.1 (by omega), by rw [World.frozen?_setCell]; exact hs.2⟩)
    (fun l op at_ x g w1 hs hln hlt hb hg => deep_each w w1 B W1.heap.size g l op at_ hs (by omega) (by omega) (by omega) hb)
  have HR := Lib.hid hrun
  have HW := Lib.hid hW1
  clear hrun h1 h2 hW1 h3 hv hET hl
  go_enter Tryd.func21, Tryd.ntmps21
  go_wp2_with fail
  rw [HW.out]
  try simp only [hB]
  refine HR.out.mono ?_; rintro e w2 ⟨rfl, ⟨c2, _⟩, hb2⟩
  go_wp2
  go_ret
  exact ⟨rfl, hb2⟩

/-! ### Trail -/
def TrailS (B : Nat) (l : List (ByteArray × Int)) (w : World) : Prop := ∃ a n c, w.cell? ⟨B, 0, none⟩ = some (.slice a n c) ∧ w.frozen? ⟨B, 0, none⟩ = false ∧ w.ownsRow (B + 2) 9 1 (.slice a n c) n (l.map fun x => Value.string x.1)
theorem trail_each (w0 w : World) (B g : Nat) (l : List (ByteArray × Int)) (op : ByteArray) (at_ : Int) (x : Value) (hs : TrailS B l w) (hsz : B + 2 ≤ w.heap.size) (hl : l.length + 1 ≤ 1000000) (hB : w0.heap.size ≤ B) (hb : Below w0.heap.size w0 w) (hg : w0.heap[g]? = some (faultObj op at_ x)) :
    Calls Tryd.prog 40 #[.pointer (some ⟨g, 0, none⟩), .pointer (some ⟨B, 0, none⟩)] w (EachPost (TrailS B) w0 w (B + 1) (l ++ [(op, at_)])) := by
  obtain ⟨a, n, c, c0, f0, ho⟩ := hs
  have hn : n = l.length := by have := ho.1; simpa using this.symm
  have x0 := cpF hb (cell_fault hg).1
  have y0 := al000 (o := .cells #[.string op] 9) c0
  have z0 := al000 (o := .cells #[.string op] 9) x0
  have HO := Lib.hid ho
  have HB := Lib.hid hb
  have HN := Lib.hid hn
  have hn2 : n ≤ 1000000 := by omega
  clear ho hb hg hn
  go_enter Tryd.func40, Tryd.ntmps40
  go_wp2_with fail
  go_region_law (first
    | (refine step_app_lit (by rfl) _ _ _ (by rfl) (B + 2) et_str _ n _ HO.out (by rfl) 1 _ _ (by rfl) (by simp) (by rfl) (by rfl) (by unfold maxLen; omega) (by omega) hsz ?_; intro a5 c5 w5 ho5 hg5 hb5 hs5; have y5 : w5.cell? ⟨B, 0, none⟩ = some (.slice a n c) := (hb5.cell (p := ⟨B, 0, none⟩) (Nat.lt_succ_of_lt (Nat.lt_succ_self B))).trans c0; have q5 := (hb5.frozen (p := ⟨B, 0, none⟩) (Nat.lt_succ_of_lt (Nat.lt_succ_self B))).trans f0))
  all_goals
    go_end0
    refine ⟨by first | rfl | skip, ⟨a5, n + 1, c5, World.cell?_setCell_same' _ _ _ (by rw [y5]; rfl), by rw [World.frozen?_setCell]; exact q5, ?_⟩, (HB.out.trans (hb5.mono (by omega))).setCell (p := ⟨B, 0, none⟩) hB _, by rw [Below.heap_setCell _ _ _ _ (by show B + 1 ≠ B; omega)]; exact hb5.block _ (by omega)⟩
    have h := own_set_other (g := B) (j := 0) ho5 (fun e => by have := (ho5.lt _ e).1; omega) (.slice a5 (n + 1) c5)
    simpa using h
/-- the packages of all Faults, in new memory -/
theorem trail_all (t : ErrT) (v : Value) (w : World) (hv : TR w t v) (hET : ErrType w) (hl : (faultsF t).length ≤ 1000000) :
    Calls Tryd.prog 14 #[v] w fun e w' => ∃ a n c, e = .returned (.slice a n c) ∧ w'.ownsRow w.heap.size 9 1 (.slice a n c) n ((faultsF t).map fun x => Value.string x.1) ∧ Below w.heap.size w w' := by
  have eg : ∀ args w, (callFunc 40 args).run Tryd.prog w = .ok (.enter 40 args) w := enters_of Tryd.func40 (by kernel_rfl) rfl
  have EG := Lib.hid eg; clear eg
  have hmf : ∀ (fn : Fn) (first cap : Array Value) (w : World), (Instr.makeFunc fn first cap).run Tryd.prog w = .ok (.func fn first cap) w := fun _ _ _ _ => rfl
  obtain ⟨B, hB⟩ : ∃ B, w.heap.size = B := ⟨_, rfl⟩
  obtain ⟨W1, hW1⟩ : ∃ W1, w.alloc (.cells #[.slice none 0 0] 35) = W1 := ⟨_, rfl⟩
  have h2 : W1.heap.size = B + 1 := by rw [← hW1, ← hB]; simp
  have h3 : Below w.heap.size w W1 := by rw [← hW1]; exact balloc (bnil w) _
  have hc1 : W1.cell? ⟨B, 0, none⟩ = some (.slice none 0 0) := by rw [← hW1, ← hB]; simp
  have hf1 : W1.frozen? ⟨B, 0, none⟩ = false := by rw [← hW1, ← hB]; simp
  have HW := Lib.hid hW1
  clear hW1
  have hrun : Calls Tryd.prog 39 #[v, .func (.func 40) #[] #[.pointer (some ⟨B, 0, none⟩)]] W1 fun e w' => e = .returned (.tuple #[]) ∧ TrailS B (faultsF t) w' ∧ Below w.heap.size w w' :=
    faults_any 40 #[.pointer (some ⟨B, 0, none⟩)] (TrailS B) t v w W1 hv h3 hET EG.out ⟨none, 0, 0, hc1, hf1, World.ownsRow_nil _ _ _ _⟩
      (fun l w1 w2 hs hb => by
        obtain ⟨a, n, c, c0, f0, ho⟩ := hs
        exact ⟨a, n, c, cpF hb c0, by rw [hb.frozen (World.block_lt_of_cell? _ _ c0)]; exact f0, owns_up ho hb⟩)
      (fun l w1 u hs => by
        obtain ⟨a, n, c, c0, f0, ho⟩ := hs
        exact ⟨a, n, c, cell_set_far c0 (by omega), by rw [World.frozen?_setCell]; exact f0, own_set_other ho (fun e => by have := (ho.lt _ e).1; omega) u⟩)
      (fun l op at_ x g w1 hs hln hlt hb hg => by
        have h := trail_each w w1 B g l op at_ x hs (by omega) (by omega) (by omega) hb hg
        rw [h2]
        exact h)
  have HR := Lib.hid hrun
  clear hrun h2 h3 hc1 hf1 hv hET hl
  go_enter Tryd.func14, Tryd.ntmps14
  go_wp2_with fail
  rw [HW.out]
  try simp only [hB]
  refine HR.out.mono ?_; rintro e w2 ⟨rfl, ⟨a, n, c, c2, _, ho⟩, hb2⟩
  have HO := Lib.hid ho
  clear ho
  go_wp2
  go_ret
  exact ⟨a, n, c, rfl, owns_base HO.out (by omega), hb2⟩
end Go.Proofs.YtckipboebllkhaaDoor
