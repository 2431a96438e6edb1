/- The contracts of package fault: root, New. -/
import Derived.Test.YtllngchcomiglaaDoorProg
import Derived.WalkKit
import Derived.Deep.Draws
import Derived.Lib.Hide
namespace Go.Proofs.YtllngchcomiglaaDoor
open Go.RowKit

/-- the number of the variable that holds the error of a number -/
def rix (n : Int) : Nat := if n = 1 then 0 else if n = 2 then 1 else if n = 3 then 2 else if n = 4 then 3 else if n = 5 then 4 else if n = 6 then 5 else if n = 7 then 6 else if n = 8 then 7 else if n = 9 then 8 else if n = 10 then 9 else if n = 11 then 10 else 11

def gix (k : Nat) : Nat := [0, 1, 2, 3, 4, 5, 6, 7, 8, 9, 10, 11].getD k 0

/-- the package-level errors lie where R says -/
def Glob (w : World) (R : Nat → Addr) : Prop := ∀ k, k < 12 → w.cell? ⟨gix k, 0, none⟩ = some (.iface 94 (.pointer (some (R k))))


set_option maxHeartbeats 1000000 in
theorem root_any (n : Int) (w : World) (R : Nat → Addr) (hG : Glob w R) :
    Calls Tryd.prog 32 #[.int .i64 n] w fun e w' => e = .returned (.iface 94 (.pointer (some (R (rix n))))) ∧ w = w' := by
  have h0 := hG 0 (by omega)
  have h1 := hG 1 (by omega)
  have h2 := hG 2 (by omega)
  have h3 := hG 3 (by omega)
  have h4 := hG 4 (by omega)
  have h5 := hG 5 (by omega)
  have h6 := hG 6 (by omega)
  have h7 := hG 7 (by omega)
  have h8 := hG 8 (by omega)
  have h9 := hG 9 (by omega)
  have h10 := hG 10 (by omega)
  have h11 := hG 11 (by omega)
  simp only [gix, List.getD_cons_zero, List.getD_cons_succ] at h0 h1 h2 h3 h4 h5 h6 h7 h8 h9 h10 h11
  clear hG
  go_enter Tryd.func32, Tryd.ntmps32
  go_wp2
  all_goals (go_ret; exact ⟨by simp_all [rix], rfl⟩)

/-- a fault at the address, over what it wraps -/
def faultObj (op : ByteArray) (at_ : Int) (x : Value) : Obj := .cells #[.string op, .int .i64 at_, x] 61

/-- v is the fault (op, at, number n), in a block of its own, from B on -/
def IsErr (B : Nat) (R : Nat → Addr) (w : World) (v : Value) (op : ByteArray) (at_ n : Int) : Prop :=
  ∃ g, v = .iface 57 (.pointer (some ⟨g, 0, none⟩)) ∧ B ≤ g ∧ w.heap[g]? = some (faultObj op at_ (.iface 94 (.pointer (some (R (rix n))))))

theorem isErr_new {B : Nat} {R : Nat → Addr} {w : World} {op : ByteArray} {at_ n : Int} (hB : B ≤ w.heap.size) :
    IsErr B R (w.alloc (faultObj op at_ (.iface 94 (.pointer (some (R (rix n))))))) (.iface 57 (.pointer (some ⟨w.heap.size, 0, none⟩))) op at_ n :=
  ⟨_, rfl, hB, heap_alloc_new w _⟩

theorem Glob.below {w w' : World} {R : Nat → Addr} {B : Nat} (h : Glob w R) (hb : Below B w w') (hB : w.heap.size ≤ B) : Glob w' R := by
  intro k hk
  have h0 := h k hk
  rw [hb.cell (Nat.lt_of_lt_of_le (World.block_lt_of_cell? _ _ h0) hB)]
  exact h0

theorem Glob.alloc {w : World} {R : Nat → Addr} (h : Glob w R) (o : Obj) : Glob (w.alloc o) R := h.below ((Below.refl _ _).alloc (Nat.le_refl _) o) (Nat.le_refl _)
theorem Glob.up {w w' : World} {R : Nat → Addr} (h : Glob w R) (hb : Below w.heap.size w w') : Glob w' R := h.below hb (Nat.le_refl _)
theorem Glob.alloc' {w w' : World} {R : Nat → Addr} {o : Obj} (h : Glob w R) (hb : Below (w.alloc o).heap.size (w.alloc o) w') : Glob w' R := (h.alloc o).below hb (Nat.le_refl _)
theorem Glob.drewN {w : World} {R : Nat → Addr} {n : Nat} (h : Glob w R) : Glob (w.drewN n) R := h

def opCert : ByteArray := ⟨#[99, 101, 114, 116]⟩

theorem new_err (op : ByteArray) (at_ n : Int) (w : World) (R : Nat → Addr) (hG : Glob w R) (hn : (n == 0) = false) :
    Calls Tryd.prog 25 #[.string op, .int .i64 at_, .int .i64 n] w fun e w' =>
      e = .returned (.iface 57 (.pointer (some ⟨w.heap.size, 0, none⟩))) ∧ w' = w.alloc (faultObj op at_ (.iface 94 (.pointer (some (R (rix n)))))) := by
  go_enter Tryd.func25, Tryd.ntmps25
  go_wp2_with (first | (go_at_call 32; refine (root_any _ _ R hG).mono ?_; rintro e w' ⟨rfl, rfl⟩))
  go_ret
  exact ⟨rfl, rfl⟩

theorem cert_wrong (at_ n : Int) (w : World) (R : Nat → Addr) (hG : Glob w R) (hn : (n == 0) = false) : Calls Tryd.prog 18 #[.int .i64 at_, .int .i64 n] w fun e w' => e = .returned (.iface 57 (.pointer (some ⟨w.heap.size, 0, none⟩))) ∧ w' = w.alloc (faultObj opCert at_ (.iface 94 (.pointer (some (R (rix n)))))) := by
  go_enter Tryd.func18, Tryd.ntmps18
  go_wp2_with (first | (go_at_call 25; refine (new_err _ _ _ _ R hG hn).mono ?_; rintro e w' ⟨rfl, rfl⟩))
  go_ret
  exact ⟨rfl, rfl⟩
end Go.Proofs.YtllngchcomiglaaDoor
