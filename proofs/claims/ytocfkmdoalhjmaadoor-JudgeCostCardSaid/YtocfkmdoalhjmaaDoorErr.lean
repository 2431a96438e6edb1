/- The contracts of package fault: root, New. -/
import Derived.Test.YtocfkmdoalhjmaaDoorProg
import Derived.WalkKit
import Derived.Deep.Draws
import Derived.Lib.Hide
namespace Go.Proofs.YtocfkmdoalhjmaaDoor
open Go.RowKit

/-- the number of the variable that holds the error of a number -/
def rix (n : Int) : Nat := if n = 1 then 0 else if n = 2 then 1 else if n = 3 then 2 else if n = 4 then 3 else if n = 5 then 4 else if n = 6 then 5 else if n = 7 then 6 else if n = 8 then 7 else if n = 9 then 8 else if n = 10 then 9 else if n = 11 then 10 else 11

def gix (k : Nat) : Nat := [0, 1, 2, 3, 4, 5, 6, 7, 8, 9, 10, 11].getD k 0

/-- the package-level errors lie where R says -/
def Glob (w : World) (R : Nat → Addr) : Prop := ∀ k, k < 12 → w.cell? ⟨gix k, 0, none⟩ = some (.iface 199 (.pointer (some (R k))))


set_option maxHeartbeats 1000000 in
theorem root_any (n : Int) (w : World) (R : Nat → Addr) (hG : Glob w R) :
    Calls Tryd.prog 116 #[.int .i64 n] w fun e w' => e = .returned (.iface 199 (.pointer (some (R (rix n))))) ∧ w = w' := by
  have h0 := hG 0 (by omega)
  have h1 := hG 1 (by omega)
  have h2 := hG 2 (by omega)
  have h3 := hG 3 (by omega)
  have h4 := hG 4 (by omega)
  have h5 := hG 5 (by omega)
  have h6 := hG 6 (by omega)
  have h7 := hG 7 (by omega)
  have h8 := hG 8 (by omega)
  have h9 := hG 9 (by omega)
  have h10 := hG 10 (by omega)
  have h11 := hG 11 (by omega)
  simp only [gix, List.getD_cons_zero, List.getD_cons_succ] at h0 h1 h2 h3 h4 h5 h6 h7 h8 h9 h10 h11
  clear hG
  go_enter Tryd.func116, Tryd.ntmps116
  go_wp2
  all_goals (go_ret; exact ⟨by simp_all [rix], rfl⟩)

/-- a fault at the address, over what it wraps -/
def faultObj (op : ByteArray) (at_ : Int) (x : Value) : Obj := .cells #[.string op, .int .i64 at_, x] 121

/-- v is the fault (op, at, number n), in a block of its own, from B on -/
def IsErr (B : Nat) (R : Nat → Addr) (w : World) (v : Value) (op : ByteArray) (at_ n : Int) : Prop :=
  ∃ g, v = .iface 117 (.pointer (some ⟨g, 0, none⟩)) ∧ B ≤ g ∧ w.heap[g]? = some (faultObj op at_ (.iface 199 (.pointer (some (R (rix n))))))

theorem isErr_new {B : Nat} {R : Nat → Addr} {w : World} {op : ByteArray} {at_ n : Int} (hB : B ≤ w.heap.size) :
    IsErr B R (w.alloc (faultObj op at_ (.iface 199 (.pointer (some (R (rix n))))))) (.iface 117 (.pointer (some ⟨w.heap.size, 0, none⟩))) op at_ n :=
  ⟨_, rfl, hB, heap_alloc_new w _⟩

theorem isErr_at {B g : Nat} {R : Nat → Addr} {w : World} {op : ByteArray} {at_ n : Int} (hg : g = w.heap.size) (hB : B ≤ w.heap.size) :
    IsErr B R (w.alloc (faultObj op at_ (.iface 199 (.pointer (some (R (rix n))))))) (.iface 117 (.pointer (some ⟨g, 0, none⟩))) op at_ n := by
  subst hg; exact isErr_new hB

theorem Glob.below {w w' : World} {R : Nat → Addr} {B : Nat} (h : Glob w R) (hb : Below B w w') (hB : w.heap.size ≤ B) : Glob w' R := by
  intro k hk
  have h0 := h k hk
  rw [hb.cell (Nat.lt_of_lt_of_le (World.block_lt_of_cell? _ _ h0) hB)]
  exact h0

theorem Glob.alloc {w : World} {R : Nat → Addr} (h : Glob w R) (o : Obj) : Glob (w.alloc o) R := h.below ((Below.refl _ _).alloc (Nat.le_refl _) o) (Nat.le_refl _)
theorem Glob.up {w w' : World} {R : Nat → Addr} (h : Glob w R) (hb : Below w.heap.size w w') : Glob w' R := h.below hb (Nat.le_refl _)
theorem Glob.alloc' {w w' : World} {R : Nat → Addr} {o : Obj} (h : Glob w R) (hb : Below (w.alloc o).heap.size (w.alloc o) w') : Glob w' R := (h.alloc o).below hb (Nat.le_refl _)
theorem Glob.drewN {w : World} {R : Nat → Addr} {n : Nat} (h : Glob w R) : Glob (w.drewN n) R := h

theorem new_err (op : ByteArray) (at_ n : Int) (w : World) (R : Nat → Addr) (hG : Glob w R) (hn : (n == 0) = false) :
    Calls Tryd.prog 97 #[.string op, .int .i64 at_, .int .i64 n] w fun e w' =>
      e = .returned (.iface 117 (.pointer (some ⟨w.heap.size, 0, none⟩))) ∧ w' = w.alloc (faultObj op at_ (.iface 199 (.pointer (some (R (rix n)))))) := by
  go_enter Tryd.func97, Tryd.ntmps97
  go_wp2_with (first | (go_at_call 116; refine (root_any _ _ R hG).mono ?_; rintro e w' ⟨rfl, rfl⟩))
  go_ret
  exact ⟨rfl, rfl⟩

/-! the packages' names -/
def opCert : ByteArray := ⟨#[99, 101, 114, 116]⟩
def opWord : ByteArray := ⟨#[119, 111, 114, 100]⟩
def opNat : ByteArray := ⟨#[110, 97, 116]⟩
def opRule : ByteArray := ⟨#[114, 117, 108, 101]⟩
def opRing : ByteArray := ⟨#[114, 105, 110, 103]⟩
def opRow : ByteArray := ⟨#[114, 111, 119]⟩
def opMat : ByteArray := ⟨#[109, 97, 116]⟩
def opCount : ByteArray := ⟨#[99, 111, 117, 110, 116]⟩
def opPatch : ByteArray := ⟨#[112, 97, 116, 99, 104]⟩
def opPlane : ByteArray := ⟨#[112, 108, 97, 110, 101]⟩
def opJudge : ByteArray := ⟨#[106, 117, 100, 103, 101]⟩
def opEve : ByteArray := ⟨#[101, 118, 101]⟩
def opOverlap : ByteArray := ⟨#[111, 118, 101, 114, 108, 97, 112]⟩
def opBag : ByteArray := ⟨#[98, 97, 103]⟩
def opSubset : ByteArray := ⟨#[115, 117, 98, 115, 101, 116]⟩
def opImage : ByteArray := ⟨#[105, 109, 97, 103, 101]⟩
def opGraph : ByteArray := ⟨#[103, 114, 97, 112, 104]⟩
def opPairs : ByteArray := ⟨#[112, 97, 105, 114, 115]⟩
def opInject : ByteArray := ⟨#[105, 110, 106, 101, 99, 116]⟩
def opTwins : ByteArray := ⟨#[116, 119, 105, 110, 115]⟩
def opForms : ByteArray := ⟨#[102, 111, 114, 109, 115]⟩
theorem cert_wrong (at_ n : Int) (w : World) (R : Nat → Addr) (hG : Glob w R) (hn : (n == 0) = false) : Calls Tryd.prog 89 #[.int .i64 at_, .int .i64 n] w fun e w' => e = .returned (.iface 117 (.pointer (some ⟨w.heap.size, 0, none⟩))) ∧ w' = w.alloc (faultObj opCert at_ (.iface 199 (.pointer (some (R (rix n)))))) := by
  go_enter Tryd.func89, Tryd.ntmps89
  go_wp2_with (first | (go_at_call 97; refine (new_err _ _ _ _ R hG hn).mono ?_; rintro e w' ⟨rfl, rfl⟩))
  go_ret
  exact ⟨rfl, rfl⟩
theorem patch_wrong (at_ n : Int) (w : World) (R : Nat → Addr) (hG : Glob w R) (hn : (n == 0) = false) : Calls Tryd.prog 60 #[.int .i64 at_, .int .i64 n] w fun e w' => e = .returned (.iface 117 (.pointer (some ⟨w.heap.size, 0, none⟩))) ∧ w' = w.alloc (faultObj opPatch at_ (.iface 199 (.pointer (some (R (rix n)))))) := by
  go_enter Tryd.func60, Tryd.ntmps60
  go_wp2_with (first | (go_at_call 97; refine (new_err _ _ _ _ R hG hn).mono ?_; rintro e w' ⟨rfl, rfl⟩))
  go_ret
  exact ⟨rfl, rfl⟩
theorem plane_wrong (at_ n : Int) (w : World) (R : Nat → Addr) (hG : Glob w R) (hn : (n == 0) = false) : Calls Tryd.prog 52 #[.int .i64 at_, .int .i64 n] w fun e w' => e = .returned (.iface 117 (.pointer (some ⟨w.heap.size, 0, none⟩))) ∧ w' = w.alloc (faultObj opPlane at_ (.iface 199 (.pointer (some (R (rix n)))))) := by
  go_enter Tryd.func52, Tryd.ntmps52
  go_wp2_with (first | (go_at_call 97; refine (new_err _ _ _ _ R hG hn).mono ?_; rintro e w' ⟨rfl, rfl⟩))
  go_ret
  exact ⟨rfl, rfl⟩
theorem judge_wrong (at_ n : Int) (w : World) (R : Nat → Addr) (hG : Glob w R) (hn : (n == 0) = false) : Calls Tryd.prog 84 #[.int .i64 at_, .int .i64 n] w fun e w' => e = .returned (.iface 117 (.pointer (some ⟨w.heap.size, 0, none⟩))) ∧ w' = w.alloc (faultObj opJudge at_ (.iface 199 (.pointer (some (R (rix n)))))) := by
  go_enter Tryd.func84, Tryd.ntmps84
  go_wp2_with (first | (go_at_call 97; refine (new_err _ _ _ _ R hG hn).mono ?_; rintro e w' ⟨rfl, rfl⟩))
  go_ret
  exact ⟨rfl, rfl⟩
end Go.Proofs.YtocfkmdoalhjmaaDoor
