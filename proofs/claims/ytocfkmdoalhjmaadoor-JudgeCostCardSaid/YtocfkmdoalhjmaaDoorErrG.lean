/- Errors told by several packages: an error, the expected error, edenraw.Is of both. -/
import Derived.Test.YtocfkmdoalhjmaaDoorRawE
namespace Go.Proofs.YtocfkmdoalhjmaaDoor
open Go.RowKit
set_option linter.unusedVariables false
set_option maxRecDepth 100000

/-- what an error is: none, or packages and places from the outermost on, and a number -/
abbrev ErrD := Option (List (ByteArray × Int) × Int)
def EC (R : Nat → Addr) (w : World) (v : Value) : ErrD → Prop
  | none => v = .nilIface
  | some (es, n) => Chain w v es (R (rix n))
def WC (w : World) (x : Value) : ErrD → Prop
  | none => ErrVal w x 0 []
  | some (es, n) => ErrVal w x n es ∧ (n == 0) = false
theorem EC.up {R : Nat → Addr} {w w' : World} {v : Value} {f : ErrD} (h : EC R w v f) (hb : Below w.heap.size w w') : EC R w' v f := by
  cases f with
  | none => exact h
  | some x => exact Chain.up hb h
theorem WC.up {w w' : World} {x : Value} {f : ErrD} (h : WC w x f) (hb : Below w.heap.size w w') : WC w' x f := by
  cases f with
  | none => exact ErrVal.up h hb
  | some y => exact ⟨h.1.up hb, h.2⟩
theorem wc_none (w : World) : WC w (.agg #[.int .i64 0, .slice none 0 0, .slice none 0 0]) none := errVal_none w
theorem ec_err {B : Nat} {R : Nat → Addr} {w : World} {v : Value} {op : ByteArray} {at_ n : Int} (hS : Sent w R) (h : IsErr B R w v op at_ n) : EC R w v (some ([(op, at_)], n)) := isErr_chain (w0 := w) h hS
theorem wc_want {w : World} {x : Value} {op : ByteArray} {at_ n : Int} (h : WantIs w x (some (op, at_, n))) : WC w x (some ([(op, at_)], n)) := h
theorem rawIs_ch (v x : Value) (f : ErrD) (w : World) (R : Nat → Addr) (hE : Env w R) (he : EC R w v f) (hf : WC w x f) :
    Calls Tryd.prog 28 #[v, x] w fun e w' => e = .returned (.bool true) ∧ Below w.heap.size w w' := by
  cases f with
  | none =>
    obtain ⟨ao, aa, co, ca, rfl, _⟩ := hf
    cases he
    exact rawIs_none_nil _ _ w
  | some z =>
    obtain ⟨⟨ao, aa, co, ca, rfl, hw⟩, hn⟩ := hf
    have h := rawIs_some v _ _ _ z.2 ao aa _ _ co ca w R hE.sent hE.et he hw hn
    have e2 : decide (R (rix z.2) = R (rix z.2) ∧ z.1 = z.1) = true := decide_eq_true ⟨rfl, rfl⟩
    rw [e2] at h
    exact h

/-- an error, told further: a new fault over it -/
theorem ec_under {R : Nat → Addr} {w : World} {v : Value} {es : List (ByteArray × Int)} {n : Int} (op : ByteArray) (at_ : Int) (h : EC R w v (some (es, n))) :
    EC R (w.alloc (faultObj op at_ v)) (.iface 117 (.pointer (some ⟨w.heap.size, 0, none⟩))) (some ((op, at_) :: es, n)) :=
  ⟨_, v, rfl, heap_alloc_new w _, Chain.up (balloc (bnil w) _) h⟩

/-- a slice lies from block B on -/
def Fr (B : Nat) (a : Option Addr) : Prop := ∀ b o, a = some ⟨b, o, none⟩ → B ≤ b
theorem fr_none {B : Nat} : Fr B none := fun b o h => by cases h
theorem Fr.base {B B' : Nat} {a : Option Addr} (h : Fr B a) (hb : B' ≤ B) : Fr B' a := fun b o e => Nat.le_trans hb (h b o e)
theorem fr_some {B b : Nat} (h : B ≤ b) : Fr B (some ⟨b, 0, none⟩) := fun b' o e => by cases e; exact h
theorem Rd.oth {w w6 : World} {g n sz : Nat} {a : Option Addr} {cs : List Value} (h : Rd w a n sz cs) (hk : ∀ k, k ≠ g → w6.heap[k]? = w.heap[k]?) (hs : w6.heap.size = w.heap.size) (hn : ∀ b o, a = some ⟨b, o, none⟩ → b ≠ g) : Rd w6 a n sz cs := by
  refine ⟨h.1, ?_⟩
  rcases h.2 with h0 | ⟨b, o, rfl, hlt, hc⟩
  · exact .inl h0
  · refine .inr ⟨b, o, rfl, by omega, fun j u hu => ?_⟩
    rw [World.cell?_of_block (hk b (hn b o rfl))]
    exact hc j u hu
theorem WC.other {w w6 : World} {g : Nat} {N : Int} {a1 a2 : Option Addr} {n1 c1 n2 c2 : Nat} {f : ErrD} (h : WC w (.agg #[.int .i64 N, .slice a1 n1 c1, .slice a2 n2 c2]) f) (hk : ∀ k, k ≠ g → w6.heap[k]? = w.heap[k]?) (hs : w6.heap.size = w.heap.size) (h1 : Fr (g + 1) a1) (h2 : Fr (g + 1) a2) :
    WC w6 (.agg #[.int .i64 N, .slice a1 n1 c1, .slice a2 n2 c2]) f := by
  have key : ∀ {n : Int} {es : List (ByteArray × Int)}, ErrVal w (.agg #[.int .i64 N, .slice a1 n1 c1, .slice a2 n2 c2]) n es → ErrVal w6 (.agg #[.int .i64 N, .slice a1 n1 c1, .slice a2 n2 c2]) n es := by
    rintro n es ⟨ao, aa, co, ca, e, hw⟩
    simp only [Value.agg.injEq, Array.mk.injEq, List.cons.injEq, Value.int.injEq, Value.slice.injEq] at e
    obtain ⟨⟨_, rfl⟩, ⟨rfl, rfl, rfl⟩, ⟨rfl, _, rfl⟩, _⟩ := e
    exact ⟨a1, a2, c1, c2, by simp_all, hw.n1, hw.n2, hw.ops.oth hk hs (fun b o e => by have := h1 b o e; omega), hw.ats.oth hk hs (fun b o e => by have := h2 b o e; omega), hw.len⟩
  cases f with
  | none => exact key h
  | some y => exact ⟨key h.1, h.2⟩

/-- an error as the document has it, in new memory -/
def RefRet (W : World) (x : ErrD) (e : Ending) (w' : World) : Prop := ∃ N a1 n1 c1 a2 n2 c2, e = .returned (.agg #[.int .i64 N, .slice a1 n1 c1, .slice a2 n2 c2]) ∧ WC w' (.agg #[.int .i64 N, .slice a1 n1 c1, .slice a2 n2 c2]) x ∧ Fr W.heap.size a1 ∧ Fr W.heap.size a2 ∧ (N != 0) = x.isSome ∧ (x = none → N = 0 ∧ a1 = none ∧ n1 = 0 ∧ c1 = 0 ∧ a2 = none ∧ n2 = 0 ∧ c2 = 0) ∧ Below W.heap.size W w'
end Go.Proofs.YtocfkmdoalhjmaaDoor
