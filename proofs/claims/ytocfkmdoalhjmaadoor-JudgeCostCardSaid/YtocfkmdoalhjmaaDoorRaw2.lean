/- edenraw.New; what edenraw.Is answers of an error and an expected error, by their places and numbers. -/
import Derived.Test.YtocfkmdoalhjmaaDoorRawIs
import Derived.Test.YtocfkmdoalhjmaaDoorArm
namespace Go.Proofs.YtocfkmdoalhjmaaDoor
open Go.RowKit
set_option linter.unusedVariables false
set_option maxRecDepth 100000

/-- v is an expected error: its number, packages and places -/
def ErrVal (w : World) (v : Value) (N : Int) (es : List (ByteArray × Int)) : Prop :=
  ∃ ao aa co ca, v = .agg #[.int .i64 N, .slice ao es.length co, .slice aa es.length ca] ∧ WantRd w es ao aa es.length es.length

theorem WantRd.up {w w' : World} {es : List (ByteArray × Int)} {ao aa : Option Addr} {n1 n2 : Nat} (h : WantRd w es ao aa n1 n2) (hb : Below w.heap.size w w') : WantRd w' es ao aa n1 n2 :=
  ⟨h.n1, h.n2, h.ops.up hb, h.ats.up hb, h.len⟩
theorem ErrVal.up {w w' : World} {v : Value} {N : Int} {es : List (ByteArray × Int)} (h : ErrVal w v N es) (hb : Below w.heap.size w w') : ErrVal w' v N es := by
  obtain ⟨ao, aa, co, ca, h1, h2⟩ := h
  exact ⟨ao, aa, co, ca, h1, h2.up hb⟩
theorem errVal_none (w : World) : ErrVal w (.agg #[.int .i64 0, .slice none 0 0, .slice none 0 0]) 0 [] :=
  ⟨none, none, 0, 0, rfl, rfl, rfl, ⟨rfl, .inl rfl⟩, ⟨rfl, .inl rfl⟩, by simp⟩

/-- a new block of cells reads as its cells -/
theorem rd_row {w : World} {g m sz : Nat} {cs : Array Value} {e : TypeId} {fr : Nat × Nat} (h : w.heap[g]? = some (.cells cs e fr)) (hn : cs.size = m * sz) : Rd w (some ⟨g, 0, none⟩) m sz cs.toList := by
  refine ⟨by simpa using hn, .inr ⟨g, 0, rfl, (Array.getElem?_eq_some_iff.1 h).1, fun j u hu => ?_⟩⟩
  simp only [World.cell?, h, Nat.zero_add]
  simpa using hu

/-- edenraw.Is, by what an error is (none: nil) and what is expected (number 0: none) -/
def errIs (e f : Option (ByteArray × Int × Int)) : Bool :=
  match e, f with
  | none, none => true
  | some (o, a, n), some (o', a', n') => decide (o = o') && decide (a = a') && decide (rix n = rix n')
  | _, _ => false
/-- v is nil, or the error told by one package -/
def ErrIs (B : Nat) (R : Nat → Addr) (w : World) (v : Value) : Option (ByteArray × Int × Int) → Prop
  | none => v = .nilIface
  | some (o, a, n) => IsErr B R w v o a n
/-- v is the expected error -/
def WantIs (w : World) (v : Value) : Option (ByteArray × Int × Int) → Prop
  | none => ErrVal w v 0 []
  | some (o, a, n) => ErrVal w v n [(o, a)] ∧ (n == 0) = false

theorem rawNew_any (op : ByteArray) (at_ N : Int) (w : World) :
    Calls Tryd.prog 67 #[.string op, .int .i64 at_, .int .i64 N] w fun e w' => ∃ ao aa co ca, e = .returned (.agg #[.int .i64 N, .slice ao 1 co, .slice aa 1 ca]) ∧ WantRd w' [(op, at_)] ao aa 1 1 ∧ Below w.heap.size w w' := by
  go_enter Tryd.func67, Tryd.ntmps67
  go_wp2
  refine bodyPost_ret (v := .agg #[.int .i64 N, .slice (some ⟨w.heap.size + 1, 0, none⟩) 1 1, .slice (some ⟨w.heap.size + 1 + 1, 0, none⟩) 1 1]) (by simp [results, Tryd.results67, go_sem]) rfl ?_
  refine ⟨_, _, _, _, rfl, ⟨rfl, rfl, ?_, ?_, by simp⟩, balloc (balloc (balloc (bnil _) _) _) _⟩
  · exact (rd_new (news := #[.string op]) (m := 1) (sz := 1) (by simp) rfl).al _
  · exact rd_new (news := #[.int .i64 at_]) (m := 1) (sz := 1) (by simp) rfl

theorem rawNew_want (op : ByteArray) (at_ N : Int) (w : World) (hN : (N == 0) = false) :
    Calls Tryd.prog 67 #[.string op, .int .i64 at_, .int .i64 N] w fun e w' => ∃ ao aa co ca, e = .returned (.agg #[.int .i64 N, .slice ao 1 co, .slice aa 1 ca]) ∧ WantIs w' (.agg #[.int .i64 N, .slice ao 1 co, .slice aa 1 ca]) (some (op, at_, N)) ∧ Below w.heap.size w w' :=
  (rawNew_any op at_ N w).mono fun e w' h => by
    obtain ⟨ao, aa, co, ca, h1, h2, h3⟩ := h
    exact ⟨ao, aa, co, ca, h1, ⟨⟨ao, aa, co, ca, rfl, h2⟩, hN⟩, h3⟩

theorem isErr_chain {B : Nat} {R : Nat → Addr} {w w0 : World} {v : Value} {op : ByteArray} {at_ n : Int} (h : IsErr B R w v op at_ n) (hS : Sent w R) : Chain w v [(op, at_)] (R (rix n)) := by
  obtain ⟨g, rfl, _, hg⟩ := h
  exact ⟨g, _, rfl, hg, rfl, hS.row _ (rix_lt n)⟩

theorem Sent.up {w w' : World} {R : Nat → Addr} (h : Sent w R) (hb : Below w.heap.size w w') : Sent w' R := by
  refine ⟨h.glob.up hb, h.apart, fun k hk => ?_, fun k hk => ?_⟩
  · obtain ⟨c, t, e⟩ := h.row k hk
    exact ⟨c, t, by rw [hb.block _ (Array.getElem?_eq_some_iff.1 e).1]; exact e⟩
  · obtain ⟨s, e⟩ := h.text k hk
    exact ⟨s, by rw [hb.cell (World.block_lt_of_cell? _ _ e)]; exact e⟩

/-- the facts on the package-level variables -/
structure Env (w : World) (R : Nat → Addr) : Prop where
  sent : Sent w R
  et : ErrType w
theorem Env.up {w w' : World} {R : Nat → Addr} (h : Env w R) (hb : Below w.heap.size w w') : Env w' R := ⟨h.sent.up hb, h.et.up hb⟩
theorem Env.al {w : World} {R : Nat → Addr} (h : Env w R) (o : Obj) : Env (w.alloc o) R := h.up (balloc (bnil _) _)

theorem IsErr.up {B : Nat} {R : Nat → Addr} {w w' : World} {v : Value} {op : ByteArray} {at_ n : Int} (h : IsErr B R w v op at_ n) (hb : Below w.heap.size w w') : IsErr B R w' v op at_ n := by
  obtain ⟨g, h1, h2, h3⟩ := h
  exact ⟨g, h1, h2, by rw [hb.block _ (Array.getElem?_eq_some_iff.1 h3).1]; exact h3⟩
theorem ErrIs.up {B : Nat} {R : Nat → Addr} {w w' : World} {v : Value} {e : Option (ByteArray × Int × Int)} (h : ErrIs B R w v e) (hb : Below w.heap.size w w') : ErrIs B R w' v e := by
  cases e with
  | none => exact h
  | some x => exact IsErr.up h hb
theorem WantIs.up {w w' : World} {v : Value} {e : Option (ByteArray × Int × Int)} (h : WantIs w v e) (hb : Below w.heap.size w w') : WantIs w' v e := by
  cases e with
  | none => exact ErrVal.up h hb
  | some x => exact ⟨h.1.up hb, h.2⟩

theorem rawIs_any (B : Nat) (v x : Value) (e f : Option (ByteArray × Int × Int)) (w : World) (R : Nat → Addr) (hE : Env w R) (he : ErrIs B R w v e) (hf : WantIs w x f) :
    Calls Tryd.prog 28 #[v, x] w (IsPost w (errIs e f)) := by
  cases f with
  | none =>
    obtain ⟨ao, aa, co, ca, rfl, _⟩ := hf
    cases e with
    | none => cases he; exact rawIs_none_nil _ _ w
    | some y => exact rawIs_none v _ _ _ _ w (isErr_chain (w0 := w) he hE.sent)
  | some z =>
    obtain ⟨⟨ao, aa, co, ca, rfl, hw⟩, hn⟩ := hf
    cases e with
    | none => cases he; exact rawIs_nil _ _ _ w hn
    | some y =>
      have h := rawIs_some v _ _ _ z.2.2 ao aa _ _ co ca w R hE.sent hE.et (isErr_chain (w0 := w) he hE.sent) hw hn
      have e2 : decide (R (rix y.2.2) = R (rix z.2.2) ∧ [(y.1, y.2.1)] = [(z.1, z.2.1)]) = errIs (some y) (some z) := by
        unfold errIs
        rw [Bool.eq_iff_iff]
        simp only [decide_eq_true_eq, Bool.and_eq_true, List.cons.injEq, Prod.mk.injEq, and_true]
        constructor
        · rintro ⟨h1, h2, h3⟩; exact ⟨⟨h2, h3⟩, hE.sent.apart _ _ (rix_lt _) (rix_lt _) h1⟩
        · rintro ⟨⟨h1, h2⟩, h3⟩; exact ⟨by rw [h3], h1, h2⟩
      rw [← e2]
      exact h
end Go.Proofs.YtocfkmdoalhjmaaDoor
