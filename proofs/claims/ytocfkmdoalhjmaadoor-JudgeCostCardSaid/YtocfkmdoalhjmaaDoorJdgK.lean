/- Entries as keys of a map: a set of entries. -/
import Derived.Test.YtocfkmdoalhjmaaDoorTypes
import Derived.Test.YtocfkmdoalhjmaaDoorProg
import Derived.Maps.OwnSet
import Derived.DeepKeys4
namespace Go.Proofs.YtocfkmdoalhjmaaDoor
open Go.RowKit
set_option linter.unusedVariables false
set_option maxRecDepth 100000

theorem laidO : laidOutB Tryd.prog = true := by kernel_rfl
theorem rowE : (82 : TypeId) < Tryd.prog.types.size := of_decide_eq_true (by kernel_rfl)
theorem wideE : (match Tryd.prog.underlying 82 with | some (.array _ _) | some (.struct _) => true | _ => false) = true := by rw [Tryd.underlying82]
theorem lawE : Maps.Keyed Tryd.prog 82 := Maps.Keyed.of_law (deep_law_laid laidO (m := 2) (by omega) rowE (by kernel_rfl) wideE)
abbrev entV (x : Int × Int × Int) : Value := .agg #[.int .i64 x.1, .int .i64 x.2.1, .int .i64 x.2.2]
def kE (x : Int × Int × Int) : Lit := .string (keyBytes [.int .i64 x.1, .int .i64 x.2.1, .int .i64 x.2.2])
structure Wf3 (x : Int × Int × Int) : Prop where
  a : (Lit.int .i64 x.1).wf = true
  b : (Lit.int .i64 x.2.1).wf = true
  c : (Lit.int .i64 x.2.2).wf = true
theorem cellsE : Tryd.prog.cellsOf 82 = 3 := by kernel_rfl
theorem cellsI : Tryd.prog.cellsOf 3 = 1 := by kernel_rfl
theorem kl_int (d : Nat) (n : Int) (h : (Lit.int .i64 n).wf = true) : Tryd.prog.keyLits (d + 1) 3 [.int .i64 n] = some [.int .i64 n] := by
  unfold Program.keyLits
  rw [Tryd.underlying3]
  exact if_pos ⟨rfl, h⟩
theorem formE (x : Int × Int × Int) : (entV x).formed Tryd.prog 82 = true := by
  simp only [Value.formed, Tryd.underlying82, cellsE]
  rfl
theorem kl_ent (s : Nat) (x : Int × Int × Int) (h : Wf3 x) : Tryd.prog.keyLits (s + 1 + 1) 82 [.int .i64 x.1, .int .i64 x.2.1, .int .i64 x.2.2] = some [.int .i64 x.1, .int .i64 x.2.1, .int .i64 x.2.2] := by
  unfold Program.keyLits
  rw [Tryd.underlying82]
  simp only [cellsE]
  rw [if_pos ⟨rfl, by kernel_rfl⟩]
  have e1 := kl_int s x.1 h.a
  have e2 := kl_int s x.2.1 h.b
  have e3 := kl_int s x.2.2 h.c
  simp only [List.mapM_cons, List.mapM_nil, cellsI, List.drop_zero, List.take_succ_cons, List.take_zero, List.drop_succ_cons, e1, e2, e3]
  rfl
theorem key_ent (x : Int × Int × Int) (h : Wf3 x) : keyOf Tryd.prog 82 (entV x) = some (kE x) := by
  have hk : Tryd.prog.keyType 82 = true := by kernel_rfl
  obtain ⟨s, hs⟩ : ∃ s, Tryd.prog.types.size = s + 1 := Nat.exists_eq_succ_of_ne_zero (Nat.ne_of_gt (Nat.lt_of_le_of_lt (Nat.zero_le _) rowE))
  have e := kl_ent s x h
  unfold keyOf
  rw [Tryd.underlying82]
  simp only [hk, formE, Bool.and_self, if_true]
  rw [hs]
  have hc : (entV x).cells.toList = [.int .i64 x.1, .int .i64 x.2.1, .int .i64 x.2.2] := rfl
  rw [hc, e]
  rfl
/-- the set of the entries that came -/
def setE (acc : List (Int × Int × Int)) : DataW Unit := Maps.setOf (.agg []) (acc.map kE)
theorem kE_inj {x y : Int × Int × Int} (hx : Wf3 x) (hy : Wf3 y) (h : kE x = kE y) : x = y := by
  have h1 := lawE.inj (key_ent x hx) (h ▸ key_ent y hy)
  have h2 : entV x = entV y := h1
  obtain ⟨a, b, c⟩ := x
  obtain ⟨d, e, f⟩ := y
  simp [entV] at h2
  obtain ⟨rfl, rfl, rfl⟩ := h2
  rfl
theorem has_setE {acc : List (Int × Int × Int)} {x : Int × Int × Int} (ha : ∀ y ∈ acc, Wf3 y) (hx : Wf3 x) : Maps.has (setE acc) (kE x) = decide (x ∈ acc) := by
  unfold setE
  rw [Maps.has_setOf _ _ _ (fun y hy => by obtain ⟨z, _, rfl⟩ := List.mem_map.1 hy; trivial)]
  rw [Bool.eq_iff_iff, List.any_eq_true, decide_eq_true_iff]
  constructor
  · rintro ⟨l, hl, hs⟩
    obtain ⟨y, hy, rfl⟩ := List.mem_map.1 hl
    rw [← kE_inj (ha y hy) hx (WideAt.sameKey_eq hs)]
    exact hy
  · intro h
    exact ⟨kE x, List.mem_map_of_mem h, WideAt.sameKey_self (show WideAt.IsKeyLit (kE x) from trivial)⟩
theorem setE_put (acc : List (Int × Int × Int)) (x : Int × Int × Int) : (setE acc).put (kE x) (.agg []) = setE (acc ++ [x]) := by
  unfold setE
  rw [List.map_append, List.map_cons, List.map_nil, Maps.setOf_snoc]
/-- the map of a set of entries, in block b -/
abbrev MapE (w : World) (b n : Nat) (acc : List (Int × Int × Int)) : Prop := w.ownsMap Tryd.prog 82 (unitElem (H := Unit)) b n (setE acc)
theorem mapE_grown {w w' : World} {b n g : Nat} {acc : List (Int × Int × Int)} (h : MapE w b n acc) (hg : w.grownBy w' (some g)) (hne : b ≠ g) : MapE w' b n acc := by
  obtain ⟨es, clock, hb, r⟩ := h
  exact ⟨es, clock, (hg.block b (by rcases Nat.lt_or_ge b w.heap.size with h | h; exact h; rw [Array.getElem?_eq_none h] at hb; cases hb) (fun e => hne (by cases e; rfl))).trans hb, r⟩
end Go.Proofs.YtocfkmdoalhjmaaDoor
