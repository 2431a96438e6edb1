/- Entries as keys of a map: a set of entries. judge: a look into the table, and whether three columns make a fourth. judge: does an entry hold. judge.given for any table and patch; what judge.Judge tells (plain). Plain: what a certificate that decodes holds. judge.Judge for any table, patch and bytes. Plain: where a certificate holds there is no predecessor. -/
import Derived.Test.YtoaooblodgejdaaDoorBase
import Derived.Test.YtoaooblodgejdaaDoorProg
import Derived.Maps.OwnSet
import Derived.DeepKeys4
import Derived.Test.YtoaooblodgejdaaDoorPlaX
import Derived.Test.YtoaooblodgejdaaDoorBitI
import Derived.Test.YtoaooblodgejdaaDoorPatX
import Derived.Deep.QuietTactic
import Derived.BigQuiet
import Derived.Deep.RegionHeld3
import Derived.Test.YtoaooblodgejdaaDoorCrtX
namespace Go.Proofs.YtoaooblodgejdaaDoor
open Go.RowKit
set_option linter.unusedVariables false
set_option maxRecDepth 100000

theorem laidO : laidOutB Tryd.prog = true := by kernel_rfl
theorem rowE : (90 : TypeId) < Tryd.prog.types.size := of_decide_eq_true (by kernel_rfl)
theorem wideE : (match Tryd.prog.underlying 90 with | some (.array _ _) | some (.struct _) => true | _ => false) = true := by rw [Tryd.underlying90]
theorem lawE : Maps.Keyed Tryd.prog 90 := Maps.Keyed.of_law (deep_law_laid laidO (m := 2) (by omega) rowE (by kernel_rfl) wideE)
abbrev entV (x : Int × Int × Int) : Value := .agg #[.int .i64 x.1, .int .i64 x.2.1, .int .i64 x.2.2]
def kE (x : Int × Int × Int) : Lit := .string (keyBytes [.int .i64 x.1, .int .i64 x.2.1, .int .i64 x.2.2])
structure Wf3 (x : Int × Int × Int) : Prop where
  a : (Lit.int .i64 x.1).wf = true
  b : (Lit.int .i64 x.2.1).wf = true
  c : (Lit.int .i64 x.2.2).wf = true
theorem cellsE : Tryd.prog.cellsOf 90 = 3 := by kernel_rfl
theorem cellsI : Tryd.prog.cellsOf 3 = 1 := by kernel_rfl
theorem kl_int (d : Nat) (n : Int) (h : (Lit.int .i64 n).wf = true) : Tryd.prog.keyLits (d + 1) 3 [.int .i64 n] = some [.int .i64 n] := by
  unfold Program.keyLits
  rw [Tryd.underlying3]
  exact if_pos ⟨rfl, h⟩
theorem formE (x : Int × Int × Int) : (entV x).formed Tryd.prog 90 = true := by
  simp only [Value.formed, Tryd.underlying90, cellsE]
  rfl
theorem kl_ent (s : Nat) (x : Int × Int × Int) (h : Wf3 x) : Tryd.prog.keyLits (s + 1 + 1) 90 [.int .i64 x.1, .int .i64 x.2.1, .int .i64 x.2.2] = some [.int .i64 x.1, .int .i64 x.2.1, .int .i64 x.2.2] := by
  unfold Program.keyLits
  rw [Tryd.underlying90]
  simp only [cellsE]
  rw [if_pos ⟨rfl, by kernel_rfl⟩]
  have e1 := kl_int s x.1 h.a
  have e2 := kl_int s x.2.1 h.b
  have e3 := kl_int s x.2.2 h.c
  simp only [List.mapM_cons, List.mapM_nil, cellsI, List.drop_zero, List.take_succ_cons, List.take_zero, List.drop_succ_cons, e1, e2, e3]
  rfl
theorem key_ent (x : Int × Int × Int) (h : Wf3 x) : keyOf Tryd.prog 90 (entV x) = some (kE x) := by
  have hk : Tryd.prog.keyType 90 = true := by kernel_rfl
  obtain ⟨s, hs⟩ : ∃ s, Tryd.prog.types.size = s + 1 := Nat.exists_eq_succ_of_ne_zero (Nat.ne_of_gt (Nat.lt_of_le_of_lt (Nat.zero_le _) rowE))
  have e := kl_ent s x h
  unfold keyOf
  rw [Tryd.underlying90]
  simp only [hk, formE, Bool.and_self, if_true]
  rw [hs]
  have hc : (entV x).cells.toList = [.int .i64 x.1, .int .i64 x.2.1, .int .i64 x.2.2] := rfl
  rw [hc, e]
  rfl
/-- the set of the entries that came -/
def setE (acc : List (Int × Int × Int)) : DataW Unit := Maps.setOf (.agg []) (acc.map kE)
theorem kE_inj {x y : Int × Int × Int} (hx : Wf3 x) (hy : Wf3 y) (h : kE x = kE y) : x = y := by
  have h1 := lawE.inj (key_ent x hx) (h ▸ key_ent y hy)
  have h2 : entV x = entV y := h1
  obtain ⟨a, b, c⟩ := x
  obtain ⟨d, e, f⟩ := y
  simp [entV] at h2
  obtain ⟨rfl, rfl, rfl⟩ := h2
  rfl
theorem has_setE {acc : List (Int × Int × Int)} {x : Int × Int × Int} (ha : ∀ y ∈ acc, Wf3 y) (hx : Wf3 x) : Maps.has (setE acc) (kE x) = decide (x ∈ acc) := by
  unfold setE
  rw [Maps.has_setOf _ _ _ (fun y hy => by obtain ⟨z, _, rfl⟩ := List.mem_map.1 hy; trivial)]
  rw [Bool.eq_iff_iff, List.any_eq_true, decide_eq_true_iff]
  constructor
  · rintro ⟨l, hl, hs⟩
    obtain ⟨y, hy, rfl⟩ := List.mem_map.1 hl
    rw [← kE_inj (ha y hy) hx (WideAt.sameKey_eq hs)]
    exact hy
  · intro h
    exact ⟨kE x, List.mem_map_of_mem h, WideAt.sameKey_self (show WideAt.IsKeyLit (kE x) from trivial)⟩
theorem setE_put (acc : List (Int × Int × Int)) (x : Int × Int × Int) : (setE acc).put (kE x) (.agg []) = setE (acc ++ [x]) := by
  unfold setE
  rw [List.map_append, List.map_cons, List.map_nil, Maps.setOf_snoc]
/-- the map of a set of entries, in block b -/
abbrev MapE (w : World) (b n : Nat) (acc : List (Int × Int × Int)) : Prop := w.ownsMap Tryd.prog 90 (unitElem (H := Unit)) b n (setE acc)
theorem mapE_grown {w w' : World} {b n g : Nat} {acc : List (Int × Int × Int)} (h : MapE w b n acc) (hg : w.grownBy w' (some g)) (hne : b ≠ g) : MapE w' b n acc := by
  obtain ⟨es, clock, hb, r⟩ := h
  exact ⟨es, clock, (hg.block b (by rcases Nat.lt_or_ge b w.heap.size with h | h; exact h; rw [Array.getElem?_eq_none h] at hb; cases hb) (fun e => hne (by cases e; rfl))).trans hb, r⟩
end Go.Proofs.YtoaooblodgejdaaDoor
namespace Go.Proofs.YtoaooblodgejdaaDoor
open Go.RowKit
set_option linter.unusedVariables false
set_option maxRecDepth 100000

/-- a column's bit -/
def cb (a k : Nat) : Nat := a / 2 ^ k % 2
/-- the window's number at a line of three columns, line by line -/
def wixT (a b c y : Nat) : Nat → Nat
  | 0 => 0
  | i + 1 => (wixT a b c y i * 8 ||| cb a (y + i) * 4) ||| cb b (y + i) * 2 ||| cb c (y + i)
theorem cb_le (a k : Nat) : cb a k ≤ 1 := by unfold cb; omega
theorem wixT_lt (a b c y : Nat) : ∀ i, wixT a b c y i < 2 ^ (3 * i)
  | 0 => by simp [wixT]
  | i + 1 => by
    have ih := wixT_lt a b c y i
    have e : 2 ^ (3 * (i + 1)) = 2 ^ (3 * i) * 8 := by rw [show 3 * (i + 1) = 3 * i + 3 by omega, Nat.pow_add]
    have h1 := cb_le a (y + i)
    have h2 := cb_le b (y + i)
    have h3 := cb_le c (y + i)
    have hp : 1 ≤ 2 ^ (3 * i) := Nat.one_le_two_pow
    unfold wixT
    refine Nat.or_lt_two_pow (Nat.or_lt_two_pow (Nat.or_lt_two_pow ?_ ?_) ?_) ?_ <;> omega
def symF (t : List Int) (a b c y : Nat) : Int := t.getD (wixT a b c y 3) 0
/-- how many looks, and whether the columns make it: k lines to come, the first of them y -/
def looksF (t : List Int) (a b c want : Nat) : Nat → Nat → Nat × Bool
  | 0, y => (y, true)
  | k + 1, y => if symF t a b c y = ((cb want y : Nat) : Int) then looksF t a b c want k (y + 1) else (y + 1, false)
theorem looksF_le (t : List Int) (a b c want : Nat) : ∀ k y, y ≤ (looksF t a b c want k y).1 ∧ (looksF t a b c want k y).1 ≤ y + k
  | 0, y => by simp [looksF]
  | k + 1, y => by
    unfold looksF
    split
    · have := looksF_le t a b c want k (y + 1); omega
    · show y ≤ y + 1 ∧ y + 1 ≤ y + (k + 1); omega
/-- the table with its counter, in a block -/
abbrev TB (w : World) (g : Nat) (aT : Option Addr) (nT cT : Nat) (k : Nat) : Prop := w.heap[g]? = some (.cells #[.slice aT nT cT, .int .i64 (k : Nat)] 141)
theorem tb_cells {w : World} {g : Nat} {aT : Option Addr} {nT cT k : Nat} (h : TB w g aT nT cT k) : (w.cell? ⟨g, 0, none⟩ = some (.slice aT nT cT) ∧ w.cell? ⟨g, 1, none⟩ = some (.int .i64 (k : Nat))) ∧ w.frozen? ⟨g, 0, none⟩ = false ∧ w.frozen? ⟨g, 1, none⟩ = false := by
  have h2 : w.heap[g]? = _ := h
  simp [World.cell?, World.frozen?, h2]
theorem TB.set {w : World} {g : Nat} {aT : Option Addr} {nT cT k : Nat} (h : TB w g aT nT cT k) (u : Nat) : TB (w.setCell ⟨g, 1, none⟩ (.int .i64 (u : Nat))) g aT nT cT u := by
  have h2 : w.heap[g]? = _ := h
  show (w.setCell ⟨g, 1, none⟩ (.int .i64 (u : Nat))).heap[g]? = _
  simp [World.setCell, Array.getElem?_modify, h2]
theorem grown_refl (w : World) (r : Option Nat) : w.grownBy w r := ⟨rfl, rfl, rfl, Nat.le_refl _, fun _ _ _ => rfl⟩
theorem grown_trans {a b c : World} {r : Option Nat} (h : a.grownBy b r) (k : b.grownBy c r) : a.grownBy c r :=
  ⟨k.os.trans h.os, k.tape.trans h.tape, k.output.trans h.output, Nat.le_trans h.size k.size, fun j hj hne => (k.block j (Nat.lt_of_lt_of_le hj h.size) hne).trans (h.block j hj hne)⟩
theorem grown_drew {w w' : World} {r : Option Nat} (h : w.grownBy w' r) : w.grownBy w'.drew r := ⟨h.os, h.tape, h.output, h.size, h.block⟩
theorem grown_drewN {w w' : World} {r : Option Nat} (n : Nat) (h : w.grownBy w' r) : w.grownBy (w'.drewN n) r := ⟨h.os, h.tape, h.output, h.size, h.block⟩
/-- what lies elsewhere reads the same -/
theorem grown_cell {w w' : World} {g : Nat} {p : Addr} {v : Value} (h : w.grownBy w' (some g)) (hne : p.block ≠ g) (hc : w.cell? p = some v) : w'.cell? p = some v :=
  (World.cell?_of_block (h.block _ (World.block_lt_of_cell? _ _ hc) (fun e => hne (by cases e; rfl)))).trans hc
theorem grown_set (w : World) (g j : Nat) (u : Value) : w.grownBy (w.setCell ⟨g, j, none⟩ u) (some g) :=
  ⟨rfl, rfl, rfl, by simp [World.setCell], fun k _ hne => Below.heap_setCell w ⟨g, j, none⟩ u k (fun e => hne (by rw [e]))⟩
/-- the same memory -/
def HpEq (a b : World) : Prop := ∀ j : Nat, b.heap[j]? = a.heap[j]?
theorem HpEq.cell {a b : World} {p : Addr} {v : Value} (h : HpEq a b) (hc : a.cell? p = some v) : b.cell? p = some v := (World.cell?_of_block (h _)).trans hc
set_option maxHeartbeats 8000000 in
theorem jat_any (g : Nat) (ab ao cT : Nat) (t : List Int) (k y a b c : Nat) (W : World) (hne : ab ≠ g) (hT : RK .i64 W (some ⟨ab, ao, none⟩) 512 t) (hz : TB W g (some ⟨ab, ao, none⟩) 512 cT k) (hk : k < 1000000000) (hy : y ≤ 8) (ha : a < 1024) (hb : b < 1024) (hc : c < 1024) :
    Calls Tryd.prog 117 #[.pointer (some ⟨g, 0, none⟩), .int .i64 (y : Nat), .int .i64 (a : Nat), .int .i64 (b : Nat), .int .i64 (c : Nat)] W fun e w' => e = .returned (.int .i64 (symF t a b c y)) ∧ TB w' g (some ⟨ab, ao, none⟩) 512 cT (k + 1) ∧ W.grownBy w' (some g) := by
  obtain ⟨ab2, ao2, hab0, _, hcell⟩ := hT.addr (by omega)
  cases hab0
  obtain ⟨⟨u0, u1⟩, f0, f1⟩ := tb_cells hz
  have hz2 := hz.set (k + 1)
  obtain ⟨W2, hW2⟩ : ∃ W2, W.setCell ⟨g, 1, none⟩ (.int .i64 ((k + 1 : Nat) : Int)) = W2 := ⟨_, rfl⟩
  rw [hW2] at hz2
  have hg2 : W.grownBy W2 (some g) := by rw [← hW2]; exact grown_set W g 1 _
  have HZ2 := Lib.hid hz2
  have HG2 := Lib.hid hg2
  have HC : Hid (∀ j, j < 512 → W2.cell? ⟨ab, ao + j, none⟩ = some (.int .i64 (t.getD j 0))) := fun j hj => grown_cell (p := ⟨ab, ao + j, none⟩) hg2 hne (hcell j hj)
  have HW2 : Hid (W.setCell ⟨g, 1, none⟩ (.int .i64 ((k : Int) + 1)) = W2) := by show _ = _; rw [← hW2]; rfl
  have hkI : IntKind.i64.wrap ((k : Int) + 1) = (k : Int) + 1 := IntWalk.i64_in _ (by omega)
  clear hcell hz hz2 hg2 hW2 hT
  go_enter Tryd.func117, Tryd.ntmps117
  go_wp2_with fail
  rw [HW2.out]
  go_loopw [11, 20] (fun nx ix wr => ∃ i : Nat, i ≤ 3 ∧ ix = .int .i64 (i : Nat) ∧ nx = .int .i64 (wixT a b c y i : Nat) ∧ HpEq W2 wr ∧ W.grownBy wr (some g)) (fun _ ix _ => 3 - (intOf ix).toNat)
  case atStart => exact ⟨0, by omega, rfl, rfl, fun _ => rfl, HG2.out⟩
  case round =>
    obtain ⟨i, hi, rfl, rfl, hq, hgr⟩ := hrel
    have HQ := Lib.hid hq
    have HGR := Lib.hid hgr
    clear hq hgr
    have hwl := wixT_lt a b c y i
    by_cases hi3 : i < 3
    · have hw64 : wixT a b c y i < 512 := by
        have h1 : 2 ^ (3 * i) ≤ 2 ^ 9 := Nat.pow_le_pow_right (by omega) (by omega)
        have h2 : (2 : Nat) ^ 9 = 512 := by decide
        omega
      have HN : Hid (wixT a b c y (i + 1) = (wixT a b c y i * 8 ||| cb a (y + i) * 4) ||| cb b (y + i) * 2 ||| cb c (y + i)) := rfl
      generalize wixT a b c y i = n at *
      obtain ⟨k2, hk2⟩ : ∃ k2, y + i = k2 := ⟨_, rfl⟩
      rw [hk2] at HN
      have hkI2 : (y : Int) + (i : Int) = (k2 : Int) := by omega
      have hkw : IntKind.i64.wrap (k2 : Int) = (k2 : Int) := IntWalk.i64_in _ (by omega)
      have k0 : (0 : Int) ≤ (k2 : Int) := by omega
      have k64 : (k2 : Int) ≤ 64 := by omega
      obtain ⟨A1, hA1⟩ : ∃ A1, a / 2 ^ k2 = A1 := ⟨_, rfl⟩
      obtain ⟨B1, hB1⟩ : ∃ B1, b / 2 ^ k2 = B1 := ⟨_, rfl⟩
      obtain ⟨C1, hC1⟩ : ∃ C1, c / 2 ^ k2 = C1 := ⟨_, rfl⟩
      have hAI : (a : Int) / 2 ^ k2 = (A1 : Int) := by rw [← hA1, Int.natCast_ediv, Int.natCast_pow]; rfl
      have hBI : (b : Int) / 2 ^ k2 = (B1 : Int) := by rw [← hB1, Int.natCast_ediv, Int.natCast_pow]; rfl
      have hCI : (c : Int) / 2 ^ k2 = (C1 : Int) := by rw [← hC1, Int.natCast_ediv, Int.natCast_pow]; rfl
      have hA2 : A1 < 1024 := by rw [← hA1]; exact Nat.lt_of_le_of_lt (Nat.div_le_self _ _) ha
      have hB2 : B1 < 1024 := by rw [← hB1]; exact Nat.lt_of_le_of_lt (Nat.div_le_self _ _) hb
      have hC2 : C1 < 1024 := by rw [← hC1]; exact Nat.lt_of_le_of_lt (Nat.div_le_self _ _) hc
      have haa := and1_i64 (a := A1) (by omega)
      have hbb := and1_i64 (a := B1) (by omega)
      have hcc := and1_i64 (a := C1) (by omega)
      have ep : cb a k2 = A1 % 2 := by unfold cb; rw [hA1]
      have eq : cb b k2 = B1 % 2 := by unfold cb; rw [hB1]
      have er : cb c k2 = C1 % 2 := by unfold cb; rw [hC1]
      rw [ep, eq, er] at HN
      have lp : A1 % 2 ≤ 1 := by omega
      have lq : B1 % 2 ≤ 1 := by omega
      have lr : C1 % 2 ≤ 1 := by omega
      generalize A1 % 2 = p at *
      generalize B1 % 2 = q at *
      generalize C1 % 2 = r at *
      obtain ⟨N8, hN8⟩ : ∃ N8, n * 8 = N8 := ⟨_, rfl⟩
      obtain ⟨P4, hP4⟩ : ∃ P4, p * 4 = P4 := ⟨_, rfl⟩
      obtain ⟨Q2, hQ2⟩ : ∃ Q2, q * 2 = Q2 := ⟨_, rfl⟩
      rw [hN8, hP4, hQ2] at HN
      have n8 : (n : Int) * 8 = (N8 : Int) := by omega
      have n8b : (n : Int) * 2 ^ 3 = (N8 : Int) := n8
      have p4 : (p : Int) * 4 = (P4 : Int) := by omega
      have p4b : (p : Int) * 2 ^ 2 = (P4 : Int) := p4
      have q2 : (q : Int) * 2 = (Q2 : Int) := by omega
      have q2b : (q : Int) * 2 ^ 1 = (Q2 : Int) := q2
      have wN : IntKind.i64.wrap (N8 : Int) = (N8 : Int) := IntWalk.i64_in _ (by omega)
      have wP : IntKind.i64.wrap (P4 : Int) = (P4 : Int) := IntWalk.i64_in _ (by omega)
      have wQ : IntKind.i64.wrap (Q2 : Int) = (Q2 : Int) := IntWalk.i64_in _ (by omega)
      have bN : N8 < 2 ^ 12 := by have : (2 : Nat) ^ 12 = 4096 := by decide
                                  omega
      have bP : P4 < 2 ^ 12 := by have : (2 : Nat) ^ 12 = 4096 := by decide
                                  omega
      have bQ : Q2 < 2 ^ 12 := by have : (2 : Nat) ^ 12 = 4096 := by decide
                                  omega
      have o1 := or_i64 (a := N8) (b := P4) (by omega) (by omega)
      have l1 := Nat.or_lt_two_pow bN bP
      obtain ⟨M1, hM1⟩ : ∃ M1, N8 ||| P4 = M1 := ⟨_, rfl⟩
      rw [hM1] at o1 l1 HN
      have o2 := or_i64 (a := M1) (b := Q2) (by omega) (by omega)
      have l2 := Nat.or_lt_two_pow l1 bQ
      obtain ⟨M2, hM2⟩ : ∃ M2, M1 ||| Q2 = M2 := ⟨_, rfl⟩
      rw [hM2] at o2 l2 HN
      have o3 := or_i64 (a := M2) (b := r) (by omega) (by omega)
      obtain ⟨M3, hM3⟩ : ∃ M3, M2 ||| r = M3 := ⟨_, rfl⟩
      rw [hM3] at o3 HN
      clear hk2 hA1 hB1 hC1 ep eq er hN8 hP4 hQ2 hM1 hM2 hM3 hwl hw64 bN bP bQ l1 l2 lp lq lr
      go_wp2_with fail
      go_quiet (fail)
      have HG5 := Lib.hid (grown_drewN nq HGR.out)
      have HQ5 : Hid (HpEq W2 (wr.drewN nq)) := HQ.out
      go_wp2
      go_roundw
      case rel => exact ⟨i + 1, by omega, by go_num, by rw [HN.out], HQ5.out, HG5.out⟩
      case measure => simp [intOf]; omega
    · obtain rfl : i = 3 := by omega
      have h9 : wixT a b c y 3 < 512 := hwl
      have hy0 : symF t a b c y = t.getD (wixT a b c y 3) 0 := rfl
      have z0 := HQ.out.cell (HC.out _ h9)
      have zt : TB wr g (some ⟨ab, ao, none⟩) 512 cT (k + 1) := (HQ.out g).trans HZ2.out
      obtain ⟨⟨v0, v1⟩, _, _⟩ := tb_cells zt
      have ZT := Lib.hid zt
      have HY := Lib.hid hy0
      generalize wixT a b c y 3 = n at *
      have n0 : (0 : Int) ≤ (n : Int) := by omega
      have n1 : (n : Int) < 512 := by omega
      clear zt hy0 hwl
      go_wp2
      go_ret
      rw [HY.out]
      exact ⟨rfl, ZT.out, HGR.out⟩
theorem rk_grown {kd : IntKind} {W w' : World} {g ab ao n : Nat} {t : List Int} (h : RK kd W (some ⟨ab, ao, none⟩) n t) (hg : W.grownBy w' (some g)) (hne : ab ≠ g) : RK kd w' (some ⟨ab, ao, none⟩) n t := by
  refine ⟨h.1, h.2.1, ?_⟩
  rcases h.2.2 with h0 | ⟨b, o, e, hlt, hc⟩
  · exact .inl h0
  · cases e
    exact .inr ⟨ab, ao, rfl, Nat.lt_of_lt_of_le hlt hg.size, fun j u hu => grown_cell (p := ⟨ab, ao + j, none⟩) hg hne (hc j u hu)⟩
set_option maxHeartbeats 8000000 in
theorem jmakes_any (g ab ao cT : Nat) (t : List Int) (k h a b c want : Nat) (W : World) (hne : ab ≠ g) (hT : RK .i64 W (some ⟨ab, ao, none⟩) 512 t) (hz : TB W g (some ⟨ab, ao, none⟩) 512 cT k) (hk : k < 100000000) (hh : h ≤ 4) (ha : a < 1024) (hb : b < 1024) (hc : c < 1024) (hw : want < 1024) :
    Calls Tryd.prog 111 #[.pointer (some ⟨g, 0, none⟩), .int .i64 (h : Nat), .int .i64 (a : Nat), .int .i64 (b : Nat), .int .i64 (c : Nat), .int .i64 (want : Nat)] W fun e w' => e = .returned (.bool (looksF t a b c want h 0).2) ∧ TB w' g (some ⟨ab, ao, none⟩) 512 cT (k + (looksF t a b c want h 0).1) ∧ W.grownBy w' (some g) := by
  obtain ⟨LK, hLK⟩ : ∃ LK, looksF t a b c want h 0 = LK := ⟨_, rfl⟩
  rw [hLK]
  have HLK := Lib.hid hLK
  have HT := Lib.hid hT
  have HZ := Lib.hid hz
  clear hLK hT hz
  go_enter Tryd.func111, Tryd.ntmps111
  go_wp2_with fail
  go_loopw [15] (fun ix wr => ∃ y : Nat, y ≤ h ∧ ix = .int .i64 (y : Nat) ∧ looksF t a b c want (h - y) y = LK ∧ TB wr g (some ⟨ab, ao, none⟩) 512 cT (k + y) ∧ W.grownBy wr (some g)) (fun ix _ => h - (intOf ix).toNat)
  case atStart => exact ⟨0, by omega, rfl, HLK.out, HZ.out, grown_refl W _⟩
  case round =>
    obtain ⟨y, hy, rfl, hrun, hz, hg⟩ := hrel
    have HG := Lib.hid hg
    have HZ2 := Lib.hid hz
    clear hg hz HLK
    by_cases hyh : y < h
    · obtain ⟨m, hm⟩ : ∃ m, h - y = m + 1 := ⟨h - y - 1, by omega⟩
      have hm2 : h - (y + 1) = m := by omega
      rw [hm] at hrun
      unfold looksF at hrun
      rw [← hm2] at hrun
      have y1 : (y : Int) < (h : Int) := by omega
      have y0 : (0 : Int) ≤ (y : Int) := by omega
      have y64 : (y : Int) ≤ 64 := by omega
      obtain ⟨V, hV⟩ : ∃ V, want / 2 ^ y = V := ⟨_, rfl⟩
      have hVI : (want : Int) / 2 ^ y = (V : Int) := by rw [← hV, Int.natCast_ediv, Int.natCast_pow]; rfl
      have hV2 : V < 1024 := by rw [← hV]; exact Nat.lt_of_le_of_lt (Nat.div_le_self _ _) hw
      have hvv := and1_i64 (a := V) (by omega)
      have eu : cb want y = V % 2 := by unfold cb; rw [hV]
      rw [eu] at hrun
      have hC := fun (w : World) (hT : RK .i64 w (some ⟨ab, ao, none⟩) 512 t) (hz : TB w g (some ⟨ab, ao, none⟩) 512 cT (k + y)) => jat_any g ab ao cT t (k + y) y a b c w hne hT hz (by omega) (by omega) ha hb hc
      have HTr : Hid (RK .i64 wr.drew (some ⟨ab, ao, none⟩) 512 t) := (rk_grown HT.out HG.out hne).up (Below.drew (bnil wr))
      have HZr : Hid (TB wr.drew g (some ⟨ab, ao, none⟩) 512 cT (k + y)) := HZ2.out
      obtain ⟨sy, hsy⟩ : ∃ sy, symF t a b c y = sy := ⟨_, rfl⟩
      rw [hsy] at hrun hC
      have HC := Lib.hid hC
      clear hV eu hC hsy hm hm2
      generalize V % 2 = u at *
      by_cases hsu : sy = (u : Int)
      · rw [if_pos hsu] at hrun
        subst hsu
        have HRUN := Lib.hid hrun
        clear hrun
        go_wp2_with fail
        go_region_held3 (fun _ => True) (first | exact trivial | go_keep)
          (first | (go_at_call 117; refine (HC.out _ HTr.out HZr.out).mono ?_; rintro e w5 ⟨rfl, hz5, hg5⟩; have HZ5 := Lib.hid hz5; have HG5 := Lib.hid hg5; clear hz5 hg5))
        all_goals
          have HZ6 : Hid (TB w5 g (some ⟨ab, ao, none⟩) 512 cT (k + (y + 1))) := HZ5.out
          have HG6 : Hid (W.grownBy w5 (some g)) := grown_trans (grown_drew HG.out) HG5.out
          clear HC
          go_wp2
          go_roundw
          case rel => exact ⟨y + 1, by omega, by go_num, HRUN.out, HZ6.out, HG6.out⟩
          case measure => simp [intOf]; omega
      · rw [if_neg hsu] at hrun
        have hsb : (sy != (u : Int)) = true := by rw [bne_iff_ne]; exact hsu
        have HRUN := Lib.hid hrun
        clear hrun
        go_wp2_with fail
        go_region_held3 (fun _ => True) (first | exact trivial | go_keep)
          (first | (go_at_call 117; refine (HC.out _ HTr.out HZr.out).mono ?_; rintro e w5 ⟨rfl, hz5, hg5⟩; have HZ5 := Lib.hid hz5; have HG5 := Lib.hid hg5; clear hz5 hg5))
        all_goals
          have HG6 : Hid (W.grownBy w5 (some g)) := grown_trans (grown_drew HG.out) HG5.out
          clear HC
          go_wp2
          go_ret
          rw [← HRUN.out]
          exact ⟨rfl, HZ5.out, HG6.out⟩
    · obtain rfl : y = h := by omega
      rw [Nat.sub_self] at hrun
      have HRUN := Lib.hid hrun
      clear hrun
      go_wp2
      go_ret
      rw [← HRUN.out]
      exact ⟨rfl, HZ2.out, HG.out⟩
end Go.Proofs.YtoaooblodgejdaaDoor
namespace Go.Proofs.YtoaooblodgejdaaDoor
open Go.RowKit
set_option linter.unusedVariables false
set_option maxRecDepth 100000

/-- how many looks, and whether an entry (col, xa, xb) holds behind acc: r columns to come, the first of them c; n looks so far -/
def holdsF (t : List Int) (h want col xa xb : Nat) (acc : List (Int × Int × Int)) : Nat → Nat → Nat → Nat × Bool
  | 0, _, n => (n, true)
  | r + 1, c, n => if (looksF t xa xb c want h 0).2 = true ∧ ¬ (((col + 1 : Nat) : Int), (xb : Int), (c : Int)) ∈ acc then (n + (looksF t xa xb c want h 0).1, false) else holdsF t h want col xa xb acc r (c + 1) (n + (looksF t xa xb c want h 0).1)
theorem holdsF_le (t : List Int) (h want col xa xb : Nat) (acc : List (Int × Int × Int)) : ∀ r c n, n ≤ (holdsF t h want col xa xb acc r c n).1 ∧ (holdsF t h want col xa xb acc r c n).1 ≤ n + r * h
  | 0, c, n => by simp [holdsF]
  | r + 1, c, n => by
    have hl := (looksF_le t xa xb c want h 0).2
    have ih := holdsF_le t h want col xa xb acc r (c + 1) (n + (looksF t xa xb c want h 0).1)
    have hm : (r + 1) * h = r * h + h := Nat.succ_mul r h
    unfold holdsF
    split
    · show n ≤ n + _ ∧ n + _ ≤ _; omega
    · omega
theorem cell_allocS {w : World} {p : Addr} {v : Value} (o : Obj) (h : w.cell? p = some v) : (w.alloc o).cell? p = some v := al000 h
theorem grown_alloc {w w' : World} {r : Option Nat} (o : Obj) (h : w.grownBy w' r) : w.grownBy (w'.alloc o) r := grown_trans h (World.grownBy_alloc w' o r)
theorem wf64 {n : Int} (h0 : 0 ≤ n) (h1 : n ≤ 1000000000) : (Lit.int .i64 n).wf = true := by
  have h2 : IntKind.i64.wrap n = n := IntWalk.i64_in _ (by omega)
  simp [Lit.wf, IntKind.min, IntKind.max, IntKind.bits, IntKind.signed]
  omega
theorem wf3N {a b c : Nat} (h1 : a ≤ 1000000000) (h2 : b ≤ 1000000000) (h3 : c ≤ 1000000000) : Wf3 ((a : Int), (b : Int), (c : Int)) := ⟨wf64 (by show (0 : Int) ≤ (a : Int); omega) (by show (a : Int) ≤ _; omega), wf64 (by show (0 : Int) ≤ (b : Int); omega) (by show (b : Int) ≤ _; omega), wf64 (by show (0 : Int) ≤ (c : Int); omega) (by show (c : Int) ≤ _; omega)⟩
theorem unit_zero (w : World) : (zeroValue 144).run Tryd.prog w = .ok (.agg #[]) w := by kernel_rfl
set_option maxHeartbeats 16000000 in
theorem jholds_any (g ab ao cT mb n : Nat) (t : List Int) (k h col xa xb want : Nat) (pw : Int) (pa : Option Addr) (pn pc : Nat) (cb0 co nC cC : Nat) (acc : List (Int × Int × Int)) (W : World) (hne : ab ≠ g) (hnm : mb ≠ g) (hnc : cb0 ≠ g)
    (hT : RK .i64 W (some ⟨ab, ao, none⟩) 512 t) (hz : TB W g (some ⟨ab, ao, none⟩) 512 cT k) (hk : k < 50000000) (hh : h ≤ 4) (ha : xa < 1024) (hb : xb < 1024) (hw : want < 1024) (hcol : col < nC) (hcn : nC ≤ 1000000)
    (hC : W.cell? ⟨cb0, co + col, none⟩ = some (.int .i64 (want : Nat))) (hcB : cb0 < W.heap.size) (hM : MapE W mb n acc) (hacc : ∀ y ∈ acc, Wf3 y) :
    Calls Tryd.prog 88 #[.pointer (some ⟨g, 0, none⟩), patV pw h pa pn pc, .slice (some ⟨cb0, co, none⟩) nC cC, .agg #[.int .i64 (col : Nat), .int .i64 (xa : Nat), .int .i64 (xb : Nat)], .map (some mb)] W fun e w' =>
      e = .returned (.bool (holdsF t h want col xa xb acc (4 * 2 ^ h) 0 0).2) ∧ TB w' g (some ⟨ab, ao, none⟩) 512 cT (k + (holdsF t h want col xa xb acc (4 * 2 ^ h) 0 0).1) ∧ W.grownBy w' (some g) := by
  obtain ⟨HF, hHF⟩ : ∃ HF, holdsF t h want col xa xb acc (4 * 2 ^ h) 0 0 = HF := ⟨_, rfl⟩
  rw [hHF]
  obtain ⟨M, hM4⟩ : ∃ M, 4 * 2 ^ h = M := ⟨_, rfl⟩
  rw [hM4] at hHF
  have hM64 : M ≤ 64 := by
    rw [← hM4]
    have := Nat.pow_le_pow_right (n := 2) (by omega) hh
    have h2 : (2 : Nat) ^ 4 = 16 := by decide
    omega
  have hMI : (4 : Int) * 2 ^ h = (M : Int) := by rw [← hM4, Int.natCast_mul, Int.natCast_pow]; rfl
  have hMw : IntKind.i64.wrap (M : Int) = (M : Int) := IntWalk.i64_in _ (by omega)
  have h0I : (0 : Int) ≤ (h : Int) := by omega
  have h64I : (h : Int) ≤ 64 := by omega
  obtain ⟨bp, hbp⟩ : ∃ bp, W.heap.size = bp := ⟨_, rfl⟩
  obtain ⟨Wb, hWb⟩ : ∃ Wb, (W.alloc (.cells #[.int .i64 pw, .int .i64 (h : Nat), .slice pa pn pc] 24)).alloc (.cells #[.int .i64 (col : Nat), .int .i64 (xa : Nat), .int .i64 (xb : Nat)] 90) = Wb := ⟨_, rfl⟩
  have hgb : W.grownBy Wb (some g) := by rw [← hWb]; exact grown_alloc _ (World.grownBy_alloc W _ _)
  have hgl : g < W.heap.size := by rcases Nat.lt_or_ge g W.heap.size with h | h; exact h; rw [TB, Array.getElem?_eq_none h] at hz; cases hz
  have HC0 : Hid (Wb.cell? ⟨bp, 1, none⟩ = some (.int .i64 (h : Nat)) ∧ Wb.cell? ⟨bp + 1, 0, none⟩ = some (.int .i64 (col : Nat)) ∧ Wb.cell? ⟨bp + 1, 1, none⟩ = some (.int .i64 (xa : Nat)) ∧ Wb.cell? ⟨bp + 1, 2, none⟩ = some (.int .i64 (xb : Nat)) ∧ Wb.cell? ⟨cb0, co + col, none⟩ = some (.int .i64 (want : Nat))) := by
    show _ ∧ _
    rw [← hWb, ← hbp]
    refine ⟨al000 (cnw (by simp) rfl), ?_, ?_, ?_, al000 (al000 hC)⟩
    · exact cnw (by simp) rfl
    · exact cnw (by simp) rfl
    · exact cnw (by simp) rfl
  have HTb : Hid (RK .i64 Wb (some ⟨ab, ao, none⟩) 512 t) := rk_grown hT hgb hne
  have HZb : Hid (TB Wb g (some ⟨ab, ao, none⟩) 512 cT k) := by show TB _ _ _ _ _ _; rw [← hWb]; exact (balloc (balloc (bnil W) _) _).block g hgl |>.trans hz
  have HMb : Hid (MapE Wb mb n acc) := mapE_grown hM hgb hnm
  have HGb := Lib.hid hgb
  have HWb := Lib.hid hWb
  have HBP : Hid (bp ≠ g ∧ bp + 1 ≠ g) := ⟨by omega, by omega⟩
  have HAC := Lib.hid hacc
  have HHF := Lib.hid hHF
  have HBPE := Lib.hid hbp
  clear hgb hWb hz hT hM hC hacc hHF hgl
  go_enter Tryd.func88, Tryd.ntmps88
  have p1 : ((W.alloc (.cells #[.int .i64 pw, .int .i64 (h : Nat), .slice pa pn pc] 24)).alloc (.cells #[.int .i64 (col : Nat), .int .i64 (xa : Nat), .int .i64 (xb : Nat)] 90)).cell? ⟨W.heap.size, 1, none⟩ = some (.int .i64 (h : Nat)) := by rw [HWb.out, HBPE.out]; exact HC0.out.1
  clear hbp
  go_wp2_with fail
  rw [HWb.out, HBPE.out]
  clear p1
  go_loopw [17] (fun ix wr => ∃ c nn : Nat, c ≤ M ∧ nn ≤ 4 * c ∧ ix = .int .i64 (c : Nat) ∧ holdsF t h want col xa xb acc (M - c) c nn = HF ∧ TB wr g (some ⟨ab, ao, none⟩) 512 cT (k + nn) ∧ Wb.grownBy wr (some g)) (fun ix _ => M - (intOf ix).toNat)
  case atStart => exact ⟨0, 0, by omega, by omega, rfl, HHF.out, HZb.out, grown_refl _ _⟩
  case round =>
    obtain ⟨c, nn, hc, hnn, rfl, hrun, hz, hg⟩ := hrel
    have HG := Lib.hid hg
    have HZ2 := Lib.hid hz
    clear hg hz HHF
    generalize wr = wo at *
    by_cases hcM : c < M
    · obtain ⟨m, hm⟩ : ∃ m, M - c = m + 1 := ⟨M - c - 1, by omega⟩
      have hm2 : M - (c + 1) = m := by omega
      rw [hm] at hrun
      unfold holdsF at hrun
      rw [← hm2] at hrun
      have c1 : (c : Int) < (M : Int) := by omega
      have c0 : (0 : Int) ≤ (c : Int) := by omega
      have hll := (looksF_le t xa xb c want h 0).2
      have hC := fun (w : World) (hT : RK .i64 w (some ⟨ab, ao, none⟩) 512 t) (hz : TB w g (some ⟨ab, ao, none⟩) 512 cT (k + nn)) => jmakes_any g ab ao cT t (k + nn) h xa xb c want w hne hT hz (by omega) hh ha hb (by omega) hw
      obtain ⟨lk, lb, hlk⟩ : ∃ lk lb, looksF t xa xb c want h 0 = (lk, lb) := ⟨_, _, rfl⟩
      rw [hlk] at hrun hll hC
      simp only at hrun hll hC
      have HC := Lib.hid hC
      have cg : ∀ {p : Addr} {v : Value}, Wb.cell? p = some v → p.block ≠ g → wo.cell? p = some v := fun h hn => grown_cell HG.out hn h
      have z1 := cg HC0.out.1 HBP.out.1
      have x0 := cg HC0.out.2.1 HBP.out.2
      have x1 := cg HC0.out.2.2.1 HBP.out.2
      have x2 := cg HC0.out.2.2.2.1 HBP.out.2
      have y0 := cg HC0.out.2.2.2.2 hnc
      have HS0 : Hid (wo.drew.cell? ⟨bp, 1, none⟩ = some (.int .i64 (h : Nat)) ∧ wo.drew.cell? ⟨bp + 1, 0, none⟩ = some (.int .i64 (col : Nat)) ∧ wo.drew.cell? ⟨bp + 1, 1, none⟩ = some (.int .i64 (xa : Nat)) ∧ wo.drew.cell? ⟨bp + 1, 2, none⟩ = some (.int .i64 (xb : Nat)) ∧ wo.drew.cell? ⟨cb0, co + col, none⟩ = some (.int .i64 (want : Nat))) := ⟨z1, x0, x1, x2, y0⟩
      have HTr : Hid (RK .i64 wo.drew (some ⟨ab, ao, none⟩) 512 t) := (rk_grown HTb.out HG.out hne).up (Below.drew (bnil wo))
      have HZr : Hid (TB wo.drew g (some ⟨ab, ao, none⟩) 512 cT (k + nn)) := HZ2.out
      have co0 : (0 : Int) ≤ (col : Int) := by omega
      have co1 : (col : Int) < (nC : Int) := by omega
      clear hC hlk hm hm2 z1 x0 x1 x2 y0 cg
      cases lb with
      | false =>
        rw [if_neg (fun h => by cases h.1)] at hrun
        have HRUN := Lib.hid hrun
        clear hrun
        go_wp2_with fail
        go_region_held3 (fun w' => w'.cell? ⟨bp, 1, none⟩ = some (.int .i64 (h : Nat)) ∧ w'.cell? ⟨bp + 1, 0, none⟩ = some (.int .i64 (col : Nat)) ∧ w'.cell? ⟨bp + 1, 1, none⟩ = some (.int .i64 (xa : Nat)) ∧ w'.cell? ⟨bp + 1, 2, none⟩ = some (.int .i64 (xb : Nat)) ∧ w'.cell? ⟨cb0, co + col, none⟩ = some (.int .i64 (want : Nat)))
          (first | with_reducible exact HS5.out | with_reducible exact HS0.out | go_keep)
          (first | (go_at_call 111; refine (HC.out _ HTr.out HZr.out).mono ?_; rintro e w5 ⟨rfl, hz5, hg5⟩; have HZ5 := Lib.hid hz5; have HG5 := Lib.hid hg5; have HS5 := Lib.hid (And.intro (grown_cell hg5 HBP.out.1 HS0.out.1) (And.intro (grown_cell hg5 HBP.out.2 HS0.out.2.1) (And.intro (grown_cell hg5 HBP.out.2 HS0.out.2.2.1) (And.intro (grown_cell hg5 HBP.out.2 HS0.out.2.2.2.1) (grown_cell hg5 hnc HS0.out.2.2.2.2))))); clear hz5 hg5))
        all_goals
          have HG6 : Hid (Wb.grownBy w5 (some g)) := grown_trans (grown_drew HG.out) HG5.out
          have HZ6 : Hid (TB w5 g (some ⟨ab, ao, none⟩) 512 cT (k + (nn + lk))) := by show TB _ _ _ _ _ _; rw [← Nat.add_assoc]; exact HZ5.out
          clear HC
          go_wp2
          go_roundw
          case rel => exact ⟨c + 1, nn + lk, by omega, by omega, by go_num, HRUN.out, HZ6.out, HG6.out⟩
          case measure => simp [intOf]; omega
      | true =>
        go_wp2_with fail
        go_region_held3 (fun w' => w'.cell? ⟨bp, 1, none⟩ = some (.int .i64 (h : Nat)) ∧ w'.cell? ⟨bp + 1, 0, none⟩ = some (.int .i64 (col : Nat)) ∧ w'.cell? ⟨bp + 1, 1, none⟩ = some (.int .i64 (xa : Nat)) ∧ w'.cell? ⟨bp + 1, 2, none⟩ = some (.int .i64 (xb : Nat)) ∧ w'.cell? ⟨cb0, co + col, none⟩ = some (.int .i64 (want : Nat)))
          (first | with_reducible exact HS5.out | with_reducible exact HS0.out | go_keep)
          (first | (go_at_call 111; refine (HC.out _ HTr.out HZr.out).mono ?_; rintro e w5 ⟨rfl, hz5, hg5⟩; have HZ5 := Lib.hid hz5; have HG5 := Lib.hid hg5; have HS5 := Lib.hid (And.intro (grown_cell hg5 HBP.out.1 HS0.out.1) (And.intro (grown_cell hg5 HBP.out.2 HS0.out.2.1) (And.intro (grown_cell hg5 HBP.out.2 HS0.out.2.2.1) (And.intro (grown_cell hg5 HBP.out.2 HS0.out.2.2.2.1) (grown_cell hg5 hnc HS0.out.2.2.2.2))))); clear hz5 hg5))
        all_goals
          have HG6 : Hid (Wb.grownBy w5 (some g)) := grown_trans (grown_drew HG.out) HG5.out
          have HZ6 : Hid (TB w5 g (some ⟨ab, ao, none⟩) 512 cT (k + (nn + lk))) := by show TB _ _ _ _ _ _; rw [← Nat.add_assoc]; exact HZ5.out
          have HM6 : Hid (MapE w5 mb n acc) := mapE_grown HMb.out HG6.out hnm
          have q0 := HS5.out.2.1
          have q2 := HS5.out.2.2.2.1
          have hwf : Wf3 (((col + 1 : Nat) : Int), (xb : Int), (c : Int)) := wf3N (by omega) (by omega) (by omega)
          have hkey := key_ent _ hwf
          have hhas := has_setE HAC.out hwf
          have ecol : ((col + 1 : Nat) : Int) = (col : Int) + 1 := by omega
          rw [ecol] at hkey hhas hwf hrun
          have colw : IntKind.i64.wrap ((col : Int) + 1) = (col : Int) + 1 := IntWalk.i64_in _ (by omega)
          clear HC hwf ecol
          by_cases hmem : ((col : Int) + 1, (xb : Int), (c : Int)) ∈ acc
          · rw [decide_eq_true hmem] at hhas
            rw [if_neg (fun h => h.2 hmem)] at hrun
            have HKEY := Lib.hid (And.intro hkey hhas)
            have HRUN := Lib.hid hrun
            clear hkey hhas hrun hmem
            go_wp2_with (first
              | (at_lookup; refine wpList_lookup_own_unit _ rfl _ _ 142 rfl 90 144 lawE Tryd.underlying142 (unit_zero _) mb n (setE acc) rfl HM6.out _ _ rfl HKEY.out.1 ?_; rw [HKEY.out.2]))
            have HG7 : Hid (Wb.grownBy (w5.alloc (.cells #[] 144)) (some g)) := grown_alloc _ HG6.out
            have HZ7 : Hid (TB (w5.alloc (.cells #[] 144)) g (some ⟨ab, ao, none⟩) 512 cT (k + (nn + lk))) := ((balloc (bnil w5) _).block g (heap_ltT HZ6.out)).trans HZ6.out
            go_roundw
            case rel => exact ⟨c + 1, nn + lk, by omega, by omega, by go_num, HRUN.out, HZ7.out, HG7.out⟩
            case measure => simp [intOf]; omega
          · rw [decide_eq_false hmem] at hhas
            rw [if_pos ⟨trivial, hmem⟩] at hrun
            have HKEY := Lib.hid (And.intro hkey hhas)
            have HRUN := Lib.hid hrun
            clear hkey hhas hrun hmem
            go_wp2_with (first
              | (at_lookup; refine wpList_lookup_own_unit _ rfl _ _ 142 rfl 90 144 lawE Tryd.underlying142 (unit_zero _) mb n (setE acc) rfl HM6.out _ _ rfl HKEY.out.1 ?_; rw [HKEY.out.2]))
            have HG7 : Hid (Wb.grownBy (w5.alloc (.cells #[] 144)) (some g)) := grown_alloc _ HG6.out
            have HZ7 : Hid (TB (w5.alloc (.cells #[] 144)) g (some ⟨ab, ao, none⟩) 512 cT (k + (nn + lk))) := ((balloc (bnil w5) _).block g (heap_ltT HZ6.out)).trans HZ6.out
            go_ret
            rw [← HRUN.out]
            exact ⟨rfl, HZ7.out, grown_trans HGb.out HG7.out⟩
    · obtain rfl : c = M := by omega
      rw [Nat.sub_self] at hrun
      have HRUN := Lib.hid hrun
      clear hrun
      go_wp2
      go_ret
      rw [← HRUN.out]
      exact ⟨rfl, HZ2.out, grown_trans HGb.out HG.out⟩
end Go.Proofs.YtoaooblodgejdaaDoor
namespace Go.Proofs.YtoaooblodgejdaaDoor
open Go.RowKit
set_option linter.unusedVariables false
set_option maxRecDepth 100000

/-- the fault of the table, of the patch, of its size -/
def gvD (t : List Int) (w h : Int) (l : List Int) : ErrD := match tabD t with
  | some e => some ((opJudge, 0) :: e.1, e.2)
  | none => match patchErr w h l with
    | some y => some ([(opJudge, 1), (opPatch, y.1)], y.2)
    | none => if 8 < w then some ([(opJudge, 1)], 4) else if 4 < h then some ([(opJudge, 2)], 4) else none
theorem gvD_none {t : List Int} {w h : Int} {l : List Int} (hd : gvD t w h l = none) : ∃ w' h' : Nat, w = w' ∧ h = h' ∧ IsPatch w' h' l ∧ IsTab t ∧ w' ≤ 8 ∧ h' ≤ 4 := by
  unfold gvD at hd
  cases ht : tabD t with
  | some e => rw [ht] at hd; cases hd
  | none =>
    rw [ht] at hd
    cases hp : patchErr w h l with
    | some y => rw [hp] at hd; cases hd
    | none =>
      rw [hp] at hd
      obtain ⟨w', h', rfl, rfl, hpp⟩ := patchErr_none hp
      simp only at hd
      split at hd
      · cases hd
      · split at hd
        · cases hd
        · exact ⟨w', h', rfl, rfl, hpp, tabD_none ht, by omega, by omega⟩
def ErrRet (R : Nat → Addr) (W : World) (x : ErrD) (e : Ending) (w' : World) : Prop := ∃ ev, e = .returned ev ∧ EC R w' ev x ∧ Below W.heap.size W w'
set_option maxHeartbeats 16000000 in
theorem jgiven_any (w h : Int) (a aT : Option Addr) (n c nT cT : Nat) (l t : List Int) (W : World) (R : Nat → Addr) (hS : Sent W R) (hR : RK .i64 W a n l) (hm : n ≤ maxLen) (hx : I64 l) (hT : RK .i64 W aT nT t) (hmT : nT ≤ maxLen) :
    Calls Tryd.prog 86 #[.slice aT nT cT, patV w h a n c] W (ErrRet R W (gvD t w h l)) := by
  have T0 := Tk.nil W
  have T1 := T0.add (fun wv => Below W.heap.size W wv) (bnil W)
  clear T0
  have T2 := T1.add (fun wv => Sent wv R) (hS)
  clear T1
  have T3 := T2.add (fun wv => RK .i64 wv a n l) (hR)
  clear T2
  have T4 := T3.add (fun wv => RK .i64 wv aT nT t) (hT)
  clear T3
  have HI6 := Lib.hid hx
  clear hS hR hT hx
  obtain ⟨Wb, hWb⟩ : ∃ Wb, W.alloc (.cells #[.int .i64 w, .int .i64 h, .slice a n c] 24) = Wb := ⟨_, rfl⟩
  have hbWb : Below W.heap.size W Wb := by rw [← hWb]; exact balloc (bnil W) _
  have T5 := T4.up hbWb
  clear T4
  have T6 := T5.add (fun wv => wv.cell? ⟨W.heap.size, 0, none⟩ = some (.int .i64 w) ∧ wv.cell? ⟨W.heap.size, 1, none⟩ = some (.int .i64 h) ∧ wv.cell? ⟨W.heap.size, 2, none⟩ = some (.slice a n c)) (by rw [← hWb]; exact ⟨cnw (by simp) rfl, cnw (by simp) rfl, cnw (by simp) rfl⟩)
  clear T5
  have HWb := Lib.hid hWb
  clear hWb hbWb
  cases htd : tabD t with
  | some y0 =>
    have hod : gvD t w h l = some ((opJudge, 0) :: y0.1, y0.2) := by unfold gvD; rw [htd]
    have HOD := Lib.hid hod
    have htn : tabD t ≠ none := by rw [htd]; exact nofun
    have HTN := Lib.hid htn
    have HTD := Lib.hid htd
    clear hod htn htd
    go_enter Tryd.func86, Tryd.ntmps86
    go_wp2_with fail
    rw [HWb.out]
    refine (plcheck_er aT nT cT t Wb R T6.out.1.1.1.2 T6.out.1.2 hmT HTN.out).mono ?_; rintro e w1 ⟨g, rfl, he, hbw1⟩
    have T7 := T6.up hbw1
    clear T6
    rw [HTD.out] at he
    obtain ⟨es0, n0⟩ := y0
    have HE := Lib.hid he
    clear he
    go_wp2_with fail
    refine (plunder _ _ _ _ _).mono ?_; rintro e w2 ⟨rfl, hw3⟩
    have hb3 : Below w1.heap.size w1 w2 := by rw [hw3]; exact balloc (bnil w1) _
    have he3 : EC R w2 (.iface 124 (.pointer (some ⟨w1.heap.size, 0, none⟩))) (some ((opJudge, 0) :: es0, n0)) := by rw [hw3]; exact ec_under opJudge 0 HE.out
    clear hw3
    have T8 := T7.up hb3
    clear T7
    have HE3 := Lib.hid he3
    clear hb3 he3
    go_wp2
    go_ret
    rw [HOD.out]
    exact ⟨_, rfl, HE3.out, T8.out.1.1.1.1.2⟩
  | none =>
    have HT := Lib.hid (tabD_none htd)
    cases hpe : patchErr w h l with
    | some y =>
      have hod : gvD t w h l = some ([(opJudge, 1), (opPatch, y.1)], y.2) := by unfold gvD; rw [htd, hpe]
      have HOD := Lib.hid hod
      have HPE := Lib.hid hpe
      clear hod htd hpe
      go_enter Tryd.func86, Tryd.ntmps86
      go_wp2_with fail
      rw [HWb.out]
      refine (plcheck_ok aT nT cT t Wb R T6.out.1.1.1.2 T6.out.1.2 hmT HT.out).mono ?_; rintro e w1 ⟨rfl, hbw1⟩
      have T7 := T6.up hbw1
      clear T6
      have v_p0 : w1.cell? ⟨W.heap.size, 0, none⟩ = some (.int .i64 w) := T7.out.2.1
      have v_p1 : w1.cell? ⟨W.heap.size, 1, none⟩ = some (.int .i64 h) := T7.out.2.2.1
      have v_p2 : w1.cell? ⟨W.heap.size, 2, none⟩ = some (.slice a n c) := T7.out.2.2.2
      go_wp2_with fail
      refine (pcheck_er w h a n c l w1 R T7.out.1.1.1.2 T7.out.1.1.2 hm HI6.out y HPE.out).mono ?_; rintro e w2 ⟨g, rfl, he, hbw2⟩
      clear v_p0 v_p1 v_p2
      have T8 := T7.up hbw2
      clear T7
      have HE := Lib.hid he
      clear he
      go_wp2_with fail
      refine (plunder _ _ _ _ _).mono ?_; rintro e w3 ⟨rfl, hw3⟩
      have hb3 : Below w2.heap.size w2 w3 := by rw [hw3]; exact balloc (bnil w2) _
      have he3 : EC R w3 (.iface 124 (.pointer (some ⟨w2.heap.size, 0, none⟩))) (some ([(opJudge, 1), (opPatch, y.1)], y.2)) := by rw [hw3]; exact ec_under opJudge 1 HE.out
      clear hw3
      have T9 := T8.up hb3
      clear T8
      have HE3 := Lib.hid he3
      clear hb3 he3
      go_wp2
      go_ret
      rw [HOD.out]
      exact ⟨_, rfl, HE3.out, T9.out.1.1.1.1.2⟩
    | none =>
      obtain ⟨w, h, rfl, rfl, hp⟩ := patchErr_none hpe
      have HPP := Lib.hid hp
      have hgv : gvD t (w : Int) (h : Int) l = if 8 < (w : Int) then some ([(opJudge, 1)], 4) else if 4 < (h : Int) then some ([(opJudge, 2)], 4) else none := by unfold gvD; rw [htd, hpe]
      have HGV := Lib.hid hgv
      clear htd hpe hp hgv
      by_cases hw8 : 8 < (w : Int)
      · skip
        have HOD := Lib.hid (HGV.out.trans (if_pos hw8))
        go_enter Tryd.func86, Tryd.ntmps86
        go_wp2_with fail
        rw [HWb.out]
        refine (plcheck_ok aT nT cT t Wb R T6.out.1.1.1.2 T6.out.1.2 hmT HT.out).mono ?_; rintro e w1 ⟨rfl, hbw1⟩
        have T7 := T6.up hbw1
        clear T6
        have v_p0 : w1.cell? ⟨W.heap.size, 0, none⟩ = some (.int .i64 w) := T7.out.2.1
        have v_p1 : w1.cell? ⟨W.heap.size, 1, none⟩ = some (.int .i64 h) := T7.out.2.2.1
        have v_p2 : w1.cell? ⟨W.heap.size, 2, none⟩ = some (.slice a n c) := T7.out.2.2.2
        go_wp2_with fail
        refine (pcheck_ok w h a n c l w1 R T7.out.1.1.1.2 T7.out.1.1.2 hm HI6.out HPP.out).mono ?_; rintro e w2 ⟨rfl, hbw2⟩
        clear v_p0 v_p1 v_p2
        have T8 := T7.up hbw2
        clear T7
        have v_p0 : w2.cell? ⟨W.heap.size, 0, none⟩ = some (.int .i64 w) := T8.out.2.1
        have v_p1 : w2.cell? ⟨W.heap.size, 1, none⟩ = some (.int .i64 h) := T8.out.2.2.1
        have v_p2 : w2.cell? ⟨W.heap.size, 2, none⟩ = some (.slice a n c) := T8.out.2.2.2
        go_wp2_with fail
        refine (judge_wrong _ _ _ R (T8.out.1.1.1.2).glob rfl).mono ?_; rintro e w3 ⟨rfl, hw3⟩
        have hb3 : Below w2.heap.size w2 w3 := by rw [hw3]; exact balloc (bnil w2) _
        have he3 : EC R w3 (.iface 124 (.pointer (some ⟨w2.heap.size, 0, none⟩))) (some ([(opJudge, 1)], 4)) := by rw [hw3]; exact ec_err ((T8.out.1.1.1.2).up (balloc (bnil w2) (faultObj opJudge 1 (.iface 190 (.pointer (some (R (rix 4)))))))) (isErr_new (Nat.le_refl _))
        clear hw3
        clear v_p0 v_p1 v_p2
        have T9 := T8.up hb3
        clear T8
        have HE3 := Lib.hid he3
        clear hb3 he3
        go_wp2
        go_ret
        rw [HOD.out]
        exact ⟨_, rfl, HE3.out, T9.out.1.1.1.1.2⟩
      by_cases hh4 : 4 < (h : Int)
      · skip
        have HOD := Lib.hid (HGV.out.trans ((if_neg hw8).trans (if_pos hh4)))
        go_enter Tryd.func86, Tryd.ntmps86
        go_wp2_with fail
        rw [HWb.out]
        refine (plcheck_ok aT nT cT t Wb R T6.out.1.1.1.2 T6.out.1.2 hmT HT.out).mono ?_; rintro e w1 ⟨rfl, hbw1⟩
        have T7 := T6.up hbw1
        clear T6
        have v_p0 : w1.cell? ⟨W.heap.size, 0, none⟩ = some (.int .i64 w) := T7.out.2.1
        have v_p1 : w1.cell? ⟨W.heap.size, 1, none⟩ = some (.int .i64 h) := T7.out.2.2.1
        have v_p2 : w1.cell? ⟨W.heap.size, 2, none⟩ = some (.slice a n c) := T7.out.2.2.2
        go_wp2_with fail
        refine (pcheck_ok w h a n c l w1 R T7.out.1.1.1.2 T7.out.1.1.2 hm HI6.out HPP.out).mono ?_; rintro e w2 ⟨rfl, hbw2⟩
        clear v_p0 v_p1 v_p2
        have T8 := T7.up hbw2
        clear T7
        have v_p0 : w2.cell? ⟨W.heap.size, 0, none⟩ = some (.int .i64 w) := T8.out.2.1
        have v_p1 : w2.cell? ⟨W.heap.size, 1, none⟩ = some (.int .i64 h) := T8.out.2.2.1
        have v_p2 : w2.cell? ⟨W.heap.size, 2, none⟩ = some (.slice a n c) := T8.out.2.2.2
        go_wp2_with fail
        refine (judge_wrong _ _ _ R (T8.out.1.1.1.2).glob rfl).mono ?_; rintro e w3 ⟨rfl, hw3⟩
        have hb3 : Below w2.heap.size w2 w3 := by rw [hw3]; exact balloc (bnil w2) _
        have he3 : EC R w3 (.iface 124 (.pointer (some ⟨w2.heap.size, 0, none⟩))) (some ([(opJudge, 2)], 4)) := by rw [hw3]; exact ec_err ((T8.out.1.1.1.2).up (balloc (bnil w2) (faultObj opJudge 2 (.iface 190 (.pointer (some (R (rix 4)))))))) (isErr_new (Nat.le_refl _))
        clear hw3
        clear v_p0 v_p1 v_p2
        have T9 := T8.up hb3
        clear T8
        have HE3 := Lib.hid he3
        clear hb3 he3
        go_wp2
        go_ret
        rw [HOD.out]
        exact ⟨_, rfl, HE3.out, T9.out.1.1.1.1.2⟩
      have HOD := Lib.hid (HGV.out.trans ((if_neg hw8).trans (if_neg hh4)))
      go_enter Tryd.func86, Tryd.ntmps86
      go_wp2_with fail
      rw [HWb.out]
      refine (plcheck_ok aT nT cT t Wb R T6.out.1.1.1.2 T6.out.1.2 hmT HT.out).mono ?_; rintro e w1 ⟨rfl, hbw1⟩
      have T7 := T6.up hbw1
      clear T6
      have v_p0 : w1.cell? ⟨W.heap.size, 0, none⟩ = some (.int .i64 w) := T7.out.2.1
      have v_p1 : w1.cell? ⟨W.heap.size, 1, none⟩ = some (.int .i64 h) := T7.out.2.2.1
      have v_p2 : w1.cell? ⟨W.heap.size, 2, none⟩ = some (.slice a n c) := T7.out.2.2.2
      go_wp2_with fail
      refine (pcheck_ok w h a n c l w1 R T7.out.1.1.1.2 T7.out.1.1.2 hm HI6.out HPP.out).mono ?_; rintro e w2 ⟨rfl, hbw2⟩
      clear v_p0 v_p1 v_p2
      have T8 := T7.up hbw2
      clear T7
      have v_p0 : w2.cell? ⟨W.heap.size, 0, none⟩ = some (.int .i64 w) := T8.out.2.1
      have v_p1 : w2.cell? ⟨W.heap.size, 1, none⟩ = some (.int .i64 h) := T8.out.2.2.1
      have v_p2 : w2.cell? ⟨W.heap.size, 2, none⟩ = some (.slice a n c) := T8.out.2.2.2
      go_wp2
      go_ret
      rw [HOD.out]
      exact ⟨_, rfl, rfl, T8.out.1.1.1.1.2⟩

/-- the looks and the end of a certificate that is gone through: entries to come, the number of the first of them, those that came, the unlike ones of column 0 among them, the looks so far; m: how many columns -/
def judgeRun (t cols : List Int) (h m : Nat) : List (Int × Int × Int) → Nat → List (Int × Int × Int) → Nat → Nat → Nat × Option Nat
  | [], i, acc, first, n => if first < m * m then (n, some (4 + i)) else (n, none)
  | x :: r, i, acc, first, n => if (holdsF t h (cols.getD x.1.toNat 0).toNat x.1.toNat x.2.1.toNat x.2.2.toNat acc m 0 0).2 = true
      then judgeRun t cols h m r (i + 1) (acc ++ [x]) (first + if ¬ x ∈ acc ∧ x.1 = 0 then 1 else 0) (n + (holdsF t h (cols.getD x.1.toNat 0).toNat x.1.toNat x.2.1.toNat x.2.2.toNat acc m 0 0).1)
      else (n + (holdsF t h (cols.getD x.1.toNat 0).toNat x.1.toNat x.2.1.toNat x.2.2.toNat acc m 0 0).1, some (4 + i))
/-- what Judge tells: the looks, the fault -/
def judgeF (t : List Int) (w h : Int) (l bs : List Int) : Nat × ErrD := match gvD t w h l with
  | some e => (0, some e)
  | none => match decF bs with
    | .error y => (0, some ([(opJudge, 2), (opCert, y.1)], y.2))
    | .ok z => if z.1 ≠ w ∨ z.2.1 ≠ h then (0, some ([(opJudge, 3)], 8)) else
      match judgeRun t (colL w.toNat h.toNat l) h.toNat (4 * 2 ^ h.toNat) z.2.2 0 [] 0 0 with
      | (n, some at_) => (n, some ([(opJudge, (at_ : Int))], 8))
      | (n, none) => (n, none)
/-- an entry fits a certificate's size -/
structure Fit3 (w m : Nat) (x : Int × Int × Int) : Prop where
  a0 : 0 ≤ x.1
  a1 : x.1 < w
  b0 : 0 ≤ x.2.1
  b1 : x.2.1 < m
  c0 : 0 ≤ x.2.2
  c1 : x.2.2 < m
theorem entsOf_fit {w m : Nat} : ∀ (k : Nat) (l : List Int), l.length = 3 * k → (∀ j, j < l.length → 0 ≤ l.getD j 0 ∧ l.getD j 0 < (if j % 3 = 0 then (w : Int) else (m : Int))) → ∀ x ∈ entsOf l, Fit3 w m x
  | 0, l, hl, _ => by
    match l, hl with
    | [], _ => intro x hx; cases hx
  | k + 1, l, hl, h => by
    match l, hl with
    | a :: b :: c :: r, hl =>
      have hr : r.length = 3 * k := by simp at hl; omega
      have ih := entsOf_fit k r hr (fun j hj => by
        have := h (j + 3) (by simp; omega)
        have e : (j + 3) % 3 = j % 3 := by omega
        rw [e] at this
        simpa using this)
      intro x hx
      have hx2 : x = (a, b, c) ∨ x ∈ entsOf r := by simpa [entsOf] using hx
      rcases hx2 with rfl | hx2
      · have h0 := h 0 (by simp)
        have h1 := h 1 (by simp)
        have h2 := h 2 (by simp)
        simp at h0 h1 h2
        exact ⟨h0.1, h0.2, h1.1, h1.2, h2.1, h2.2⟩
      · exact ih x hx2
    | [_], hl => simp at hl; omega
    | [_, _], hl => simp at hl; omega
    | [], hl => simp at hl
end Go.Proofs.YtoaooblodgejdaaDoor
namespace Go.Proofs.YtoaooblodgejdaaDoor
open Go.RowKit
set_option linter.unusedVariables false
set_option maxRecDepth 100000

theorem firstBad_all {bs : List Int} (h : firstBad bs = none) : ∀ i, i < bs.length → okAt bs i = true := by
  intro i hi
  unfold firstBad at h
  have := List.find?_eq_none.1 h i (List.mem_range.2 hi)
  simpa using this
theorem getD_any {bs : List Int} {i : Nat} (hi : i < bs.length) (d : Int) : bs.getD i d = bs.getD i 0 := by simp [hi]
theorem okAt_bd {bs : List Int} {i : Nat} (h : okAt bs i = true) : (lim i (bW bs i) (bH bs i)).1 ≤ bs.getD i 0 ∧ bs.getD i 0 ≤ (lim i (bW bs i) (bH bs i)).2 := by
  unfold okAt at h
  rw [Bool.and_eq_true, decide_eq_true_iff, decide_eq_true_iff] at h
  exact h
theorem most_nat (h : Nat) : most (h : Int) = ((4 * 2 ^ h : Nat) : Int) := by
  unfold most
  rw [Int.toNat_natCast, Int.natCast_mul, Int.natCast_pow]
  rfl
theorem dec_ok {bs : List Int} {cw ch : Int} {L : List (Int × Int × Int)} (hd : decF bs = .ok (cw, ch, L)) :
    ∃ w h : Nat, cw = (w : Int) ∧ ch = (h : Int) ∧ 1 ≤ w ∧ w ≤ 8 ∧ 1 ≤ h ∧ h ≤ 4 ∧ (∀ x ∈ L, Fit3 w (4 * 2 ^ h) x) ∧ 3 * L.length + 4 = bs.length ∧ bs.length ≤ 131072 := by
  unfold decF at hd
  split at hd
  · cases hd
  rename_i hbig
  cases hf : firstBad bs with
  | some i => rw [hf] at hd; cases hd
  | none =>
    rw [hf] at hd
    simp only at hd
    split at hd
    · cases hd
    rename_i hlen
    cases hd
    have hok := firstBad_all hf
    have hl4 : 4 ≤ bs.length := by omega
    have hl3 : ((bs.length : Int) - 4) % 3 = 0 := by omega
    have h2 := okAt_bd (hok 2 (by omega))
    have h3 := okAt_bd (hok 3 (by omega))
    have e2 : lim ((2 : Nat) : Int) (bW bs 2) (bH bs 2) = (1, 8) := rfl
    have e3 : lim ((3 : Nat) : Int) (bW bs 3) (bH bs 3) = (1, 4) := rfl
    rw [e2] at h2
    rw [e3] at h3
    simp only at h2 h3
    rw [getD_any (i := 2) (by omega) 1, getD_any (i := 3) (by omega) 1]
    obtain ⟨w, hw⟩ : ∃ w : Nat, bs.getD 2 0 = (w : Int) := ⟨(bs.getD 2 0).toNat, by omega⟩
    obtain ⟨h, hh⟩ : ∃ h : Nat, bs.getD 3 0 = (h : Int) := ⟨(bs.getD 3 0).toNat, by omega⟩
    rw [hw] at h2
    rw [hh] at h3
    obtain ⟨k, hk⟩ : ∃ k, bs.length = 3 * k + 4 := ⟨(bs.length - 4) / 3, by omega⟩
    have hdl : (bs.drop 4).length = 3 * k := by rw [List.length_drop]; omega
    refine ⟨w, h, hw, hh, by omega, by omega, by omega, by omega, entsOf_fit k (bs.drop 4) hdl fun j hj => ?_, ?_, by omega⟩
    · rw [hdl] at hj
      have hb := okAt_bd (hok (4 + j) (by omega))
      have eg : (bs.drop 4).getD j 0 = bs.getD (4 + j) 0 := by simp
      have ew : bW bs (4 + j) = (w : Int) := by unfold bW; rw [if_pos (by omega), getD_any (by omega), hw]
      have eh : bH bs (4 + j) = (h : Int) := by unfold bH; rw [if_pos (by omega), getD_any (by omega), hh]
      have el : lim (((4 + j : Nat)) : Int) (w : Int) (h : Int) = if j % 3 = 0 then (0, (w : Int) - 1) else (0, most (h : Int) - 1) := by
        unfold lim
        rw [if_neg (by omega), if_neg (by omega), if_neg (by omega), if_neg (by omega)]
        by_cases hj3 : j % 3 = 0
        · rw [if_pos (by omega), if_pos hj3]
        · rw [if_neg (by omega), if_neg hj3]
      rw [ew, eh, el] at hb
      rw [eg]
      by_cases hj3 : j % 3 = 0
      · rw [if_pos hj3] at hb ⊢
        simp only at hb
        omega
      · rw [if_neg hj3] at hb ⊢
        rw [most_nat] at hb
        simp only at hb
        omega
    · rw [entsOf_len k _ hdl]; omega
end Go.Proofs.YtoaooblodgejdaaDoor
namespace Go.Proofs.YtoaooblodgejdaaDoor
open Go.RowKit
set_option linter.unusedVariables false
set_option maxRecDepth 100000

theorem columns_okJ (w h : Nat) (a : Option Addr) (n c : Nat) (l : List Int) (W : World) (R : Nat → Addr) (hS : Sent W R) (hR : RK .i64 W a n l) (hm : n ≤ maxLen) (hx : I64 l) (hp : IsPatch w h l) (h16 : h ≤ 16) :
    Calls Tryd.prog 57 #[patV w h a n c] W fun e w' => ∃ g c', e = .returned (.tuple #[.slice (some ⟨g, 0, none⟩) w c', .nilIface]) ∧ RK .i64 w' (some ⟨g, 0, none⟩) w (colL w h l) ∧ Below W.heap.size W w' := by
  have hd : colD (w : Int) (h : Int) l = none := by unfold colD; rw [patchErr_of hp]; exact if_neg (by omega)
  have ho : colO (w : Int) (h : Int) l = colL w h l := by unfold colO; rw [hd]; rfl
  refine (columns_any w h a n c l W R hS hR hm hx).mono ?_
  rw [hd, ho]
  rintro e w' ⟨a1, n1, c1, ev, rfl, h1, h2, hb⟩
  obtain rfl : n1 = w := by rw [h1.rk.len, colL_len]
  obtain ⟨g, rfl, _, _⟩ := own_form h1.own hp.w1
  obtain rfl : ev = .nilIface := h2
  exact ⟨g, c1, rfl, h1.rk, hb⟩
def JRet (R : Nat → Addr) (W : World) (y : Nat × ErrD) (e : Ending) (w' : World) : Prop := ∃ ev, e = .returned (.tuple #[.int .i64 (y.1 : Nat), ev]) ∧ EC R w' ev y.2 ∧ Below W.heap.size W w'
def jrE (x : Nat × Option Nat) : Nat × ErrD := (x.1, match x.2 with | some a => some ([(opJudge, (a : Int))], 8) | none => none)
theorem judgeF_gv {t : List Int} {w h : Int} {l bs : List Int} {e : List (ByteArray × Int) × Int} (hg : gvD t w h l = some e) : judgeF t w h l bs = (0, some e) := by unfold judgeF; rw [hg]
theorem judgeF_er {t : List Int} {w h : Int} {l bs : List Int} {y : Int × Int} (hg : gvD t w h l = none) (hd : decF bs = .error y) : judgeF t w h l bs = (0, some ([(opJudge, 2), (opCert, y.1)], y.2)) := by unfold judgeF; rw [hg, hd]
theorem judgeF_sz {t : List Int} {w h cw ch : Int} {l bs : List Int} {L : List (Int × Int × Int)} (hg : gvD t w h l = none) (hd : decF bs = .ok (cw, ch, L)) (hn : cw ≠ w ∨ ch ≠ h) : judgeF t w h l bs = (0, some ([(opJudge, 3)], 8)) := by unfold judgeF; rw [hg, hd]; exact if_pos hn
theorem judgeF_run {t : List Int} {w h : Nat} {l bs : List Int} {L : List (Int × Int × Int)} {JR : Nat × Option Nat} (hg : gvD t (w : Int) (h : Int) l = none) (hd : decF bs = .ok ((w : Int), (h : Int), L)) (hr : judgeRun t (colL w h l) h (4 * 2 ^ h) L 0 [] 0 0 = JR) :
    judgeF t (w : Int) (h : Int) l bs = jrE JR := by
  subst hr
  unfold judgeF
  rw [hg, hd]
  simp only
  rw [if_neg (by simp)]
  simp only [Int.toNat_natCast]
  generalize judgeRun t (colL w h l) h (4 * 2 ^ h) L 0 [] 0 0 = X
  obtain ⟨n, o⟩ := X
  cases o <;> rfl
theorem dec_anyJ (a : Option Addr) (c : Nat) (bs : List Int) (W : World) (R : Nat → Addr) (hG : Glob W R) (hR : RK .u8 W a bs.length bs) (hB : ∀ x ∈ bs, 0 ≤ x ∧ x ≤ 255) (hlen : bs.length ≤ maxLen) :
    Calls Tryd.prog 53 #[.slice a bs.length c] W (DecPost R bs W) := decode_any a c bs W R hG hR.2 hB hlen
theorem colL_bd {w h : Nat} {l : List Int} (hp : IsPatch w h l) (hh : h ≤ 4) {x : Nat} (hx : x < w) : (colL w h l).getD x 0 = (((colL w h l).getD x 0).toNat : Int) ∧ ((colL w h l).getD x 0).toNat < 1024 := by
  have e : (colL w h l).getD x 0 = (colV w l x h : Int) := by simp [colL, hx]
  have h1 := colV_lt hp hx h (Nat.le_refl h)
  have h2 : 2 ^ h ≤ 2 ^ 4 := Nat.pow_le_pow_right (by omega) hh
  have h3 : (2 : Nat) ^ 4 = 16 := by decide
  have h4 : colV w l x h < 16 := Nat.lt_of_lt_of_le h1 (by rw [h3] at h2; exact h2)
  rw [e, Int.toNat_natCast]
  exact ⟨rfl, by omega⟩
set_option maxHeartbeats 16000000 in
theorem judge_any (w h : Int) (a aT aB : Option Addr) (n c nT cT cB : Nat) (l t bs : List Int) (W : World) (R : Nat → Addr) (hS : Sent W R) (hR : RK .i64 W a n l) (hm : n ≤ maxLen) (hx : I64 l) (hT : RK .i64 W aT nT t) (hmT : nT ≤ maxLen) (hBs : RK .u8 W aB bs.length bs) (hBr : ∀ x ∈ bs, 0 ≤ x ∧ x ≤ 255) (hBl : bs.length ≤ maxLen) :
    Calls Tryd.prog 44 #[.slice aT nT cT, patV w h a n c, .slice aB bs.length cB] W (JRet R W (judgeF t w h l bs)) := by
  have T0 := Tk.nil W
  have T1 := T0.add (fun wv => Below W.heap.size W wv) (bnil W)
  clear T0
  have T2 := T1.add (fun wv => Sent wv R) (hS)
  clear T1
  have T3 := T2.add (fun wv => RK .i64 wv a n l) (hR)
  clear T2
  have T4 := T3.add (fun wv => RK .i64 wv aT nT t) (hT)
  clear T3
  have T5 := T4.add (fun wv => RK .u8 wv aB bs.length bs) (hBs)
  clear T4
  have HI6 := Lib.hid hx
  have HBR := Lib.hid hBr
  clear hS hR hT hBs hx hBr
  obtain ⟨Wb, hWb⟩ : ∃ Wb, W.alloc (.cells #[.int .i64 w, .int .i64 h, .slice a n c] 24) = Wb := ⟨_, rfl⟩
  have hbWb : Below W.heap.size W Wb := by rw [← hWb]; exact balloc (bnil W) _
  have T6 := T5.up hbWb
  clear T5
  have T7 := T6.add (fun wv => wv.cell? ⟨W.heap.size, 0, none⟩ = some (.int .i64 w) ∧ wv.cell? ⟨W.heap.size, 1, none⟩ = some (.int .i64 h) ∧ wv.cell? ⟨W.heap.size, 2, none⟩ = some (.slice a n c)) (by rw [← hWb]; exact ⟨cnw (by simp) rfl, cnw (by simp) rfl, cnw (by simp) rfl⟩)
  clear T6
  have HWb := Lib.hid hWb
  clear hWb hbWb
  cases hgv : gvD t w h l with
  | some e0 =>
    have HOD := Lib.hid (judgeF_gv (bs := bs) hgv)
    have HGV := Lib.hid hgv
    clear hgv
    go_enter Tryd.func44, Tryd.ntmps44
    have v_p0 : (W.alloc (.cells #[.int .i64 w, .int .i64 h, .slice a n c] 24)).cell? ⟨W.heap.size, 0, none⟩ = some (.int .i64 w) := by rw [HWb.out]; exact T7.out.2.1
    have v_p1 : (W.alloc (.cells #[.int .i64 w, .int .i64 h, .slice a n c] 24)).cell? ⟨W.heap.size, 1, none⟩ = some (.int .i64 h) := by rw [HWb.out]; exact T7.out.2.2.1
    have v_p2 : (W.alloc (.cells #[.int .i64 w, .int .i64 h, .slice a n c] 24)).cell? ⟨W.heap.size, 2, none⟩ = some (.slice a n c) := by rw [HWb.out]; exact T7.out.2.2.2
    go_wp2_with fail
    rw [HWb.out]
    refine (jgiven_any w h a aT n c nT cT l t Wb R T7.out.1.1.1.1.2 T7.out.1.1.1.2 hm HI6.out T7.out.1.1.2 hmT).mono ?_; rintro e w1 ⟨ev, rfl, he, hbw1⟩
    clear v_p0 v_p1 v_p2
    have T8 := T7.up hbw1
    clear T7
    rw [HGV.out] at he
    have HE := Lib.hid he
    obtain ⟨t9, p9, rfl⟩ := Chain.iface he
    clear he
    go_wp2
    go_ret2
    rw [HOD.out]
    exact ⟨_, rfl, HE.out, T8.out.1.1.1.1.1.2⟩
  | none =>
    obtain ⟨w, h, rfl, rfl, hp, ht, hw8, hh4⟩ := gvD_none hgv
    have HPP := Lib.hid hp
    have HTT := Lib.hid ht
    have HGV := Lib.hid hgv
    clear hgv hp ht
    obtain rfl : nT = 512 := (T7.out.1.1.2).len.trans HTT.out.len
    go_enter Tryd.func44, Tryd.ntmps44
    have v_p0 : (W.alloc (.cells #[.int .i64 w, .int .i64 h, .slice a n c] 24)).cell? ⟨W.heap.size, 0, none⟩ = some (.int .i64 w) := by rw [HWb.out]; exact T7.out.2.1
    have v_p1 : (W.alloc (.cells #[.int .i64 w, .int .i64 h, .slice a n c] 24)).cell? ⟨W.heap.size, 1, none⟩ = some (.int .i64 h) := by rw [HWb.out]; exact T7.out.2.2.1
    have v_p2 : (W.alloc (.cells #[.int .i64 w, .int .i64 h, .slice a n c] 24)).cell? ⟨W.heap.size, 2, none⟩ = some (.slice a n c) := by rw [HWb.out]; exact T7.out.2.2.2
    go_wp2_with fail
    rw [HWb.out]
    refine (jgiven_any w h a aT n c 512 cT l t Wb R T7.out.1.1.1.1.2 T7.out.1.1.1.2 hm HI6.out T7.out.1.1.2 hmT).mono ?_; rintro e w1 ⟨ev, rfl, he, hbw1⟩
    clear v_p0 v_p1 v_p2
    have T8 := T7.up hbw1
    clear T7
    rw [HGV.out] at he
    obtain rfl : ev = .nilIface := he
    go_wp2_with fail
    refine (dec_anyJ aB cB bs w1 R (T8.out.1.1.1.1.2).glob T8.out.1.2 HBR.out hBl).mono ?_; rintro e w2 ⟨hbw2, hdp⟩
    have T9 := T8.up hbw2
    clear T8
    cases hdf : decF bs with
    | error y =>
      rw [hdf] at hdp
      obtain ⟨at0, n0⟩ := y
      obtain ⟨v, rfl, hie⟩ := hdp
      have HOD := Lib.hid (judgeF_er HGV.out hdf)
      clear hdf
      have hec := ec_err T9.out.1.1.1.1.2 hie
      obtain ⟨g9, rfl, _, _⟩ := hie
      have HE := Lib.hid hec
      clear hec
      go_wp2_with fail
      refine (plunder _ _ _ _ _).mono ?_; rintro e w3 ⟨rfl, hw3⟩
      have hb3 : Below w2.heap.size w2 w3 := by rw [hw3]; exact balloc (bnil w2) _
      have he3 : EC R w3 (.iface 124 (.pointer (some ⟨w2.heap.size, 0, none⟩))) (some ([(opJudge, 2), (opCert, at0)], n0)) := by rw [hw3]; exact ec_under opJudge 2 HE.out
      clear hw3
      have T10 := T9.up hb3
      clear T9
      have HE3 := Lib.hid he3
      clear hb3 he3
      go_wp2
      go_ret2
      rw [HOD.out]
      exact ⟨_, rfl, HE3.out, T10.out.1.1.1.1.1.2⟩
    | ok z =>
      obtain ⟨cw, ch, L⟩ := z
      rw [hdf] at hdp
      obtain ⟨a3, c3, rfl, hrow⟩ := hdp
      obtain ⟨w', h', rfl, rfl, hw1', hw8', hh1', hh4', hfit, hLl, hLm⟩ := dec_ok hdf
      have HFIT := Lib.hid hfit
      have HDF := Lib.hid hdf
      have hLlen : L.length ≤ 43690 := by omega
      have T10 := T9.add (fun wv => Rd wv a3 L.length 3 (entsC L)) ((owns_rd hrow).2)
      clear T9
      clear hdf hfit hrow hLm
      by_cases hww : w' = w
      · skip
        subst hww
        by_cases hhh : h' = h
        · skip
          subst hhh
          obtain ⟨JR, hJR⟩ : ∃ JR, judgeRun t (colL w' h' l) h' (4 * 2 ^ h') L 0 [] 0 0 = JR := ⟨_, rfl⟩
          have HOD := Lib.hid (judgeF_run HGV.out HDF.out hJR)
          have HJR := Lib.hid hJR
          clear hJR
          have v_p0 : w2.cell? ⟨W.heap.size, 0, none⟩ = some (.int .i64 w') := T10.out.1.2.1
          have v_p1 : w2.cell? ⟨W.heap.size, 1, none⟩ = some (.int .i64 h') := T10.out.1.2.2.1
          have v_p2 : w2.cell? ⟨W.heap.size, 2, none⟩ = some (.slice a n c) := T10.out.1.2.2.2
          go_wp2_with fail
          refine (columns_okJ w' h' a n c l w2 R T10.out.1.1.1.1.1.2 T10.out.1.1.1.1.2 hm HI6.out HPP.out (by omega)).mono ?_; rintro e w4 ⟨gc, cc, rfl, hcol, hbw4⟩
          clear v_p0 v_p1 v_p2
          have T11 := T10.up hbw4
          clear T10
          have T12 := T11.add (fun wv => RK .i64 wv (some ⟨gc, 0, none⟩) w' (colL w' h' l)) (hcol)
          clear T11
          clear hcol
          have hmm := @run_makeMap Tryd.prog
          obtain ⟨ab, ao, hab0, hab, _⟩ := (T12.out.1.1.1.1.2).addr (by omega)
          subst hab0
          obtain ⟨_, _, hgc0, hgc, _⟩ := (T12.out.2).addr (by omega)
          cases hgc0
          go_wp2_with fail
          obtain ⟨gt, hgt⟩ : ∃ gt, w4.heap.size = gt := ⟨_, rfl⟩
          obtain ⟨wj, hwj⟩ : ∃ wj, (w4.alloc (.cells #[.slice (some ⟨ab, ao, none⟩) 512 cT, .int .i64 0] 141)).alloc (.map #[] 0) = wj := ⟨_, rfl⟩
          have HTB0 : Hid (TB wj gt (some ⟨ab, ao, none⟩) 512 cT 0) := by
            show TB _ _ _ _ _ _
            rw [← hwj, ← hgt, TB, (balloc (bnil _) (.map #[] 0)).block _ (by simp)]
            exact heap_alloc_new w4 _
          have HMP0 : Hid (MapE wj (gt + 1) 0 []) := by
            show MapE _ _ _ _
            rw [← hwj, ← hgt]
            have h := World.ownsMap_made (w4.alloc (.cells #[.slice (some ⟨ab, ao, none⟩) 512 cT, .int .i64 0] 141)) Tryd.prog 90 (unitElem (H := Unit))
            rw [World.size_alloc] at h
            exact h
          have HBJ0 : Hid (Below gt w4 wj) := by rw [← hwj, ← hgt]; exact balloc (balloc (bnil w4) _) _
          have HGT := Lib.hid hgt
          have HAB : Hid (ab ≠ gt ∧ gc ≠ gt ∧ gc < gt) := ⟨by omega, by omega, by omega⟩
          obtain ⟨M, hM⟩ : ∃ M, 4 * 2 ^ h' = M := ⟨_, rfl⟩
          obtain ⟨CL, hCL⟩ : ∃ CL, colL w' h' l = CL := ⟨_, rfl⟩
          have hJ0 := HJR.out
          rw [hM, hCL] at hJ0
          have HJ0 := Lib.hid hJ0
          have hM64 : M ≤ 64 := by
            rw [← hM]
            have := Nat.pow_le_pow_right (n := 2) (by omega) hh4
            have h2 : (2 : Nat) ^ 4 = 16 := by decide
            omega
          have HMC := Lib.hid (And.intro hM hCL)
          try rw [hgt]
          try rw [hgt] at hwj
          try rw [hwj]
          have HST : Hid (Sent w4 R) := T12.out.1.1.1.1.1.1.2
          have HBT : Hid (Below W.heap.size W w4 ∧ W.heap.size ≤ gt) := ⟨T12.out.1.1.1.1.1.1.1.2, by rw [← hgt]; exact (T12.out.1.1.1.1.1.1.1.2).size⟩
          clear hwj hM hCL hJ0 HJR hgt hab hgc hmm
          go_loopw [16, 63] (fun fx ix wr => ∃ i fi nn : Nat, i ≤ L.length ∧ fi ≤ i ∧ nn ≤ 256 * i ∧ ix = .int .i64 (i : Nat) ∧ fx = .int .i64 (fi : Nat) ∧ judgeRun t CL h' M (L.drop i) i (L.take i) fi nn = JR ∧ TB wr gt (some ⟨ab, ao, none⟩) 512 cT nn ∧ MapE wr (gt + 1) i (L.take i) ∧ Below gt w4 wr) (fun _ ix _ => L.length - (intOf ix).toNat)
          case atStart => exact ⟨0, 0, 0, by omega, by omega, by omega, rfl, rfl, HJ0.out, HTB0.out, HMP0.out, HBJ0.out⟩
          case round =>
            obtain ⟨i, fi, nn, hi, hfi, hnn, rfl, rfl, hrun, hz, hmp, hb⟩ := hrel
            have HZ := Lib.hid hz
            have HMP := Lib.hid hmp
            have HBJ := Lib.hid hb
            clear hz hmp hb HTB0 HMP0 HBJ0 HJ0
            generalize wr = wo at *
            have hb0 : Below w4.heap.size w4 wo := by rw [HGT.out]; exact HBJ.out
            have T13 := T12.up hb0
            clear T12
            clear hb0
            by_cases hiL : i < L.length
            · skip
              have hdr : L.drop i = L[i] :: L.drop (i + 1) := List.drop_eq_getElem_cons hiL
              have htk : L.take (i + 1) = L.take i ++ [L[i]] := List.take_succ_eq_append_getElem hiL
              have hft := HFIT.out L[i] (List.getElem_mem hiL)
              obtain ⟨be, oe, rfl, hbe, hce⟩ : ∃ b o, a3 = some ⟨b, o, none⟩ ∧ b < wo.heap.size ∧ ∀ j u, (entsC L)[j]? = some u → wo.cell? ⟨b, o + j, none⟩ = some u := (T13.out.1.2).2.resolve_left (by omega)
              obtain ⟨y0, y1, y2⟩ := ent_cells (bnil wo) hbe hce i hiL
              rw [hdr] at hrun
              unfold judgeRun at hrun
              rw [← htk] at hrun
              obtain ⟨ec, hec⟩ : ∃ ec : Nat, L[i].1 = (ec : Int) := ⟨L[i].1.toNat, by have := hft.a0; omega⟩
              obtain ⟨ea, hea⟩ : ∃ ea : Nat, L[i].2.1 = (ea : Int) := ⟨L[i].2.1.toNat, by have := hft.b0; omega⟩
              obtain ⟨eb, heb⟩ : ∃ eb : Nat, L[i].2.2 = (eb : Int) := ⟨L[i].2.2.toNat, by have := hft.c0; omega⟩
              have hcw : ec < w' := by have := hft.a1; omega
              have hea4 : ea < 64 := by have := hft.b1; rw [HMC.out.1] at this; omega
              have heb4 : eb < 64 := by have := hft.c1; rw [HMC.out.1] at this; omega
              rw [hec] at y0
              rw [hea] at y1
              rw [heb] at y2
              have hLi : L[i] = ((ec : Int), (ea : Int), (eb : Int)) := by rw [← hec, ← hea, ← heb]
              rw [hLi] at hrun htk
              simp only [Int.toNat_natCast] at hrun
              have hcl := colL_bd HPP.out hh4 hcw
              rw [HMC.out.2] at hcl
              obtain ⟨want, hwant⟩ : ∃ want, (CL.getD ec 0).toNat = want := ⟨_, rfl⟩
              rw [hwant] at hcl hrun
              have hw1024 := hcl.2
              obtain ⟨_, _, hgc0, _, hcc⟩ := (T13.out.2).addr (by omega)
              cases hgc0
              have hcW := hcc ec hcw
              rw [HMC.out.2, hcl.1] at hcW
              have HTK := Lib.hid htk
              have HCW := Lib.hid hcW
              have HWF : Hid (Wf3 ((ec : Int), (ea : Int), (eb : Int)) ∧ ∀ y ∈ L.take i, Wf3 y) := ⟨wf3N (by omega) (by omega) (by omega), fun y hy => by
                have hf := HFIT.out y (List.mem_of_mem_take hy)
                have q1 := hf.a0; have q2 := hf.a1; have q3 := hf.b0; have q4 := hf.b1; have q5 := hf.c0; have q6 := hf.c1
                rw [HMC.out.1] at q4 q6
                exact ⟨wf64 q1 (by omega), wf64 q3 (by omega), wf64 q5 (by omega)⟩⟩
              obtain ⟨hk, hb9, hhk⟩ : ∃ hk hb9, holdsF t h' want ec ea eb (L.take i) M 0 0 = (hk, hb9) := ⟨_, _, rfl⟩
              have hkl := (holdsF_le t h' want ec ea eb (L.take i) M 0 0).2
              rw [hhk] at hrun hkl
              simp only at hrun hkl
              have hkl2 : hk ≤ 256 := by
                have : M * h' ≤ 64 * 4 := Nat.mul_le_mul hM64 hh4
                omega
              have i0 : (0 : Int) ≤ (i : Int) := by omega
              have i1 : (i : Int) < (L.length : Int) := by omega
              have hCH := fun (w : World) (h1 : RK .i64 w (some ⟨ab, ao, none⟩) 512 t) (h2 : TB w gt (some ⟨ab, ao, none⟩) 512 cT nn) (h3 : w.cell? ⟨gc, 0 + ec, none⟩ = some (.int .i64 (want : Nat))) (h4 : gc < w.heap.size) (h5 : MapE w (gt + 1) i (L.take i)) => jholds_any gt ab ao cT (gt + 1) i t nn h' ec ea eb want w' a n c gc 0 w' cc (L.take i) w HAB.out.1 (by omega) HAB.out.2.1 h1 h2 (by omega) hh4 (by omega) (by omega) hw1024 hcw (by omega) h3 h4 h5 HWF.out.2
              rw [HMC.out.1, hhk] at hCH
              have HCH := Lib.hid hCH
              clear hCH hhk hcc hcl hwant hLi hec hea heb hft hce hdr htk hcW
              obtain ⟨w5, hw5⟩ : ∃ w5, wo.alloc (.cells #[.int .i64 (ec : Nat), .int .i64 (ea : Nat), .int .i64 (eb : Nat)] 90) = w5 := ⟨_, rfl⟩
              have hbw5 : Below wo.heap.size wo w5 := by rw [← hw5]; exact balloc (bnil wo) _
              have T14 := T13.up hbw5
              clear T13
              have T15 := T14.add (fun wv => wv.cell? ⟨wo.heap.size, 0, none⟩ = some (.int .i64 (ec : Nat)) ∧ wv.cell? ⟨wo.heap.size, 1, none⟩ = some (.int .i64 (ea : Nat)) ∧ wv.cell? ⟨wo.heap.size, 2, none⟩ = some (.int .i64 (eb : Nat))) (by rw [← hw5]; exact ⟨cnw (by simp) rfl, cnw (by simp) rfl, cnw (by simp) rfl⟩)
              clear T14
              have Hw5 := Lib.hid hw5
              clear hw5 hbw5
              have HZ5 : Hid (TB w5 gt (some ⟨ab, ao, none⟩) 512 cT nn) := by show TB _ _ _ _ _ _; rw [← Hw5.out]; exact ((balloc (bnil wo) _).block _ (heap_ltT HZ.out)).trans HZ.out
              have HM5 : Hid (MapE w5 (gt + 1) i (L.take i)) := by show MapE _ _ _ _; rw [← Hw5.out]; exact mapE_grown HMP.out (World.grownBy_alloc wo _ (some gt)) (by omega)
              have HC5 : Hid (w5.cell? ⟨gc, 0 + ec, none⟩ = some (.int .i64 (want : Nat))) := by rw [← Hw5.out]; exact al000 HCW.out
              have HBW : Hid (Below gt w4 w5) := by show Below _ _ _; rw [← Hw5.out]; exact HBJ.out.trans ((balloc (bnil wo) _).mono (Nat.le_of_lt (heap_ltT HZ.out)))
              have HGW : Hid (gc < w5.heap.size ∧ gt < wo.heap.size) := ⟨by have h1 := heap_ltT HZ5.out; have := HAB.out.2.2; omega, heap_ltT HZ.out⟩
              have v_p0 : (wo.alloc (.cells #[.int .i64 (ec : Nat), .int .i64 (ea : Nat), .int .i64 (eb : Nat)] 90)).cell? ⟨W.heap.size, 0, none⟩ = some (.int .i64 w') := by rw [Hw5.out]; exact T15.out.1.1.1.2.1
              have v_p1 : (wo.alloc (.cells #[.int .i64 (ec : Nat), .int .i64 (ea : Nat), .int .i64 (eb : Nat)] 90)).cell? ⟨W.heap.size, 1, none⟩ = some (.int .i64 h') := by rw [Hw5.out]; exact T15.out.1.1.1.2.2.1
              have v_p2 : (wo.alloc (.cells #[.int .i64 (ec : Nat), .int .i64 (ea : Nat), .int .i64 (eb : Nat)] 90)).cell? ⟨W.heap.size, 2, none⟩ = some (.slice a n c) := by rw [Hw5.out]; exact T15.out.1.1.1.2.2.2
              have v_x0 : (wo.alloc (.cells #[.int .i64 (ec : Nat), .int .i64 (ea : Nat), .int .i64 (eb : Nat)] 90)).cell? ⟨wo.heap.size, 0, none⟩ = some (.int .i64 (ec : Nat)) := by rw [Hw5.out]; exact T15.out.2.1
              have v_x1 : (wo.alloc (.cells #[.int .i64 (ec : Nat), .int .i64 (ea : Nat), .int .i64 (eb : Nat)] 90)).cell? ⟨wo.heap.size, 1, none⟩ = some (.int .i64 (ea : Nat)) := by rw [Hw5.out]; exact T15.out.2.2.1
              have v_x2 : (wo.alloc (.cells #[.int .i64 (ec : Nat), .int .i64 (ea : Nat), .int .i64 (eb : Nat)] 90)).cell? ⟨wo.heap.size, 2, none⟩ = some (.int .i64 (eb : Nat)) := by rw [Hw5.out]; exact T15.out.2.2.2
              go_wp2_with fail
              rw [Hw5.out]
              refine (HCH.out w5 T15.out.1.1.1.1.1.2 HZ5.out HC5.out HGW.out.1 HM5.out).mono ?_; rintro e w6 ⟨rfl, hz6, hg6⟩
              have HZ6 := Lib.hid hz6
              have hx6 : ∀ k v, w5.cell? ⟨wo.heap.size, k, none⟩ = some v → w6.cell? ⟨wo.heap.size, k, none⟩ = some v := fun k v h => grown_cell hg6 (by show wo.heap.size ≠ gt; have := HGW.out.2; omega) h
              have HX6 : Hid (w6.cell? ⟨wo.heap.size, 0, none⟩ = some (.int .i64 (ec : Nat)) ∧ w6.cell? ⟨wo.heap.size, 1, none⟩ = some (.int .i64 (ea : Nat)) ∧ w6.cell? ⟨wo.heap.size, 2, none⟩ = some (.int .i64 (eb : Nat))) := ⟨hx6 _ _ T15.out.2.1, hx6 _ _ T15.out.2.2.1, hx6 _ _ T15.out.2.2.2⟩
              have HB6 : Hid (Below gt w4 w6) := HBW.out.grown hg6 (by have h1 := HGW.out.2; have h2 := heap_ltT HZ5.out; omega) (fun k e => by cases e; exact Nat.le_refl _)
              have HM6 : Hid (MapE w6 (gt + 1) i (L.take i)) := mapE_grown HM5.out hg6 (by omega)
              have HT6 : Hid (Sent w6 R) := HST.out.up (by rw [HGT.out]; exact HB6.out)
              clear hz6 hg6 hx6 HCH HZ5 HM5 HC5 HBW v_p0 v_p1 v_p2 v_x0 v_x1 v_x2
              cases hb9 with
              | false =>
                have HRUN : Hid ((nn + hk, some (4 + i)) = JR) := hrun
                clear hrun
                have z1 := (tb_cells HZ6.out).1.2
                have iw : IntKind.i64.wrap (4 + (i : Int)) = 4 + (i : Int) := IntWalk.i64_in _ (by omega)
                have HS0 : Hid (w6.drew.cell? ⟨gt, 1, none⟩ = some (.int .i64 ((nn + hk : Nat) : Int))) := z1
                have HTD : Hid (Sent w6.drew R) := HT6.out.up (Below.drew (bnil _))
                clear z1
                go_wp2_with fail
                go_region_held3 (fun w' => w'.cell? ⟨gt, 1, none⟩ = some (.int .i64 ((nn + hk : Nat) : Int)))
                  (first | with_reducible exact HS5.out | with_reducible exact HS0.out | go_keep)
                  (first | (go_at_call 87; refine (judge_wrong _ _ _ R HTD.out.glob rfl).mono ?_; rintro e w7 ⟨rfl, hw7⟩; have HB7 : Hid (Below w6.drew.heap.size w6.drew w7) := (by show Below _ _ _; rw [hw7]; exact balloc (bnil _) _); have HE7 : Hid (EC R w7 (.iface 124 (.pointer (some ⟨w6.drew.heap.size, 0, none⟩))) (some ([(opJudge, 4 + (i : Int))], 8))) := (by show EC _ _ _ _; rw [hw7]; exact ec_err (HTD.out.up (balloc (bnil _) _)) (isErr_new (Nat.le_refl _))); have HS5 : Hid (w7.cell? ⟨gt, 1, none⟩ = some (.int .i64 ((nn + hk : Nat) : Int))) := (HB7.out.cell (p := ⟨gt, 1, none⟩) (heap_ltT HZ6.out)).trans HS0.out; clear hw7))
                all_goals
                  go_wp2
                  go_ret2
                  rw [HOD.out, ← HRUN.out]
                  exact ⟨_, rfl, HE7.out, HBT.out.1.trans ((HB6.out.mono HBT.out.2).trans (((Below.drew (bnil w6)).trans (show Below w6.heap.size w6.drew w7 from HB7.out)).mono (by have h1 := HBT.out.2; have h2 := heap_ltT HZ6.out; omega)))⟩
              | true =>
                rw [if_pos rfl] at hrun
                obtain ⟨x0, x1, x2⟩ := HX6.out
                have y0 : (w6.alloc (.cells #[] 144)).cell? ⟨wo.heap.size, 0, none⟩ = some (.int .i64 (ec : Nat)) := al000 x0
                have y1 : (w6.alloc (.cells #[] 144)).cell? ⟨wo.heap.size, 1, none⟩ = some (.int .i64 (ea : Nat)) := al000 x1
                have y2 : (w6.alloc (.cells #[] 144)).cell? ⟨wo.heap.size, 2, none⟩ = some (.int .i64 (eb : Nat)) := al000 x2
                have hkey := key_ent _ HWF.out.1
                have hhas := has_setE HWF.out.2 HWF.out.1
                have fw : IntKind.i64.wrap ((fi : Int) + 1) = (fi : Int) + 1 := IntWalk.i64_in _ (by omega)
                have hal : i + 1 ≤ maxLen := by unfold maxLen; omega
                have HZ7 : Hid (TB (w6.alloc (.cells #[] 144)) gt (some ⟨ab, ao, none⟩) 512 cT (nn + hk)) := ((balloc (bnil w6) _).block gt (heap_ltT HZ6.out)).trans HZ6.out
                have HB7 : Hid (Below gt w4 (w6.alloc (.cells #[] 144))) := HB6.out.trans ((balloc (bnil w6) _).mono (Nat.le_of_lt (heap_ltT HZ6.out)))
                have HSZ : Hid (gt ≤ (w6.alloc (.cells #[] 144)).heap.size) := Nat.le_of_lt (heap_ltT HZ7.out)
                by_cases hmem : ((ec : Int), (ea : Int), (eb : Int)) ∈ L.take i
                · rw [decide_eq_true hmem] at hhas
                  rw [if_neg (fun h => h.1 hmem), Nat.add_zero] at hrun
                  have HKEY := Lib.hid (And.intro hkey hhas)
                  have HRUN := Lib.hid hrun
                  clear hkey hhas hrun hmem
                  go_wp2_with (first
                    | (at_lookup; refine wpList_lookup_own_unit _ rfl _ _ 142 rfl 90 144 lawE Tryd.underlying142 (unit_zero _) (gt + 1) i (setE (L.take i)) rfl HM6.out _ _ rfl HKEY.out.1 ?_; rw [HKEY.out.2])
                    | (at_mapUpdate; refine wpList_mapUpdate_own _ rfl _ _ _ 142 rfl 90 144 lawE Tryd.underlying142 (unitElem (H := Unit)) (gt + 1) i (setE (L.take i)) rfl (HM6.out.alloc _) hal _ _ _ rfl rfl HKEY.out.1 _ [] unitElem_mk ?_; intro w7 hown7 hgrow7; have HM7 := Lib.hid hown7; have HG7 := Lib.hid hgrow7; clear hown7 hgrow7))
                  have HM8 : Hid (MapE w7 (gt + 1) (i + 1) (L.take (i + 1))) := by show MapE _ _ _ _; rw [HTK.out]; have h := HM7.out; rw [setE_put] at h; exact h
                  have HZ8 : Hid (TB w7 gt (some ⟨ab, ao, none⟩) 512 cT (nn + hk)) := (HG7.out.block gt (heap_ltT HZ7.out) (fun e => by cases e)).trans HZ7.out
                  have HB8 : Hid (Below gt w4 w7) := HB7.out.grown HG7.out HSZ.out (fun k e => by cases e; omega)
                  go_roundw
                  case rel => exact ⟨i + 1, fi, nn + hk, by omega, by omega, by omega, by go_num, by go_num, HRUN.out, HZ8.out, HM8.out, HB8.out⟩
                  case measure => simp [intOf]; omega
                · rw [decide_eq_false hmem] at hhas
                  by_cases hec0 : ec = 0
                  · subst hec0
                    rw [if_pos ⟨hmem, rfl⟩] at hrun
                    have HKEY := Lib.hid (And.intro hkey hhas)
                    have HRUN := Lib.hid hrun
                    clear hkey hhas hrun hmem
                    go_wp2_with (first
                      | (at_lookup; refine wpList_lookup_own_unit _ rfl _ _ 142 rfl 90 144 lawE Tryd.underlying142 (unit_zero _) (gt + 1) i (setE (L.take i)) rfl HM6.out _ _ rfl HKEY.out.1 ?_; rw [HKEY.out.2])
                      | (at_mapUpdate; refine wpList_mapUpdate_own _ rfl _ _ _ 142 rfl 90 144 lawE Tryd.underlying142 (unitElem (H := Unit)) (gt + 1) i (setE (L.take i)) rfl (HM6.out.alloc _) hal _ _ _ rfl rfl HKEY.out.1 _ [] unitElem_mk ?_; intro w7 hown7 hgrow7; have HM7 := Lib.hid hown7; have HG7 := Lib.hid hgrow7; clear hown7 hgrow7))
                    have HM8 : Hid (MapE w7 (gt + 1) (i + 1) (L.take (i + 1))) := by show MapE _ _ _ _; rw [HTK.out]; have h := HM7.out; rw [setE_put] at h; exact h
                    have HZ8 : Hid (TB w7 gt (some ⟨ab, ao, none⟩) 512 cT (nn + hk)) := (HG7.out.block gt (heap_ltT HZ7.out) (fun e => by cases e)).trans HZ7.out
                    have HB8 : Hid (Below gt w4 w7) := HB7.out.grown HG7.out HSZ.out (fun k e => by cases e; omega)
                    go_roundw
                    case rel => exact ⟨i + 1, fi + 1, nn + hk, by omega, by omega, by omega, by go_num, by go_num, HRUN.out, HZ8.out, HM8.out, HB8.out⟩
                    case measure => simp [intOf]; omega
                  · rw [if_neg (fun h => hec0 (by have h2 : (ec : Int) = 0 := h.2; omega)), Nat.add_zero] at hrun
                    have HKEY := Lib.hid (And.intro hkey hhas)
                    have HRUN := Lib.hid hrun
                    have hecI : ((ec : Int) == 0) = false := by rw [beq_eq_false_iff_ne]; omega
                    have hecJ : ¬ (ec : Int) = 0 := by omega
                    clear hkey hhas hrun hmem
                    go_wp2_with (first
                      | (at_lookup; refine wpList_lookup_own_unit _ rfl _ _ 142 rfl 90 144 lawE Tryd.underlying142 (unit_zero _) (gt + 1) i (setE (L.take i)) rfl HM6.out _ _ rfl HKEY.out.1 ?_; rw [HKEY.out.2])
                      | (at_mapUpdate; refine wpList_mapUpdate_own _ rfl _ _ _ 142 rfl 90 144 lawE Tryd.underlying142 (unitElem (H := Unit)) (gt + 1) i (setE (L.take i)) rfl (HM6.out.alloc _) hal _ _ _ rfl rfl HKEY.out.1 _ [] unitElem_mk ?_; intro w7 hown7 hgrow7; have HM7 := Lib.hid hown7; have HG7 := Lib.hid hgrow7; clear hown7 hgrow7))
                    have HM8 : Hid (MapE w7 (gt + 1) (i + 1) (L.take (i + 1))) := by show MapE _ _ _ _; rw [HTK.out]; have h := HM7.out; rw [setE_put] at h; exact h
                    have HZ8 : Hid (TB w7 gt (some ⟨ab, ao, none⟩) 512 cT (nn + hk)) := (HG7.out.block gt (heap_ltT HZ7.out) (fun e => by cases e)).trans HZ7.out
                    have HB8 : Hid (Below gt w4 w7) := HB7.out.grown HG7.out HSZ.out (fun k e => by cases e; omega)
                    go_roundw
                    case rel => exact ⟨i + 1, fi, nn + hk, by omega, by omega, by omega, by go_num, by go_num, HRUN.out, HZ8.out, HM8.out, HB8.out⟩
                    case measure => simp [intOf]; omega
            · skip
              obtain rfl : i = L.length := by omega
              rw [List.drop_length, List.take_length] at hrun
              have HRUN : Hid ((if fi < M * M then (nn, some (4 + L.length)) else (nn, none)) = JR) := hrun
              clear hrun
              have hMI : (4 : Int) * 2 ^ h' = (M : Int) := by rw [← HMC.out.1, Int.natCast_mul, Int.natCast_pow]; rfl
              have hMw : IntKind.i64.wrap (M : Int) = (M : Int) := IntWalk.i64_in _ (by omega)
              have hM2 : M * M ≤ 4096 := Nat.mul_le_mul hM64 hM64
              have hMM : IntKind.i64.wrap ((M : Int) * (M : Int)) = ((M * M : Nat) : Int) := by rw [← Int.natCast_mul]; exact IntWalk.i64_in _ (by omega)
              have h0I : (0 : Int) ≤ (h' : Int) := by omega
              have h64I : (h' : Int) ≤ 64 := by omega
              have z1 := (tb_cells HZ.out).1.2
              have HDN : ∀ k, Below wo.heap.size wo (wo.drewN k) := fun k => ⟨rfl, rfl, rfl, Nat.le_refl _, fun _ _ => rfl⟩
              by_cases hfm : fi < M * M
              · have HR2 : Hid ((nn, some (4 + L.length)) = JR) := by have h := HRUN.out; rw [if_pos hfm] at h; exact h
                have hfI : (fi : Int) < ((M * M : Nat) : Int) := by omega
                clear HRUN
                have iw : IntKind.i64.wrap (4 + (L.length : Int)) = 4 + (L.length : Int) := IntWalk.i64_in _ (by omega)
                go_wp2_with fail
                go_quiet (fail)
                go_wp2_with fail
                have HS0 : Hid ((wo.drewN nq).drew.cell? ⟨gt, 1, none⟩ = some (.int .i64 (nn : Nat))) := z1
                have hb0 : Below w4.heap.size w4 wo := by rw [HGT.out]; exact HBJ.out
                have HTD : Hid (Sent (wo.drewN nq).drew R) := (HST.out.up hb0).up (Below.drew (HDN nq))
                clear z1 hb0
                go_region_held3 (fun w' => w'.cell? ⟨gt, 1, none⟩ = some (.int .i64 (nn : Nat)))
                  (first | with_reducible exact HS5.out | with_reducible exact HS0.out | go_keep)
                  (first | (go_at_call 87; refine (judge_wrong _ _ _ R HTD.out.glob rfl).mono ?_; rintro e w7 ⟨rfl, hw7⟩; have HB7 : Hid (Below wo.heap.size wo w7) := (by show Below _ _ _; rw [hw7]; exact (Below.drew (HDN nq)).trans (balloc (bnil (wo.drewN nq).drew) _)); have HE7 : Hid (EC R w7 (.iface 124 (.pointer (some ⟨(wo.drewN nq).drew.heap.size, 0, none⟩))) (some ([(opJudge, 4 + (L.length : Int))], 8))) := (by show EC _ _ _ _; rw [hw7]; exact ec_err (HTD.out.up (balloc (bnil _) _)) (isErr_new (Nat.le_refl _))); have HS5 : Hid (w7.cell? ⟨gt, 1, none⟩ = some (.int .i64 (nn : Nat))) := (HB7.out.cell (p := ⟨gt, 1, none⟩) (heap_ltT HZ.out)).trans HS0.out; clear hw7))
                all_goals
                  go_wp2
                  go_ret2
                  rw [HOD.out, ← HR2.out]
                  exact ⟨_, rfl, HE7.out, HBT.out.1.trans ((HBJ.out.mono HBT.out.2).trans (HB7.out.mono (by have h1 := HBT.out.2; have h2 := heap_ltT HZ.out; omega)))⟩
              · have HR2 : Hid ((nn, none) = JR) := by have h := HRUN.out; rw [if_neg hfm] at h; exact h
                have hfI : ¬ (fi : Int) < ((M * M : Nat) : Int) := by omega
                clear HRUN
                have z2 : wo.drew.cell? ⟨gt, 1, none⟩ = some (.int .i64 (nn : Nat)) := z1
                go_wp2_with fail
                go_quiet (fail)
                go_wp2
                go_ret2
                rw [HOD.out, ← HR2.out]
                exact ⟨_, rfl, rfl, HBT.out.1.trans ((HBJ.out.mono HBT.out.2).trans ((HDN _).mono (by have h1 := HBT.out.2; have h2 := heap_ltT HZ.out; omega)))⟩
        · skip
          have HOD := Lib.hid (judgeF_sz HGV.out HDF.out (Or.inr (by omega)))
          have hbI : ((h' : Int) != (h : Int)) = true := by rw [bne_iff_ne]; omega
          have hbJ : ¬ (h' : Int) = (h : Int) := by omega
          have v_p0 : w2.cell? ⟨W.heap.size, 0, none⟩ = some (.int .i64 w') := T10.out.1.2.1
          have v_p1 : w2.cell? ⟨W.heap.size, 1, none⟩ = some (.int .i64 h) := T10.out.1.2.2.1
          have v_p2 : w2.cell? ⟨W.heap.size, 2, none⟩ = some (.slice a n c) := T10.out.1.2.2.2
          go_wp2_with fail
          refine (judge_wrong _ _ _ R (T10.out.1.1.1.1.1.2).glob rfl).mono ?_; rintro e w3 ⟨rfl, hw3⟩
          have hb3 : Below w2.heap.size w2 w3 := by rw [hw3]; exact balloc (bnil w2) _
          have he3 : EC R w3 (.iface 124 (.pointer (some ⟨w2.heap.size, 0, none⟩))) (some ([(opJudge, 3)], 8)) := by rw [hw3]; exact ec_err ((T10.out.1.1.1.1.1.2).up (balloc (bnil w2) (faultObj opJudge 3 (.iface 190 (.pointer (some (R (rix 8)))))))) (isErr_new (Nat.le_refl _))
          clear hw3
          clear v_p0 v_p1 v_p2
          have T11 := T10.up hb3
          clear T10
          have HE3 := Lib.hid he3
          clear hb3 he3
          go_wp2
          go_ret2
          rw [HOD.out]
          exact ⟨_, rfl, HE3.out, T11.out.1.1.1.1.1.1.2⟩
      · skip
        have HOD := Lib.hid (judgeF_sz HGV.out HDF.out (Or.inl (by omega)))
        have hbI : ((w' : Int) != (w : Int)) = true := by rw [bne_iff_ne]; omega
        have hbJ : ¬ (w' : Int) = (w : Int) := by omega
        have v_p0 : w2.cell? ⟨W.heap.size, 0, none⟩ = some (.int .i64 w) := T10.out.1.2.1
        have v_p1 : w2.cell? ⟨W.heap.size, 1, none⟩ = some (.int .i64 h) := T10.out.1.2.2.1
        have v_p2 : w2.cell? ⟨W.heap.size, 2, none⟩ = some (.slice a n c) := T10.out.1.2.2.2
        go_wp2_with fail
        refine (judge_wrong _ _ _ R (T10.out.1.1.1.1.1.2).glob rfl).mono ?_; rintro e w3 ⟨rfl, hw3⟩
        have hb3 : Below w2.heap.size w2 w3 := by rw [hw3]; exact balloc (bnil w2) _
        have he3 : EC R w3 (.iface 124 (.pointer (some ⟨w2.heap.size, 0, none⟩))) (some ([(opJudge, 3)], 8)) := by rw [hw3]; exact ec_err ((T10.out.1.1.1.1.1.2).up (balloc (bnil w2) (faultObj opJudge 3 (.iface 190 (.pointer (some (R (rix 8)))))))) (isErr_new (Nat.le_refl _))
        clear hw3
        clear v_p0 v_p1 v_p2
        have T11 := T10.up hb3
        clear T10
        have HE3 := Lib.hid he3
        clear hb3 he3
        go_wp2
        go_ret2
        rw [HOD.out]
        exact ⟨_, rfl, HE3.out, T11.out.1.1.1.1.1.1.2⟩
end Go.Proofs.YtoaooblodgejdaaDoor
namespace Go.Proofs.YtoaooblodgejdaaDoor
open Go.RowKit
set_option linter.unusedVariables false
set_option maxRecDepth 100000

abbrev Ent := Int × Int × Int
theorem looksF_all {t : List Int} {a b c want : Nat} : ∀ k y, (looksF t a b c want k y).2 = true ↔ ∀ j, j < k → symF t a b c (y + j) = ((cb want (y + j) : Nat) : Int)
  | 0, y => by simp [looksF]
  | k + 1, y => by
    unfold looksF
    by_cases h : symF t a b c y = ((cb want y : Nat) : Int)
    · rw [if_pos h, looksF_all k (y + 1)]
      constructor
      · intro g j hj
        cases j with
        | zero => exact h
        | succ j =>
          have := g j (by omega)
          rwa [show y + 1 + j = y + (j + 1) by omega] at this
      · intro g j hj
        have := g (j + 1) (by omega)
        rwa [show y + (j + 1) = y + 1 + j by omega] at this
    · rw [if_neg h]
      constructor
      · intro g; cases g
      · intro g; exact absurd (g 0 (by omega)) h
theorem holdsF_all {t : List Int} {h want col xa xb : Nat} {acc : List Ent} : ∀ r c n, (holdsF t h want col xa xb acc r c n).2 = true ↔ ∀ j, j < r → (looksF t xa xb (c + j) want h 0).2 = true → (((col + 1 : Nat) : Int), (xb : Int), ((c + j : Nat) : Int)) ∈ acc
  | 0, c, n => by simp [holdsF]
  | r + 1, c, n => by
    unfold holdsF
    by_cases h1 : (looksF t xa xb c want h 0).2 = true ∧ ¬ (((col + 1 : Nat) : Int), (xb : Int), (c : Int)) ∈ acc
    · rw [if_pos h1]
      constructor
      · intro g; cases g
      · intro g; exact absurd (g 0 (by omega) h1.1) h1.2
    · rw [if_neg h1, holdsF_all r (c + 1)]
      constructor
      · intro g j hj hl
        cases j with
        | zero => exact Decidable.byContradiction fun hn => h1 ⟨hl, hn⟩
        | succ j =>
          have := g j (by omega) (by rwa [show c + 1 + j = c + (j + 1) by omega])
          rwa [show c + 1 + j = c + (j + 1) by omega] at this
      · intro g j hj hl
        have := g (j + 1) (by omega) (by rwa [show c + (j + 1) = c + 1 + j by omega])
        rwa [show c + (j + 1) = c + 1 + j by omega] at this
/-- the entry of the column 0 with the number k -/
def key0 (m k : Nat) : Ent := (0, ((k / m : Nat) : Int), ((k % m : Nat) : Int))
/-- how many of the first K entries of the column 0 came -/
def cnt0 (m : Nat) (acc : List Ent) : Nat → Nat
  | 0 => 0
  | k + 1 => cnt0 m acc k + if key0 m k ∈ acc then 1 else 0
theorem cnt0_le (m : Nat) (acc : List Ent) : ∀ K, cnt0 m acc K ≤ K
  | 0 => Nat.le_refl _
  | K + 1 => by
    have := cnt0_le m acc K
    unfold cnt0
    split <;> omega
theorem cnt0_all {m : Nat} {acc : List Ent} : ∀ K, K ≤ cnt0 m acc K → ∀ k, k < K → key0 m k ∈ acc
  | 0, _, k, hk => by omega
  | K + 1, h, k, hk => by
    have hl := cnt0_le m acc K
    unfold cnt0 at h
    by_cases hm : key0 m K ∈ acc
    · rw [if_pos hm] at h
      rcases Nat.lt_or_ge k K with h1 | h1
      · exact cnt0_all K (by omega) k h1
      · obtain rfl : k = K := by omega
        exact hm
    · rw [if_neg hm] at h; omega
theorem cnt0_nil (m : Nat) : ∀ K, cnt0 m [] K = 0
  | 0 => rfl
  | K + 1 => by unfold cnt0; rw [cnt0_nil m K, if_neg (by simp)]
theorem key0_eq {m w : Nat} {x : Ent} (hx : Fit3 w m x) {k : Nat} : key0 m k = x ↔ x.1 = 0 ∧ k = x.2.1.toNat * m + x.2.2.toNat := by
  obtain ⟨a, b, c⟩ := x
  have hb0 := hx.b0; have hc0 := hx.c0; have hc1 := hx.c1
  simp only at hb0 hc0 hc1
  obtain ⟨b, rfl⟩ : ∃ q : Nat, b = (q : Int) := ⟨b.toNat, by omega⟩
  obtain ⟨c, rfl⟩ : ∃ q : Nat, c = (q : Int) := ⟨c.toNat, by omega⟩
  have hm : c < m := by omega
  unfold key0
  simp only [Prod.mk.injEq, Int.toNat_natCast]
  constructor
  · rintro ⟨h1, h2, h3⟩
    have h4 := Nat.div_add_mod k m
    have h5 : k / m = b := by omega
    have h6 : k % m = c := by omega
    rw [h5, h6, Nat.mul_comm] at h4
    exact ⟨h1.symm, h4.symm⟩
  · rintro ⟨h1, h2⟩
    subst h2
    rw [Nat.mul_comm, Nat.mul_add_div (by omega), Nat.div_eq_of_lt hm, Nat.mul_add_mod, Nat.mod_eq_of_lt hm]
    exact ⟨h1.symm, by simp, rfl⟩
theorem cnt0_snoc {m w : Nat} {acc : List Ent} {x : Ent} (hx : Fit3 w m x) : ∀ K, cnt0 m (acc ++ [x]) K = cnt0 m acc K + if ¬ x ∈ acc ∧ x.1 = 0 ∧ x.2.1.toNat * m + x.2.2.toNat < K then 1 else 0
  | 0 => by simp [cnt0]
  | K + 1 => by
    have ih := cnt0_snoc (m := m) (acc := acc) hx K
    unfold cnt0
    rw [ih]
    have hk := key0_eq hx (k := K)
    have hmem : key0 m K ∈ acc ++ [x] ↔ key0 m K ∈ acc ∨ key0 m K = x := by simp
    by_cases hxa : x ∈ acc
    · have : key0 m K ∈ acc ++ [x] ↔ key0 m K ∈ acc := by
        rw [hmem]
        constructor
        · rintro (h | h)
          · exact h
          · rw [h]; exact hxa
        · exact Or.inl
      simp only [this, hxa, not_true_eq_false, false_and, if_false, Nat.add_zero]
    · by_cases he : key0 m K = x
      · have ⟨h0, hK⟩ := hk.1 he
        rw [if_neg (show ¬ (¬ x ∈ acc ∧ x.1 = 0 ∧ x.2.1.toNat * m + x.2.2.toNat < K) from fun h => by omega), if_pos (show ¬ x ∈ acc ∧ x.1 = 0 ∧ x.2.1.toNat * m + x.2.2.toNat < K + 1 from ⟨hxa, h0, by omega⟩), if_pos (hmem.2 (.inr he)), if_neg (show ¬ key0 m K ∈ acc by rw [he]; exact hxa)]
      · have h1 : (¬ x ∈ acc ∧ x.1 = 0 ∧ x.2.1.toNat * m + x.2.2.toNat < K + 1) ↔ (¬ x ∈ acc ∧ x.1 = 0 ∧ x.2.1.toNat * m + x.2.2.toNat < K) := by
          constructor
          · rintro ⟨a, b, c⟩
            refine ⟨a, b, ?_⟩
            rcases Nat.lt_or_ge (x.2.1.toNat * m + x.2.2.toNat) K with h | h
            · exact h
            · exact absurd (hk.2 ⟨b, by omega⟩) he
          · rintro ⟨a, b, c⟩; exact ⟨a, b, by omega⟩
        have h2 : key0 m K ∈ acc ++ [x] ↔ key0 m K ∈ acc := by rw [hmem]; constructor; (rintro (h | h); exact h; exact absurd h he); exact Or.inl
        by_cases h3 : key0 m K ∈ acc
        · rw [if_pos h3, if_pos (h2.2 h3)]
          by_cases h4 : ¬ x ∈ acc ∧ x.1 = 0 ∧ x.2.1.toNat * m + x.2.2.toNat < K
          · rw [if_pos h4, if_pos (h1.2 h4)]; try omega
          · rw [if_neg h4, if_neg (fun h => h4 (h1.1 h))]
        · rw [if_neg h3, if_neg (fun h => h3 (h2.1 h))]
          by_cases h4 : ¬ x ∈ acc ∧ x.1 = 0 ∧ x.2.1.toNat * m + x.2.2.toNat < K
          · rw [if_pos h4, if_pos (h1.2 h4)]
          · rw [if_neg h4, if_neg (fun h => h4 (h1.1 h))]
theorem cnt0_step {m w : Nat} {acc : List Ent} {x : Ent} (hx : Fit3 w m x) : cnt0 m (acc ++ [x]) (m * m) = cnt0 m acc (m * m) + if ¬ x ∈ acc ∧ x.1 = 0 then 1 else 0 := by
  rw [cnt0_snoc hx]
  have hlt : x.2.1.toNat * m + x.2.2.toNat < m * m := by
    have h1 : x.2.1.toNat + 1 ≤ m := by have := hx.b0; have := hx.b1; omega
    have h2 : x.2.2.toNat < m := by have := hx.c0; have := hx.c1; omega
    have h3 : (x.2.1.toNat + 1) * m ≤ m * m := Nat.mul_le_mul_right _ h1
    rw [Nat.succ_mul] at h3
    omega
  by_cases h : ¬ x ∈ acc ∧ x.1 = 0
  · rw [if_pos h, if_pos ⟨h.1, h.2, hlt⟩]
  · rw [if_neg h, if_neg (fun g => h ⟨g.1, g.2.1⟩)]
/-- the columns of a predecessor: each three make the fourth -/
structure Pred (t cols : List Int) (h m w : Nat) (v : Nat → Nat) : Prop where
  lt : ∀ x, x < w + 2 → v x < m
  mks : ∀ x, x < w → (looksF t (v x) (v (x + 1)) (v (x + 2)) (cols.getD x 0).toNat h 0).2 = true
theorem run_sound {t cols : List Int} {h m w : Nat} {v : Nat → Nat} (hv : Pred t cols h m w v) : ∀ (L : List Ent) (i : Nat) (acc : List Ent) (f n : Nat), (∀ x ∈ L, Fit3 w m x) → cnt0 m acc (m * m) = f → (∀ y ∈ acc, ¬ (y.2.1 = (v y.1.toNat : Int) ∧ y.2.2 = (v (y.1.toNat + 1) : Int))) → (judgeRun t cols h m L i acc f n).2 ≠ none
  | [], i, acc, f, n, hf, hc, ha => by
    unfold judgeRun
    split
    · exact nofun
    · rename_i hge
      intro _
      have h0 := hv.lt 0 (by omega)
      have h1 := hv.lt 1 (by omega)
      have hlt : v 0 * m + v 1 < m * m := by
        have h3 : (v 0 + 1) * m ≤ m * m := Nat.mul_le_mul_right _ h0
        rw [Nat.succ_mul] at h3
        omega
      have hk := cnt0_all (m := m) (acc := acc) (m * m) (by omega) _ hlt
      have := ha _ hk
      unfold key0 at this
      rw [Nat.mul_comm, Nat.mul_add_div (by omega), Nat.div_eq_of_lt h1, Nat.mul_add_mod, Nat.mod_eq_of_lt h1] at this
      exact this ⟨by simp, by simp⟩
  | x :: r, i, acc, f, n, hf, hc, ha => by
    unfold judgeRun
    by_cases hh : (holdsF t h (cols.getD x.1.toNat 0).toNat x.1.toNat x.2.1.toNat x.2.2.toNat acc m 0 0).2 = true
    · rw [if_pos hh]
      have hx := hf x (by simp)
      refine run_sound hv r _ _ _ _ (fun y hy => hf y (by simp [hy])) (by rw [cnt0_step hx, hc]) fun y hy => ?_
      rcases List.mem_append.1 hy with hy | hy
      · exact ha y hy
      · obtain rfl : y = x := by simpa using hy
        rintro ⟨e1, e2⟩
        have a0 := hx.a0; have a1 := hx.a1
        have hw : y.1.toNat < w := by omega
        have hc2 := hv.lt (y.1.toNat + 2) (by omega)
        have hm := hv.mks y.1.toNat hw
        have hin := (holdsF_all m 0 0).1 hh (v (y.1.toNat + 2)) hc2
        rw [e1, e2, Int.toNat_natCast, Int.toNat_natCast, Nat.zero_add] at hin
        have := ha _ (hin hm)
        simp only [Int.toNat_natCast] at this
        exact this (by simp)
    · rw [if_neg hh]
      exact nofun
/-- where Judge tells no fault there is no predecessor -/
theorem judge_sound {t : List Int} {w h : Int} {l bs : List Int} (hj : (judgeF t w h l bs).2 = none) : ∃ w' h' : Nat, w = w' ∧ h = h' ∧ IsPatch w' h' l ∧ IsTab t ∧ w' ≤ 8 ∧ h' ≤ 4 ∧ ∀ v, ¬ Pred t (colL w' h' l) h' (4 * 2 ^ h') w' v := by
  unfold judgeF at hj
  cases hg : gvD t w h l with
  | some e => rw [hg] at hj; cases hj
  | none =>
    rw [hg] at hj
    simp only at hj
    cases hd : decF bs with
    | error y => rw [hd] at hj; cases hj
    | ok z =>
      obtain ⟨cw, ch, L⟩ := z
      rw [hd] at hj
      simp only at hj
      split at hj
      · cases hj
      · rename_i hn
        obtain ⟨w', h', rfl, rfl, hp, ht, hw8, hh4⟩ := gvD_none hg
        obtain ⟨w2, h2, hcw, hch, _, _, h1, h4, hfit, _, _⟩ := dec_ok hd
        obtain rfl : w2 = w' := by omega
        obtain rfl : h2 = h' := by omega
        refine ⟨w2, h2, rfl, rfl, hp, ht, hw8, hh4, fun v hv => ?_⟩
        simp only [Int.toNat_natCast] at hj
        have hr := run_sound hv L 0 [] 0 0 hfit (cnt0_nil _ _) (fun y hy => by cases hy)
        generalize judgeRun t (colL w2 h2 l) h2 (4 * 2 ^ h2) L 0 [] 0 0 = X at hj hr
        obtain ⟨n, o⟩ := X
        cases o with
        | none => exact hr rfl
        | some a => cases hj
theorem cb_le1 (a k : Nat) : cb a k ≤ 1 := by unfold cb; omega
/-- the window of three columns is the patch's window -/
theorem wix_win {w h : Nat} {l : List Int} (hp : IsPatch w h l) {x y : Nat} (hx : x + 2 < w) (hy : y + 2 < h) : ∀ k, k ≤ 3 → wixT (colV w l x h) (colV w l (x + 1) h) (colV w l (x + 2) h) y k = winP w l x y k
  | 0, _ => rfl
  | k + 1, hk => by
    have ih := wix_win hp hx hy k (by omega)
    have hlt := winP_lt hp hx hy k (by omega)
    have e1 : cb (colV w l x h) (y + k) = (atL w l x (y + k)).toNat := colV_bit hp (show x < w by omega) h (Nat.le_refl _) (by omega)
    have e2 : cb (colV w l (x + 1) h) (y + k) = (atL w l (x + 1) (y + k)).toNat := colV_bit hp (show x + 1 < w by omega) h (Nat.le_refl _) (by omega)
    have e3 : cb (colV w l (x + 2) h) (y + k) = (atL w l (x + 2) (y + k)).toNat := colV_bit hp (show x + 2 < w by omega) h (Nat.le_refl _) (by omega)
    have c1 := cb_le1 (colV w l x h) (y + k)
    have c2 := cb_le1 (colV w l (x + 1) h) (y + k)
    have c3 := cb_le1 (colV w l (x + 2) h) (y + k)
    have h64 : winP w l x y k < 64 := by
      have : 8 ^ k ≤ 8 ^ 2 := Nat.pow_le_pow_right (by omega) (by omega)
      have h2 : (8 : Nat) ^ 2 = 64 := by decide
      omega
    unfold wixT winP
    rw [ih, ← e1, ← e2, ← e3]
    exact (or_line ⟨_, h64⟩ ⟨_, show _ < 2 by omega⟩ ⟨_, show _ < 2 by omega⟩ ⟨_, show _ < 2 by omega⟩).1
/-- a patch is a predecessor of its image -/
theorem step_pred {t : List Int} {w h : Nat} {l : List Int} (hp : IsPatch (w + 2) (h + 2) l) (ht : IsTab t) : Pred t (colL w h (stepL t (w + 2) (h + 2) l)) h (4 * 2 ^ h) w (fun x => colV (w + 2) l x (h + 2)) := by
  refine ⟨fun x hx => ?_, fun x hx => ?_⟩
  · have := colV_lt hp hx (h + 2) (Nat.le_refl _)
    rw [Nat.pow_add] at this
    omega
  · rw [looksF_all]
    intro y hy
    rw [Nat.zero_add]
    have hs : stepL t (w + 2) (h + 2) l = madeL w h (stepF t (w + 2) l) := rfl
    have hq : IsPatch w h (stepL t (w + 2) (h + 2) l) := stepL_patch hp ht.len ht.sym (by have := hx; omega) (by omega)
    have e1 : ((colL w h (stepL t (w + 2) (h + 2) l)).getD x 0).toNat = colV w (stepL t (w + 2) (h + 2) l) x h := by rw [colL_getD hx, Int.toNat_natCast]
    rw [e1]
    have e2 : cb (colV w (stepL t (w + 2) (h + 2) l) x h) y = cellN w (stepL t (w + 2) (h + 2) l) x y := colV_bit hq hx h (Nat.le_refl _) hy
    rw [e2, (cellN_le hq hx hy).2, hs, atL_made hx hy]
    unfold symF stepF
    rw [wix_win hp (show x + 2 < w + 2 by omega) (show y + 2 < h + 2 by omega) 3 (Nat.le_refl _), winP_three hp (by omega) (by omega)]
end Go.Proofs.YtoaooblodgejdaaDoor
