/- edenref17.on. -/
import Derived.Test.YteneiianpghalaaDoorR17Y
import Derived.Test.YteneiianpghalaaDoorCntX
import Derived.Deep.RegionHeld3
namespace Go.Proofs.YteneiianpghalaaDoor
open Go.RowKit
set_option linter.unusedVariables false
set_option maxRecDepth 100000

theorem et_wide : ET Tryd.prog 159 161 (.agg (WL fun _ => 0).toArray) 10 80 := ⟨Tryd.underlying159, info_parts (by kernel_rfl), rfl, by decide⟩
/-- a list of n wide numbers in a block of its own -/
structure Wd (w : World) (g n : Nat) (F : Nat → Nat) : Prop where
  at_ : ∀ i, i < n → w.rangeAt g (i * 10) (WL (dg (F i)))
  th : w.there g 0 (n * 10)
  lt : g < w.heap.size
theorem range_up {w w' : World} {g o : Nat} {cs : List Value} (h : w.rangeAt g o cs) (hl : g < w.heap.size) (hb : Below w.heap.size w w') : w'.rangeAt g o cs := fun j v hv => (hb.cell (p := ⟨g, o + j, none⟩) hl).trans (h j v hv)
theorem there_up {w w' : World} {g o n : Nat} (h : w.there g o n) (hl : g < w.heap.size) (hb : Below w.heap.size w w') : w'.there g o n := fun j hj => by
  have := h j hj
  rw [hb.cell (p := ⟨g, o + j, none⟩) hl, hb.frozen (p := ⟨g, o + j, none⟩) hl]
  exact this
theorem Wd.up {w w' : World} {g n : Nat} {F : Nat → Nat} (h : Wd w g n F) (hb : Below w.heap.size w w') : Wd w' g n F :=
  ⟨fun i hi => range_up (h.at_ i hi) h.lt hb, there_up h.th h.lt hb, Nat.lt_of_lt_of_le h.lt hb.size⟩
theorem Wd.there {w : World} {g n i : Nat} {F : Nat → Nat} (h : Wd w g n F) (hi : i < n) : w.there g (i * 10) 10 := fun j hj => by
  have := h.th (i * 10 + j) (by omega)
  simpa using this
theorem Wd.congr {w : World} {g n : Nat} {F G : Nat → Nat} (h : Wd w g n F) (e : ∀ i, i < n → F i = G i) : Wd w g n G :=
  ⟨fun i hi => by rw [← e i hi]; exact h.at_ i hi, h.th, h.lt⟩
theorem Wd.put {w : World} {g n i : Nat} {F : Nat → Nat} (h : Wd w g n F) (hi : i < n) (x : Nat) : Wd (w.setCells g (i * 10) (WL (dg x))) g n (upd F i x) := by
  refine ⟨fun j hj => ?_, World.there_setCells h.th _ _ _, by rw [setCells_size]; exact h.lt⟩
  by_cases e : j = i
  · subst e
    rw [upd_self]
    exact World.rangeAt_setCells_same _ _ _ _ (by rw [WL_len]; exact h.there hi)
  · rw [upd_ne _ _ e]
    exact World.rangeAt_setCells_apart (h.at_ j hj) _ _ _ (by rw [WL_len, WL_len]; omega)
theorem Wd.other {w : World} {g g2 n o : Nat} {F : Nat → Nat} (h : Wd w g n F) (hne : g ≠ g2) (vs : List Value) : Wd (w.setCells g2 o vs) g n F :=
  ⟨fun j hj => World.rangeAt_setCells_apart (h.at_ j hj) _ _ _ (.inl hne), World.there_setCells h.th _ _ _, by rw [setCells_size]; exact h.lt⟩
theorem made_wide (n : Nat) (j : Nat) (h : j < n * 10) : (madeCells (Value.agg (WL fun _ => 0).toArray).cells (n * 10)).toList[j]? = some (.int .u64 0) := by
  have h2 : j % 10 < 10 := Nat.mod_lt _ (by decide)
  have h3 := WL_at (fun _ => 0) h2
  have h4 : (madeCells (WL fun _ => 0).toArray (n * 10)).toList[j]? = some ((WL fun _ => 0).toArray[j % (WL fun _ => 0).toArray.size]!) := by simp [madeCells, h]
  show (madeCells (WL fun _ => 0).toArray (n * 10)).toList[j]? = _
  rw [h4, List.size_toArray, WL_len]
  simp [h3]
theorem Wd.made {w : World} {base g n c : Nat} (h : w.ownsRow base 161 10 (.slice (some ⟨g, 0, none⟩) n c) n (madeCells (Value.agg (WL fun _ => 0).toArray).cells (n * 10)).toList) : Wd w g n (fun _ => 0) := by
  refine ⟨fun i hi j v hv => ?_, fun j hj => ⟨?_, h.frozenAt _⟩, (h.lt g rfl).2⟩
  · have hj : j < 10 := by have := (List.getElem?_eq_some_iff.1 hv).1; rwa [WL_len] at this
    rw [h.cellAt (i * 10 + j) (by omega), made_wide n _ (by omega), ← hv, WL_at _ hj]
    simp [dg]
  · rw [Nat.zero_add, h.cellAt j hj, made_wide n _ hj]; rfl
theorem weq10 (c0 c1 c2 c3 c4 c5 c6 c7 c8 c9 : Nat) (w : World) : (Op.equalIn 10000 161 (.agg #[.int .u64 ((c0 : Nat) : Int), .int .u64 ((c1 : Nat) : Int), .int .u64 ((c2 : Nat) : Int), .int .u64 ((c3 : Nat) : Int), .int .u64 ((c4 : Nat) : Int), .int .u64 ((c5 : Nat) : Int), .int .u64 ((c6 : Nat) : Int), .int .u64 ((c7 : Nat) : Int), .int .u64 ((c8 : Nat) : Int), .int .u64 ((c9 : Nat) : Int)]) (.agg #[.int .u64 0, .int .u64 0, .int .u64 0, .int .u64 0, .int .u64 0, .int .u64 0, .int .u64 0, .int .u64 0, .int .u64 0, .int .u64 0])).run Tryd.prog w = .ok (c0 == 0 && c1 == 0 && c2 == 0 && c3 == 0 && c4 == 0 && c5 == 0 && c6 == 0 && c7 == 0 && c8 == 0 && c9 == 0) w := by
  cases c0 with
  | succ n => kernel_rfl
  | zero =>
    cases c1 with
    | succ n => kernel_rfl
    | zero =>
      cases c2 with
      | succ n => kernel_rfl
      | zero =>
        cases c3 with
        | succ n => kernel_rfl
        | zero =>
          cases c4 with
          | succ n => kernel_rfl
          | zero =>
            cases c5 with
            | succ n => kernel_rfl
            | zero =>
              cases c6 with
              | succ n => kernel_rfl
              | zero =>
                cases c7 with
                | succ n => kernel_rfl
                | zero =>
                  cases c8 with
                  | succ n => kernel_rfl
                  | zero =>
                    cases c9 with
                    | succ n => kernel_rfl
                    | zero =>
                      kernel_rfl
theorem wl_lit (d : Nat → Nat) : (WL d).toArray = #[.int .u64 ((d 0 : Nat) : Int), .int .u64 ((d 1 : Nat) : Int), .int .u64 ((d 2 : Nat) : Int), .int .u64 ((d 3 : Nat) : Int), .int .u64 ((d 4 : Nat) : Int), .int .u64 ((d 5 : Nat) : Int), .int .u64 ((d 6 : Nat) : Int), .int .u64 ((d 7 : Nat) : Int), .int .u64 ((d 8 : Nat) : Int), .int .u64 ((d 9 : Nat) : Int)] := rfl
theorem weq_zero (x : Nat) (hx : x < W64 ^ 10) (w : World) : (Op.equalIn 10000 161 (.agg (WL (dg x)).toArray) (.agg #[.int .u64 0, .int .u64 0, .int .u64 0, .int .u64 0, .int .u64 0, .int .u64 0, .int .u64 0, .int .u64 0, .int .u64 0, .int .u64 0])).run Tryd.prog w = .ok (x == 0) w := by
  rw [wl_lit, weq10]
  congr 1
  by_cases h : x = 0
  · subst h; decide
  · have e : (x == 0) = false := by simpa using h
    rw [e]
    by_cases h2 : (dg x 0 == 0 && dg x 1 == 0 && dg x 2 == 0 && dg x 3 == 0 && dg x 4 == 0 && dg x 5 == 0 && dg x 6 == 0 && dg x 7 == 0 && dg x 8 == 0 && dg x 9 == 0) = true
    · simp only [Bool.and_eq_true, beq_iff_eq] at h2
      obtain ⟨⟨⟨⟨⟨⟨⟨⟨⟨e0, e1⟩, e2⟩, e3⟩, e4⟩, e5⟩, e6⟩, e7⟩, e8⟩, e9⟩ := h2
      exfalso
      have e10 : x % W64 ^ 10 = 0 := by
        rw [mod_succ64, mod_succ64, mod_succ64, mod_succ64, mod_succ64, mod_succ64, mod_succ64, mod_succ64, mod_succ64, mod_succ64, e0, e1, e2, e3, e4, e5, e6, e7, e8, e9, Nat.pow_zero, Nat.mod_one]
        simp only [Nat.mul_zero, Nat.add_zero]
      rw [Nat.mod_eq_of_lt hx] at e10
      exact h e10
    · simpa using h2
theorem wpl_loadW {ops : Array Oper} {rest : List Oper} {op : Oper} {ac : Act} {w : World} {Q : Exit → Act → World → Prop} {g n i o x : Nat} {F : Nat → Nat} (h : Wd w g n F) (hi : i < n) (hx2 : F i = x) (ho2 : o = i * 10) (hgd : op.guard = none) (y : Operand) (ho : op.op = .load 161 y) (hx : ac.eval y = .pointer (some ⟨g, o, none⟩))
    (hK : wpList Tryd.prog ops Q rest (ac.put op.dst (.agg (WL (dg x)).toArray)) w) : wpList Tryd.prog ops Q (op :: rest) ac w := by
  subst ho2 hx2
  exact wpList_load_mid hgd _ y ho g _ hx (WL (dg (F i))) (.array 10 37) (h.at_ i hi) (by kernel_rfl) rfl (by rw [WL_len]; kernel_rfl) hK
theorem wsum_lit (a b : Nat) (W : World) : Calls Tryd.prog 134 #[.agg #[.int .u64 ((dg a 0 : Nat) : Int), .int .u64 ((dg a 1 : Nat) : Int), .int .u64 ((dg a 2 : Nat) : Int), .int .u64 ((dg a 3 : Nat) : Int), .int .u64 ((dg a 4 : Nat) : Int), .int .u64 ((dg a 5 : Nat) : Int), .int .u64 ((dg a 6 : Nat) : Int), .int .u64 ((dg a 7 : Nat) : Int), .int .u64 ((dg a 8 : Nat) : Int), .int .u64 ((dg a 9 : Nat) : Int)], .agg #[.int .u64 ((dg b 0 : Nat) : Int), .int .u64 ((dg b 1 : Nat) : Int), .int .u64 ((dg b 2 : Nat) : Int), .int .u64 ((dg b 3 : Nat) : Int), .int .u64 ((dg b 4 : Nat) : Int), .int .u64 ((dg b 5 : Nat) : Int), .int .u64 ((dg b 6 : Nat) : Int), .int .u64 ((dg b 7 : Nat) : Int), .int .u64 ((dg b 8 : Nat) : Int), .int .u64 ((dg b 9 : Nat) : Int)]] W fun e w' => e = .returned (.agg #[.int .u64 ((dg (a + b) 0 : Nat) : Int), .int .u64 ((dg (a + b) 1 : Nat) : Int), .int .u64 ((dg (a + b) 2 : Nat) : Int), .int .u64 ((dg (a + b) 3 : Nat) : Int), .int .u64 ((dg (a + b) 4 : Nat) : Int), .int .u64 ((dg (a + b) 5 : Nat) : Int), .int .u64 ((dg (a + b) 6 : Nat) : Int), .int .u64 ((dg (a + b) 7 : Nat) : Int), .int .u64 ((dg (a + b) 8 : Nat) : Int), .int .u64 ((dg (a + b) 9 : Nat) : Int)]) ∧ Below W.heap.size W w' := wsum_any a b W
theorem wd_cells {w : World} {g n i x : Nat} {F : Nat → Nat} (h : Wd w g n F) (hi : i < n) (hx : F i = x) : w.cell? ⟨g, i * 10, none⟩ = some (.int .u64 ((dg x 0 : Nat) : Int)) ∧ w.cell? ⟨g, i * 10 + 1, none⟩ = some (.int .u64 ((dg x 1 : Nat) : Int)) ∧ w.cell? ⟨g, i * 10 + 2, none⟩ = some (.int .u64 ((dg x 2 : Nat) : Int)) ∧ w.cell? ⟨g, i * 10 + 3, none⟩ = some (.int .u64 ((dg x 3 : Nat) : Int)) ∧ w.cell? ⟨g, i * 10 + 4, none⟩ = some (.int .u64 ((dg x 4 : Nat) : Int)) ∧ w.cell? ⟨g, i * 10 + 5, none⟩ = some (.int .u64 ((dg x 5 : Nat) : Int)) ∧ w.cell? ⟨g, i * 10 + 6, none⟩ = some (.int .u64 ((dg x 6 : Nat) : Int)) ∧ w.cell? ⟨g, i * 10 + 7, none⟩ = some (.int .u64 ((dg x 7 : Nat) : Int)) ∧ w.cell? ⟨g, i * 10 + 8, none⟩ = some (.int .u64 ((dg x 8 : Nat) : Int)) ∧ w.cell? ⟨g, i * 10 + 9, none⟩ = some (.int .u64 ((dg x 9 : Nat) : Int)) := by
  subst hx
  have h2 := h.at_ i hi
  exact ⟨h2 0 _ (WL_at _ (by decide)), h2 1 _ (WL_at _ (by decide)), h2 2 _ (WL_at _ (by decide)), h2 3 _ (WL_at _ (by decide)), h2 4 _ (WL_at _ (by decide)), h2 5 _ (WL_at _ (by decide)), h2 6 _ (WL_at _ (by decide)), h2 7 _ (WL_at _ (by decide)), h2 8 _ (WL_at _ (by decide)), h2 9 _ (WL_at _ (by decide))⟩
theorem wd_froz {w : World} {g n i : Nat} {F : Nat → Nat} (h : Wd w g n F) (hi : i < n) : w.frozen? ⟨g, i * 10, none⟩ = false ∧ w.frozen? ⟨g, i * 10 + 1, none⟩ = false ∧ w.frozen? ⟨g, i * 10 + 2, none⟩ = false ∧ w.frozen? ⟨g, i * 10 + 3, none⟩ = false ∧ w.frozen? ⟨g, i * 10 + 4, none⟩ = false ∧ w.frozen? ⟨g, i * 10 + 5, none⟩ = false ∧ w.frozen? ⟨g, i * 10 + 6, none⟩ = false ∧ w.frozen? ⟨g, i * 10 + 7, none⟩ = false ∧ w.frozen? ⟨g, i * 10 + 8, none⟩ = false ∧ w.frozen? ⟨g, i * 10 + 9, none⟩ = false := by
  have h2 := h.there hi
  exact ⟨(h2 0 (by decide)).2, (h2 1 (by decide)).2, (h2 2 (by decide)).2, (h2 3 (by decide)).2, (h2 4 (by decide)).2, (h2 5 (by decide)).2, (h2 6 (by decide)).2, (h2 7 (by decide)).2, (h2 8 (by decide)).2, (h2 9 (by decide)).2⟩
theorem put_lit (w : World) (g o x : Nat) : ((((((((((w.setCell ⟨g, o, none⟩ (.int .u64 ((dg x 0 : Nat) : Int))).setCell ⟨g, o + 1, none⟩ (.int .u64 ((dg x 1 : Nat) : Int))).setCell ⟨g, o + 2, none⟩ (.int .u64 ((dg x 2 : Nat) : Int))).setCell ⟨g, o + 3, none⟩ (.int .u64 ((dg x 3 : Nat) : Int))).setCell ⟨g, o + 4, none⟩ (.int .u64 ((dg x 4 : Nat) : Int))).setCell ⟨g, o + 5, none⟩ (.int .u64 ((dg x 5 : Nat) : Int))).setCell ⟨g, o + 6, none⟩ (.int .u64 ((dg x 6 : Nat) : Int))).setCell ⟨g, o + 7, none⟩ (.int .u64 ((dg x 7 : Nat) : Int))).setCell ⟨g, o + 8, none⟩ (.int .u64 ((dg x 8 : Nat) : Int))).setCell ⟨g, o + 9, none⟩ (.int .u64 ((dg x 9 : Nat) : Int))) = w.setCells g o (WL (dg x)) := rfl
theorem dig_mid (k r i : Nat) (Q : Int) (V : World) (k1 : 1 ≤ k) (k4 : k ≤ 4) (r3 : r ≤ 3) (hi : i ≤ 256) (hlt : i < k ^ (2 * r + 1)) (hQ : ((i / k ^ r % k : Nat) : Int) = Q) :
    Calls Tryd.prog 87 #[.int .i64 k, .int .i64 (2 * (r : Int) + 1), .int .i64 i] V fun e w' => ∃ gd, e = .returned (.slice (some ⟨gd, 0, none⟩) (2 * r + 1) (2 * r + 1)) ∧ w'.cell? ⟨gd, r, none⟩ = some (.int .i64 Q) ∧ Below V.heap.size V w' := by
  refine (refDigits_any k (2 * r + 1) i _ V (by simp) k1 k4 (by omega) (by omega) hlt).mono ?_
  rintro e w' ⟨rfl, ho, hb⟩
  refine ⟨_, rfl, ?_, hb⟩
  rw [ho.cellAt r (by omega), List.getElem?_map, digsF_at (by omega) _ _ _ hlt (by omega), ← hQ]
  rw [show 2 * r + 1 - 1 - r = r by omega]
  rfl
set_option maxHeartbeats 16000000 in
theorem on_any (k r N : Nat) (a : Option Addr) (T c g ca : Nat) (tb : List Int) (lb : Int) (F : Nat → Nat) (W : World) (hT : RK .i64 W a T tb) (h : IsRule k r tb) (hTn : T ≤ 256) (hN : N = k ^ (2 * r)) (hA : Wd W g N F) (hF : ∀ u, u < N → F u < W64 ^ 10) :
    Calls Tryd.prog 133 #[ruleV k r a T c, .slice (some ⟨g, 0, none⟩) N ca, .int .i64 lb] W fun e w' => ∃ g' c', e = .returned (.slice (some ⟨g', 0, none⟩) N c') ∧ Wd w' g' N (fwdC k N (fun x => decide (tb.getD x 0 = if lb < 0 then ((x / k ^ r % k : Nat) : Int) else lb)) F (N * k)) ∧ W.heap.size ≤ g' ∧ Below W.heap.size W w' := by
  have hN0 : 0 < N := by rw [hN]; exact (h.nodes hT.len).2.1
  have hNT : T = N * k := by rw [hN]; exact (h.nodes hT.len).1
  have hk := h.k1
  have HH := Lib.hid h
  have HT := Lib.hid hT
  have HN := Lib.hid hN
  have HNT := Lib.hid hNT
  have HA := Lib.hid hA
  have HF := Lib.hid hF
  have HN0 := Lib.hid hN0
  have hN256 : N ≤ 256 := by
    have : N * 1 ≤ N * k := Nat.mul_le_mul_left _ hk
    omega
  clear hT hN hNT hA hF h
  obtain ⟨fit, hfit⟩ : ∃ fit : Nat → Bool, (fun x => decide (tb.getD x 0 = if lb < 0 then ((x / k ^ r % k : Nat) : Int) else lb)) = fit := ⟨_, rfl⟩
  rw [hfit]
  have HFIT := Lib.hid hfit
  clear hfit
  have HRB : Hid (Below W.heap.size W (W.alloc (.cells #[.int .i64 (k : Int), .int .i64 (r : Int), .slice a T c] 24))) := balloc (bnil W) _
  go_enter Tryd.func133, Tryd.ntmps133
  go_wp2_with (first
    | (at_make; refine mk_full rfl _ _ _ rfl W.heap.size et_wide .i64 .i64 _ _ N rfl rfl rfl rfl (by omega) (by unfold maxLen; omega) (by simp) ?_; intro w1 hown1 hb1 hsz1))
  obtain ⟨Wb, hWb⟩ : ∃ Wb, W.alloc (.cells #[.int .i64 (k : Int), .int .i64 (r : Int), .slice a T c] 24) = Wb := ⟨_, rfl⟩
  have hsz : Wb.heap.size = W.heap.size + 1 := by rw [← hWb]; simp
  have HX : Hid (Wb.cell? ⟨W.heap.size, 0, none⟩ = some (.int .i64 (k : Int)) ∧ Wb.cell? ⟨W.heap.size, 1, none⟩ = some (.int .i64 (r : Int)) ∧ Wb.cell? ⟨W.heap.size, 2, none⟩ = some (.slice a T c)) := by rw [← hWb]; exact ⟨by simp, by simp, by simp⟩
  rw [hWb] at HRB hown1 hb1 hsz1
  have HO1 := Lib.hid (Wd.made hown1)
  have HB1 := Lib.hid hb1
  have HTb := Lib.hid (HT.out.up HRB.out)
  have HAb := Lib.hid (HA.out.up HRB.out)
  clear hWb hown1 hb1 hsz1 HT HA
  have hT0 : 0 < T := by rw [HNT.out]; exact Nat.mul_pos hN0 (by omega)
  obtain ⟨bt, ot, rfl, hbt, hct⟩ := HTb.out.addr hT0
  have HBT := Lib.hid hbt
  have HCT := Lib.hid hct
  clear hbt hct
  obtain ⟨gb, hgb⟩ : ∃ gb, W.heap.size = gb := ⟨_, rfl⟩
  have hgo : Wb.heap.size = gb + 1 := by rw [← hgb]; exact hsz
  rw [hgb] at HX HRB
  rw [hgo] at HO1
  have HGB := Lib.hid hgb
  have HGO := Lib.hid hgo
  simp only [hgb]
  clear hsz hgb hgo
  go_loopw [9] (fun ux wr => ∃ u : Nat, u ≤ N ∧ ux = .int .i64 u ∧ Wd wr (gb + 1) N (fwdC k N fit F (u * k)) ∧ Below Wb.heap.size Wb wr) (fun ux _ => N - (intOf ux).toNat)
  case atStart => exact ⟨0, by omega, rfl, by rw [Nat.zero_mul]; exact HO1.out, HB1.out⟩
  case round =>
    clear HO1 HB1
    obtain ⟨u, hu, rfl, hO, hB⟩ := hrel
    have HO := Lib.hid hO
    have HB := Lib.hid hB
    clear hO hB
    by_cases hun : u < N
    · have hA := HAb.out.up HB.out
      have HA := Lib.hid hA
      have u0 : (0 : Int) ≤ (u : Int) := by omega
      have u1 : (u : Int) < (N : Int) := by omega
      clear hA
      obtain ⟨x, hx⟩ : ∃ x, F u = x := ⟨_, rfl⟩
      have hx10 : x < W64 ^ 10 := by rw [← hx]; exact HF.out u hun
      have heq := weq_zero x hx10 wr
      have HXE := Lib.hid hx
      clear hx hx10
      have mU : u * k + k = (u + 1) * k := by rw [Nat.add_mul, Nat.one_mul]
      have HMU := Lib.hid mU
      clear mU
      by_cases hz : x = 0
      · subst hz
        have hez : ((0 : Nat) == 0) = true := rfl
        rw [hez] at heq
        have HN2 : Hid (Wd wr (gb + 1) N (fwdC k N fit F ((u + 1) * k))) := HO.out.congr fun v _ => by
          have hsk : ∀ s, s ≤ k → fwdC k N fit F (u * k + s) v = fwdC k N fit F (u * k) v := fun s => by
            induction s with
            | zero => intro _; rfl
            | succ s ih =>
              intro hs
              rw [← Nat.add_assoc, fwdC_skip (.inr (by rw [show (u * k + s) / k = u by rw [Nat.mul_comm, Nat.mul_add_div (by omega), Nat.div_eq_of_lt (by omega), Nat.add_zero]]; exact HXE.out)), ih (by omega)]
          rw [← HMU.out, hsk k (Nat.le_refl _)]
        go_wp2_with (with_reducible refine wpl_loadW HA.out hun HXE.out rfl rfl _ rfl rfl ?_)
        go_roundw
        case rel => exact ⟨u + 1, by omega, by go_num, HN2.out, HB.out⟩
        case measure => simp [intOf]; omega
      · have hez : (x == 0) = false := by simpa using hz
        rw [hez] at heq
        clear hz hez
        go_wp2_with (with_reducible refine wpl_loadW HA.out hun HXE.out rfl rfl _ rfl rfl ?_)
        go_loopw [10] (fun sx wq => ∃ s : Nat, s ≤ k ∧ sx = .int .i64 s ∧ Wd wq (gb + 1) N (fwdC k N fit F (u * k + s)) ∧ Below Wb.heap.size Wb wq) (fun sx _ => k - (intOf sx).toNat)
        -- INNER
        case atStart => exact ⟨0, by omega, rfl, by rw [Nat.add_zero]; exact HO.out, HB.out⟩
        clear heq
        have hA0 := HAb.out
        have HAB := HAb
        clear HA HO HB hA0
        generalize wr = wo at *
        case round =>
          obtain ⟨s, hs, rfl, hO, hB⟩ := hrel
          have HO := Lib.hid hO
          have HB := Lib.hid hB
          have hA := HAb.out.up hB
          have HA := Lib.hid hA
          clear hO hB hA
          have xK := (HB.out.cell (p := ⟨gb, 0, none⟩) (by rw [HGO.out]; exact Nat.lt_succ_self _)).trans HX.out.1
          by_cases hsk : s < k
          · have xR := (HB.out.cell (p := ⟨gb, 1, none⟩) (by rw [HGO.out]; exact Nat.lt_succ_self _)).trans HX.out.2.1
            have xT := (HB.out.cell (p := ⟨gb, 2, none⟩) (by rw [HGO.out]; exact Nat.lt_succ_self _)).trans HX.out.2.2
            obtain ⟨i, hi⟩ : ∃ i, u * k + s = i := ⟨_, rfl⟩
            have hiT : u * k + s < T := by rw [HNT.out]; have h1 : (u + 1) * k ≤ N * k := Nat.mul_le_mul_right _ hun; rw [← HMU.out] at h1; omega
            obtain ⟨m, hm⟩ : ∃ m, u * k = m := ⟨_, rfl⟩
            have hmI : (u : Int) * (k : Int) = (m : Int) := by rw [← hm]; simp
            have hm256 : m ≤ 256 := by rw [← hm]; omega
            have hmsI : (m : Int) + (s : Int) = (i : Int) := by rw [← hi, ← hm]; simp
            have hi256 : i < T := by rw [← hi]; exact hiT
            obtain ⟨j, hj⟩ : ∃ j, i % N = j := ⟨_, rfl⟩
            have hjN : j < N := by rw [← hj]; exact Nat.mod_lt _ hN0
            have hjI : (i : Int) % (N : Int) = (j : Int) := by rw [← hj]; simp
            have HJE := Lib.hid hj
            have HII := Lib.hid hi
            have HIU : Hid (i / k = u) := by show _ = _; rw [← hi, Nat.mul_comm, Nat.mul_add_div (by omega), Nat.div_eq_of_lt hsk, Nat.add_zero]
            skip
            have i0 : (0 : Int) ≤ (i : Int) := by omega
            have i1 : (i : Int) < (T : Int) := by omega
            have n0 : (0 : Int) < (N : Int) := by omega
            have j0 : (0 : Int) ≤ (j : Int) := by omega
            have j1 : (j : Int) < (N : Int) := by omega
            clear hj hm
            have HGL : Hid (gb < wo.heap.size) := by show _ < _; have h1 := HGO.out; have h2 := HB.out.size; omega
            by_cases hlb : lb < 0
            · obtain ⟨Q, hQ⟩ : ∃ Q : Int, ((i / k ^ r % k : Nat) : Int) = Q := ⟨_, rfl⟩
              have HQ : Hid ((if lb < 0 then ((i / k ^ r % k : Nat) : Int) else lb) = Q) := by show _ = _; rw [if_pos hlb]; exact hQ
              have hTp : T = k ^ (2 * r + 1) := by rw [HTb.out.len]; exact HH.out.len
              have HDG := Lib.hid (fun V => dig_mid k r i Q V hk HH.out.k4 HH.out.r3 (by omega) (by rw [← hTp]; exact hi256) hQ)
              have r3 := HH.out.r3
              have v1 : IntKind.i64.wrap (2 * (r : Int)) = 2 * (r : Int) := IntWalk.i64_in _ (by omega)
              have v2 : IntKind.i64.wrap (2 * (r : Int) + 1) = 2 * (r : Int) + 1 := IntWalk.i64_in _ (by omega)
              have r0 : (0 : Int) ≤ (r : Int) := by omega
              have r1 : (r : Int) < ((2 * r + 1 : Nat) : Int) := by omega
              have r2 : (r : Int) < 2 * (r : Int) + 1 := by omega
              clear hQ hTp
              go_upto_region 13 with (fail)
              go_cut [12] from 28 to 77 (fun s12 wx => s12 = .int .i64 Q ∧ Below wo.heap.size wo wx)
              case first =>
                go_region_with ((go_at_call 87; (with_reducible refine (HDG.out _).mono ?_); rintro e w4 ⟨gd, rfl, c4, hb4⟩; have hbb := (bnil wo).drew.trans hb4; have xK4 := (hbb.cell (p := ⟨gb, 0, none⟩) HGL.out).trans xK; have xR4 := (hbb.cell (p := ⟨gb, 1, none⟩) HGL.out).trans xR; have HBB := Lib.hid hbb; clear hb4 hbb))
                all_goals
                  go_wp2_with fail
                  go_meet
                  exact ⟨rfl, HBB.out⟩
              case rest =>
                obtain ⟨rfl, hbx⟩ := hcut
                have HO := Lib.hid (HO.out.up hbx)
                have HA := Lib.hid (HA.out.up hbx)
                have xK := (hbx.cell (p := ⟨gb, 0, none⟩) HGL.out).trans xK
                have xT := (hbx.cell (p := ⟨gb, 2, none⟩) HGL.out).trans xT
                have HB := Lib.hid (HB.out.trans (hbx.mono HB.out.size))
                clear hbx v1 v2 r0 r1 r2 r3 HDG
                have ct := HCT.out (u * k + s) hiT
                rw [hi] at ct
                have ctq := (HB.out.cell (p := ⟨bt, ot + i, none⟩) HBT.out).trans ct
                clear ct
                by_cases hf : tb.getD i 0 = Q
                · have hff : fit i = true := by rw [← HFIT.out]; exact decide_eq_true (by rw [HQ.out]; exact hf)
                  have HFF := Lib.hid hff
                  clear hff
                  rw [hf] at ctq
                  have HJ9 : Hid (∀ v, v < N → upd (fwdC k N fit F i) j (fwdC k N fit F i j + x) v = fwdC k N fit F (i + 1) v) := fun v _ => by
                    by_cases e : v = j
                    · subst e; rw [upd_self, fwdC_succ, if_pos ⟨HJE.out, HFF.out⟩, HIU.out, HXE.out]
                    · rw [upd_ne _ _ e, fwdC_succ, if_neg (fun q => e (q.1.symm.trans HJE.out)), Nat.add_zero]
                  obtain ⟨y, hy⟩ : ∃ y, fwdC k N fit F i j = y := ⟨_, rfl⟩
                  have hO2 : Wd wc (gb + 1) N (fwdC k N fit F i) := by rw [← hi]; exact HO.out
                  have HO2 := Lib.hid hO2
                  obtain ⟨p0, p1, p2, p3, p4, p5, p6, p7, p8, p9⟩ := wd_cells hO2 hjN hy
                  obtain ⟨r0, r1, r2, r3, r4, r5, r6, r7, r8, r9⟩ := wd_cells HA.out hun HXE.out
                  rw [hy] at HJ9
                  have HY := Lib.hid hy
                  clear hO2 hy HO
                  have hjT : (i : Int).tmod (N : Int) = (j : Int) := by rw [Int.tmod_eq_emod_of_nonneg (by omega)]; exact hjI
                  have hjw : IntKind.i64.wrap (j : Int) = (j : Int) := IntWalk.i64_in _ (by omega)
                  have hnz : ((N : Int) == 0) = false := by rw [beq_eq_false_iff_ne]; omega
                  have hnz2 : ((N : Int) != 0) = true := by simp; omega
                  go_wp2_with fail
                  go_region_with ((go_at_call 134; (with_reducible refine (wsum_lit y x _).mono ?_); rintro e w4 ⟨rfl, hb4⟩; have H4 := Lib.hid ((bnil wc).drew.trans hb4); have hO4 := HO2.out.up H4.out; obtain ⟨s0, s1, s2, s3, s4, s5, s6, s7, s8, s9⟩ := wd_cells hO4 hjN HY.out; obtain ⟨f0, f1, f2, f3, f4, f5, f6, f7, f8, f9⟩ := wd_froz hO4 hjN; have HO4 := Lib.hid hO4; clear hb4 hO4))
                  all_goals
                    have HN := Lib.hid ((HO4.out.put hjN (y + x)).congr HJ9.out)
                    have HBN : Hid (Below Wb.heap.size Wb _) := setCells_below (g := gb + 1) (by rw [HGO.out]; exact Nat.le_refl _) (WL (dg (y + x))) (j * 10) w4 (HB.out.trans (H4.out.mono HB.out.size))
                    go_wp2
                    go_roundw
                    case rel => exact ⟨s + 1, by omega, by go_num, by rw [show u * k + (s + 1) = i + 1 by rw [← HII.out]; omega]; exact HN.out, HBN.out⟩
                    case measure => simp [intOf]; omega
                · have hff : fit i = false := by rw [← HFIT.out]; exact decide_eq_false (by rw [HQ.out]; exact hf)
                  have HN : Hid (Wd wc (gb + 1) N (fwdC k N fit F (u * k + (s + 1)))) := HO.out.congr fun v _ => by rw [← Nat.add_assoc, fwdC_skip (.inl (by rw [hi]; exact hff))]
                  generalize tb.getD i 0 = z at *
                  have hzq : (z == Q) = false := by simpa using hf
                  clear hff hf
                  go_wp2
                  go_roundw
                  case rel => exact ⟨s + 1, by omega, by go_num, HN.out, HB.out⟩
                  case measure => simp [intOf]; omega
            · obtain ⟨Q, hQ⟩ : ∃ Q : Int, lb = Q := ⟨_, rfl⟩
              have HQ : Hid ((if lb < 0 then ((i / k ^ r % k : Nat) : Int) else lb) = Q) := by show _ = _; rw [if_neg hlb]; exact hQ
              subst hQ
              have ct := HCT.out (u * k + s) hiT
              rw [hi] at ct
              have ctq := (HB.out.cell (p := ⟨bt, ot + i, none⟩) HBT.out).trans ct
              clear ct
              by_cases hf : tb.getD i 0 = lb
              · have hff : fit i = true := by rw [← HFIT.out]; exact decide_eq_true (by rw [HQ.out]; exact hf)
                have HFF := Lib.hid hff
                clear hff
                rw [hf] at ctq
                have HJ9 : Hid (∀ v, v < N → upd (fwdC k N fit F i) j (fwdC k N fit F i j + x) v = fwdC k N fit F (i + 1) v) := fun v _ => by
                  by_cases e : v = j
                  · subst e; rw [upd_self, fwdC_succ, if_pos ⟨HJE.out, HFF.out⟩, HIU.out, HXE.out]
                  · rw [upd_ne _ _ e, fwdC_succ, if_neg (fun q => e (q.1.symm.trans HJE.out)), Nat.add_zero]
                obtain ⟨y, hy⟩ : ∃ y, fwdC k N fit F i j = y := ⟨_, rfl⟩
                have hO2 : Wd wo (gb + 1) N (fwdC k N fit F i) := by rw [← hi]; exact HO.out
                have HO2 := Lib.hid hO2
                obtain ⟨p0, p1, p2, p3, p4, p5, p6, p7, p8, p9⟩ := wd_cells hO2 hjN hy
                obtain ⟨r0, r1, r2, r3, r4, r5, r6, r7, r8, r9⟩ := wd_cells HA.out hun HXE.out
                rw [hy] at HJ9
                have HY := Lib.hid hy
                clear hO2 hy HO
                have hjT : (i : Int).tmod (N : Int) = (j : Int) := by rw [Int.tmod_eq_emod_of_nonneg (by omega)]; exact hjI
                have hjw : IntKind.i64.wrap (j : Int) = (j : Int) := IntWalk.i64_in _ (by omega)
                have hnz : ((N : Int) == 0) = false := by rw [beq_eq_false_iff_ne]; omega
                have hnz2 : ((N : Int) != 0) = true := by simp; omega
                go_wp2_with fail
                go_region_with ((go_at_call 134; (with_reducible refine (wsum_lit y x _).mono ?_); rintro e w4 ⟨rfl, hb4⟩; have H4 := Lib.hid ((bnil wo).drew.trans hb4); have hO4 := HO2.out.up H4.out; obtain ⟨s0, s1, s2, s3, s4, s5, s6, s7, s8, s9⟩ := wd_cells hO4 hjN HY.out; obtain ⟨f0, f1, f2, f3, f4, f5, f6, f7, f8, f9⟩ := wd_froz hO4 hjN; have HO4 := Lib.hid hO4; clear hb4 hO4))
                all_goals
                  have HN := Lib.hid ((HO4.out.put hjN (y + x)).congr HJ9.out)
                  have HBN : Hid (Below Wb.heap.size Wb _) := setCells_below (g := gb + 1) (by rw [HGO.out]; exact Nat.le_refl _) (WL (dg (y + x))) (j * 10) w4 (HB.out.trans (H4.out.mono HB.out.size))
                  go_wp2
                  go_roundw
                  case rel => exact ⟨s + 1, by omega, by go_num, by rw [show u * k + (s + 1) = i + 1 by rw [← HII.out]; omega]; exact HN.out, HBN.out⟩
                  case measure => simp [intOf]; omega
              · have hff : fit i = false := by rw [← HFIT.out]; exact decide_eq_false (by rw [HQ.out]; exact hf)
                have HN : Hid (Wd wo (gb + 1) N (fwdC k N fit F (u * k + (s + 1)))) := HO.out.congr fun v _ => by rw [← Nat.add_assoc, fwdC_skip (.inl (by rw [hi]; exact hff))]
                generalize tb.getD i 0 = z at *
                have hzq : (z == lb) = false := by simpa using hf
                clear hff hf
                go_wp2
                go_roundw
                case rel => exact ⟨s + 1, by omega, by go_num, HN.out, HB.out⟩
                case measure => simp [intOf]; omega
          · obtain rfl : s = k := by omega
            have HN : Hid (Wd wo (gb + 1) N (fwdC s N fit F ((u + 1) * s))) := by rw [← HMU.out]; exact HO.out
            go_wp2
            go_roundw
            case rel => exact ⟨u + 1, by omega, by go_num, HN.out, HB.out⟩
            case measure => simp [intOf]; omega
    · obtain rfl : u = N := by omega
      go_wp2
      go_ret
      exact ⟨gb + 1, _, rfl, HO.out, by rw [HGB.out]; omega, by rw [HGB.out]; exact HRB.out.trans (HB.out.mono (by have := HGO.out; omega))⟩
end Go.Proofs.YteneiianpghalaaDoor
