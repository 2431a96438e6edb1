/- edenref17: numbers of ten words of 64 bits: their digits, their cells, their sum. edenref04.Digits, edenref08.Count, told. -/
import Derived.Test.YteneiianpghalaaDoorR02C
import Derived.Test.YteneiianpghalaaDoorBase
import Derived.Deep.MidRow
import Derived.Deep.Cut
import Derived.Deep.LoopGhost
import Derived.Laws.Externs
import Derived.Test.YteneiianpghalaaDoorRuleR
import Derived.Test.YteneiianpghalaaDoorCntX
import Derived.Test.YteneiianpghalaaDoorLent
namespace Go.Proofs.YteneiianpghalaaDoor
open Go.RowKit
set_option linter.unusedVariables false
set_option maxRecDepth 100000

abbrev W64 : Nat := 18446744073709551616
/-- the digit number j of x in base 2^64 -/
def dg (x j : Nat) : Nat := x / W64 ^ j % W64
def WL (d : Nat → Nat) : List Value := (List.range 10).map fun j => .int .u64 ((d j : Nat) : Int)
theorem WL_len (d : Nat → Nat) : (WL d).length = 10 := by simp [WL]
theorem WL_at (d : Nat → Nat) {j : Nat} (h : j < 10) : (WL d)[j]? = some (.int .u64 ((d j : Nat) : Int)) := by simp [WL, h]
theorem WL_one (d : Nat → Nat) : ∀ v ∈ WL d, v.oneCell' = true := fun v hv => by
  simp only [WL, List.mem_map] at hv
  obtain ⟨j, _, rfl⟩ := hv
  rfl
theorem WL_congr {d e : Nat → Nat} (h : ∀ j, j < 10 → d j = e j) : WL d = WL e := by
  unfold WL
  refine List.map_congr_left fun j hj => ?_
  rw [h j (by simpa using hj)]
theorem WL_inj {d e : Nat → Nat} (h : WL d = WL e) : ∀ j, j < 10 → d j = e j := fun j hj => by
  have h1 := WL_at d hj
  rw [h, WL_at e hj] at h1
  simp at h1
  omega
theorem WL_set (d : Nat → Nat) {i : Nat} (x : Nat) (hi : i < 10) : (WL d).set i (.int .u64 ((x : Nat) : Int)) = WL (fun j => if j = i then x else d j) := by
  refine List.ext_getElem? fun j => ?_
  by_cases hj : j < 10
  · rw [WL_at _ hj, List.getElem?_set]
    by_cases e : i = j
    · subst e; simp [WL_len, hi]
    · rw [if_neg e, WL_at _ hj, if_neg (fun q => e q.symm)]
  · rw [List.getElem?_eq_none (by rw [List.length_set, WL_len]; omega), List.getElem?_eq_none (by rw [WL_len]; omega)]
theorem dg_lt (x j : Nat) : dg x j < W64 := Nat.mod_lt _ (by decide)
/-- the carry ahead of digit i -/
def cy (a b i : Nat) : Nat := (a % W64 ^ i + b % W64 ^ i) / W64 ^ i
theorem cy_le (a b i : Nat) : cy a b i ≤ 1 := by
  unfold cy
  have hp : 0 < W64 ^ i := Nat.pow_pos (by decide)
  have h1 := Nat.mod_lt a hp
  have h2 := Nat.mod_lt b hp
  generalize W64 ^ i = M at *
  have : (a % M + b % M) / M < 2 := by rw [Nat.div_lt_iff_lt_mul hp]; omega
  omega
theorem cy_zero (a b : Nat) : cy a b 0 = 0 := by simp [cy, Nat.mod_one]
theorem mod_succ64 (a i : Nat) : a % W64 ^ (i + 1) = a % W64 ^ i + W64 ^ i * dg a i := by
  rw [Nat.pow_succ, Nat.mod_mul]; rfl
theorem sum_div (a b i : Nat) : (a + b) / W64 ^ i = a / W64 ^ i + b / W64 ^ i + cy a b i := by
  have hp : 0 < W64 ^ i := Nat.pow_pos (by decide)
  unfold cy
  generalize W64 ^ i = M at *
  have e : a + b = (a % M + b % M) + M * (a / M + b / M) := by
    have h1 := Nat.mod_add_div a M
    have h2 := Nat.mod_add_div b M
    rw [Nat.mul_add]; omega
  rw [e, Nat.add_mul_div_left _ _ hp]
  omega
theorem cy_succ (a b i : Nat) : (dg a i + dg b i + cy a b i) % W64 = dg (a + b) i ∧ (dg a i + dg b i + cy a b i) / W64 = cy a b (i + 1) := by
  have hp : 0 < W64 ^ i := Nat.pow_pos (by decide)
  constructor
  · unfold dg
    rw [sum_div a b i]
    generalize a / W64 ^ i = u
    generalize b / W64 ^ i = v
    generalize cy a b i = c
    clear hp
    show (u % 18446744073709551616 + v % 18446744073709551616 + c) % 18446744073709551616 = (u + v + c) % 18446744073709551616
    omega
  · have h1 : cy a b (i + 1) = (a % W64 ^ (i + 1) + b % W64 ^ (i + 1)) / W64 ^ (i + 1) := rfl
    rw [h1, mod_succ64, mod_succ64, Nat.pow_succ, ← Nat.div_div_eq_div_mul]
    have h2 : (a % W64 ^ i + W64 ^ i * dg a i + (b % W64 ^ i + W64 ^ i * dg b i)) / W64 ^ i = dg a i + dg b i + cy a b i := by
      unfold cy
      have e : a % W64 ^ i + W64 ^ i * dg a i + (b % W64 ^ i + W64 ^ i * dg b i) = (a % W64 ^ i + b % W64 ^ i) + W64 ^ i * (dg a i + dg b i) := by rw [Nat.mul_add]; omega
      rw [e, Nat.add_mul_div_left _ _ hp]
      omega
    rw [h2]

theorem add64 (x y c : Nat) (hc : c ≤ 1) (w : World) :
    (callFunc 164 #[.int .u64 (x : Int), .int .u64 (y : Int), .int .u64 (c : Int)]).run Tryd.prog w =
      .ok (.value (.tuple #[.int .u64 (((x + y + c) % W64 : Nat) : Int), .int .u64 (((x + y + c) / W64 : Nat) : Int)])) w := by
  rw [run_callFunc_extern Tryd.func164 (by kernel_rfl) (by kernel_rfl) (by kernel_rfl) (e := add64Entry) (by kernel_rfl), run_add64 x y c (by omega) (by omega) (by omega) (by omega)]
  simp only [Result.andThen]
  congr 5 <;> omega

theorem wl_zero : (#[.int .u64 0, .int .u64 0, .int .u64 0, .int .u64 0, .int .u64 0, .int .u64 0, .int .u64 0, .int .u64 0, .int .u64 0, .int .u64 0] : Array Value) = (WL fun _ => 0).toArray := rfl
/-- a box of ten words -/
def Bx (w : World) (g : Nat) (d : Nat → Nat) : Prop := w.heap[g]? = some (.cells (WL d).toArray 161)
theorem Bx.cell {w : World} {g : Nat} {d : Nat → Nat} (h : Bx w g d) {i : Nat} (hi : i < 10) : w.cell? ⟨g, i, none⟩ = some (.int .u64 ((d i : Nat) : Int)) := by
  rw [cell_of_row w g i _ _ _ h]
  have := WL_at d hi
  simpa using this
theorem Bx.frozen {w : World} {g : Nat} {d : Nat → Nat} (h : Bx w g d) (i : Nat) : w.frozen? ⟨g, i, none⟩ = false := by
  unfold Bx at h
  simp [World.frozen?, h]
theorem Bx.lt {w : World} {g : Nat} {d : Nat → Nat} (h : Bx w g d) : g < w.heap.size := (Array.getElem?_eq_some_iff.1 h).1
theorem Bx.range {w : World} {g : Nat} {d : Nat → Nat} (h : Bx w g d) : w.rangeAt g 0 (WL d) := fun j v hv => by
  rw [cell_of_row w g _ _ _ _ h]
  simpa using hv
theorem Bx.there {w : World} {g : Nat} {d : Nat → Nat} (h : Bx w g d) : w.there g 0 10 := fun j hj => ⟨by have := h.cell hj; simp [this], h.frozen _⟩
theorem Bx.up {w w' : World} {g : Nat} {d : Nat → Nat} (h : Bx w g d) (hb : Below w.heap.size w w') : Bx w' g d := (hb.block _ h.lt).trans h
theorem Bx.set {w : World} {g : Nat} {d : Nat → Nat} (h : Bx w g d) {i x : Nat} (hi : i < 10) : Bx (w.setCell ⟨g, i, none⟩ (.int .u64 ((x : Nat) : Int))) g (fun j => if j = i then x else d j) := by
  unfold Bx at h ⊢
  rw [← WL_set d x hi]
  simp [World.setCell, Array.getElem?_modify, h]
theorem Bx.other {w : World} {g g2 : Nat} {d : Nat → Nat} (h : Bx w g d) (hne : g ≠ g2) (i : Nat) (v : Value) : Bx (w.setCell ⟨g2, i, none⟩ v) g d := by
  unfold Bx
  rw [Below.heap_setCell _ _ _ _ hne]
  exact h
theorem heap4 (W : World) (A B C D : Obj) : ((((W.alloc A).alloc B).alloc C).alloc D).heap[W.heap.size]? = some A ∧ ((((W.alloc A).alloc B).alloc C).alloc D).heap[W.heap.size + 1]? = some B ∧ ((((W.alloc A).alloc B).alloc C).alloc D).heap[W.heap.size + 1 + 1]? = some C ∧ ((((W.alloc A).alloc B).alloc C).alloc D).heap[W.heap.size + 1 + 1 + 1]? = some D := by
  show ((((W.heap.push A).push B).push C).push D)[W.heap.size]? = some A ∧ ((((W.heap.push A).push B).push C).push D)[W.heap.size + 1]? = some B ∧ ((((W.heap.push A).push B).push C).push D)[W.heap.size + 1 + 1]? = some C ∧ ((((W.heap.push A).push B).push C).push D)[W.heap.size + 1 + 1 + 1]? = some D
  simp only [Array.getElem?_push, Array.size_push]
  refine ⟨?_, ?_, ?_, ?_⟩
  · rw [if_neg (by omega), if_neg (by omega), if_neg (by omega), if_pos trivial]
  · rw [if_neg (by omega), if_neg (by omega), if_pos trivial]
  · rw [if_neg (by omega), if_pos trivial]
  · rw [if_pos trivial]
/-- a whole box read, a whole box written -/
theorem bx_load {w : World} {g : Nat} {d : Nat → Nat} (h : Bx w g d) : (Instr.loadAt 161 (.pointer (some ⟨g, 0, none⟩))).run Tryd.prog w = .ok (.agg (WL d).toArray) w :=
  run_loadAt_mid w g 0 _ (WL d) (.array 10 37) h.range (by kernel_rfl) rfl (by rw [WL_len]; kernel_rfl)
theorem bx_store {w : World} {g : Nat} {d e : Nat → Nat} (h : Bx w g d) : (Instr.storeAt 161 (.pointer (some ⟨g, 0, none⟩)) (.agg (WL e).toArray)).run Tryd.prog w = .ok () (w.setCells g 0 (WL e)) :=
  run_storeAt_mid w g 0 _ (WL e).toArray (by simpa [WL_len] using h.there) (by simp only [List.size_toArray, WL_len]; kernel_rfl) (all_oneCell_toArray (WL_one e))
theorem setCells_heap (g k : Nat) (hk : k ≠ g) : ∀ (vs : List Value) (o : Nat) (w : World), (w.setCells g o vs).heap[k]? = w.heap[k]?
  | [], _, _ => rfl
  | v :: r, o, w => by rw [World.setCells, setCells_heap g k hk r, Below.heap_setCell _ _ _ _ hk]
theorem setCells_size (g : Nat) : ∀ (vs : List Value) (o : Nat) (w : World), (w.setCells g o vs).heap.size = w.heap.size
  | [], _, _ => rfl
  | v :: r, o, w => by rw [World.setCells, setCells_size g r]; simp [World.setCell]
theorem setCells_below {B g : Nat} (hB : B ≤ g) {W : World} : ∀ (vs : List Value) (o : Nat) (w : World), Below B W w → Below B W (w.setCells g o vs)
  | [], _, _, h => h
  | v :: r, o, w, h => by rw [World.setCells]; exact setCells_below hB r _ _ (h.setCell (p := ⟨g, o, none⟩) hB v)
theorem bx_set10 {w : World} {g : Nat} {d : Nat → Nat} (h : Bx w g d) (e : Nat → Nat) : Bx (w.setCells g 0 (WL e)) g e := by
  unfold Bx at h ⊢
  simp [WL, List.range_succ, World.setCells, World.setCell, Array.getElem?_modify, h]
theorem wpl_load {ops : Array Oper} {rest : List Oper} {op : Oper} {ac : Act} {w : World} {Q : Exit → Act → World → Prop} {g : Nat} {d : Nat → Nat} (h : Bx w g d) (hgd : op.guard = none) (x : Operand) (ho : op.op = .load 161 x) (hx : ac.eval x = .pointer (some ⟨g, 0, none⟩))
    (hK : wpList Tryd.prog ops Q rest (ac.put op.dst (.agg (WL d).toArray)) w) : wpList Tryd.prog ops Q (op :: rest) ac w :=
  wpList_load_mid hgd _ x ho g 0 hx (WL d) (.array 10 37) h.range (by kernel_rfl) rfl (by rw [WL_len]; kernel_rfl) hK
theorem wpl_store {ops : Array Oper} {rest : List Oper} {op : Oper} {ac : Act} {w : World} {Q : Exit → Act → World → Prop} {g : Nat} {d e : Nat → Nat} (h : Bx w g d) (hgd : op.guard = none) (x y : Operand) (ho : op.op = .store 161 x y) (hx : ac.eval x = .pointer (some ⟨g, 0, none⟩)) (hy : ac.eval y = .agg (WL e).toArray)
    (hK : ∀ w9, (∀ k, k ≠ g → w9.heap[k]? = w.heap[k]?) → w9.heap.size = w.heap.size → (∀ (V : World) (B : Nat), B ≤ g → Below B V w → Below B V w9) → Bx w9 g e → wpList Tryd.prog ops Q rest (ac.put op.dst undef) w9) : wpList Tryd.prog ops Q (op :: rest) ac w :=
  wpList_store_mid hgd _ x y ho g 0 (WL e).toArray hx hy (by simpa [WL_len] using h.there) (by simp only [List.size_toArray, WL_len]; kernel_rfl) (all_oneCell_toArray (WL_one e)) (hK _ (fun k hk => setCells_heap g k hk _ _ _) (setCells_size _ _ _ _) (fun V B hB hb => setCells_below hB _ _ _ hb) (bx_set10 h e))
theorem wsum_step (a b i j : Nat) : (if j = i then dg (a + b) i else if j < i then dg (a + b) j else 0) = if j < i + 1 then dg (a + b) j else 0 := by
  by_cases e : j = i
  · subst e; rw [if_pos rfl, if_pos (by omega)]
  · rw [if_neg e]
    by_cases h : j < i
    · rw [if_pos h, if_pos (by omega)]
    · rw [if_neg h, if_neg (by omega)]

set_option maxHeartbeats 8000000 in
theorem wsum_any (a b : Nat) (W : World) :
    Calls Tryd.prog 134 #[.agg (WL (dg a)).toArray, .agg (WL (dg b)).toArray] W fun e w' => e = .returned (.agg (WL (dg (a + b))).toArray) ∧ Below W.heap.size W w' := by
  go_enter Tryd.func134, Tryd.ntmps134
  go_wp2_with fail
  simp only [wl_zero]
  obtain ⟨Wb, hWb⟩ : ∃ Wb, (((W.alloc (.cells (WL (dg a)).toArray 161)).alloc (.cells (WL (dg b)).toArray 161)).alloc (.cells (WL fun _ => 0).toArray 161)).alloc (.cells (WL fun _ => 0).toArray 161) = Wb := ⟨_, rfl⟩
  obtain ⟨g, hg⟩ : ∃ g, W.heap.size = g := ⟨_, rfl⟩
  have h4 := heap4 W (.cells (WL (dg a)).toArray 161) (.cells (WL (dg b)).toArray 161) (.cells (WL fun _ => 0).toArray 161) (.cells (WL fun _ => 0).toArray 161)
  rw [hWb, hg] at h4
  have HA : Hid (Bx Wb g (dg a)) := h4.1
  have HBB : Hid (Bx Wb (g + 1) (dg b)) := h4.2.1
  have HC : Hid (Bx Wb (g + 1 + 1) (fun _ => 0)) := h4.2.2.1
  have HO : Hid (Bx Wb (g + 1 + 1 + 1) (fun j => if j < 0 then dg (a + b) j else 0)) := by
    show Wb.heap[g + 1 + 1 + 1]? = some (.cells (WL fun j => if j < 0 then dg (a + b) j else 0).toArray _)
    rw [WL_congr (e := fun _ => 0) (fun j _ => by simp)]
    exact h4.2.2.2
  clear h4
  have HBE : Hid (Below W.heap.size W Wb) := by show Below _ _ _; rw [← hWb]; exact balloc (balloc (balloc (balloc (bnil W) _) _) _) _
  have HG := Lib.hid hg
  rw [hWb]
  simp only [hg]
  clear hWb hg
  go_loopw [6, 7] (fun cx ix wr => ∃ i : Nat, i ≤ 10 ∧ ix = .int .i64 i ∧ cx = .int .u64 ((cy a b i : Nat) : Int) ∧ Bx wr g (dg a) ∧ Bx wr (g + 1) (dg b) ∧ Bx wr (g + 1 + 1) (fun _ => 0) ∧ Bx wr (g + 1 + 1 + 1) (fun j => if j < i then dg (a + b) j else 0) ∧ Below W.heap.size W wr) (fun _ ix _ => 10 - (intOf ix).toNat)
  case atStart => exact ⟨0, by omega, rfl, by rw [cy_zero]; rfl, HA.out, HBB.out, HC.out, HO.out, HBE.out⟩
  case round =>
    clear HA HBB HC HO HBE
    obtain ⟨i, hi, rfl, rfl, ha, hb, hc, ho, hbe⟩ := hrel
    have HA := Lib.hid ha
    have HB := Lib.hid hb
    have HC := Lib.hid hc
    have HO := Lib.hid ho
    have HBE := Lib.hid hbe
    by_cases hin : i < 10
    · have xa := ha.cell hin
      have xb := hb.cell hin
      have xo := ho.cell hin
      have fo := ho.frozen i
      have hcy := cy_le a b i
      have HS := Lib.hid (cy_succ a b i)
      obtain ⟨x, hx⟩ : ∃ x, dg a i = x := ⟨_, rfl⟩
      obtain ⟨y, hy⟩ : ∃ y, dg b i = y := ⟨_, rfl⟩
      obtain ⟨c, hcc⟩ : ∃ c, cy a b i = c := ⟨_, rfl⟩
      rw [hx] at xa HS
      rw [hy] at xb HS
      rw [hcc] at hcy HS
      simp only [hcc]
      have hadd := add64 x y c hcy
      rw [HS.out.1, HS.out.2] at hadd
      have i0 : (0 : Int) ≤ (i : Int) := by omega
      have i1 : (i : Int) < 10 := by omega
      clear ha hb hc ho hbe hx hy hcc hcy
      go_wp2_with fail
      go_region_with (fail)
      all_goals
        have HN : Hid (∀ v w, w = v → Bx w (g + 1 + 1 + 1) (fun j => if j = i then dg (a + b) i else if j < i then dg (a + b) j else 0) → Bx w (g + 1 + 1 + 1) (fun j => if j < i + 1 then dg (a + b) j else 0)) := fun v w _ h => by rwa [funext (wsum_step a b i)] at h
        go_wp2
        go_roundw
        case rel => exact ⟨i + 1, by omega, by go_num, rfl, (HA.out.up (bnil _).drew).other (by omega) _ _, (HB.out.up (bnil _).drew).other (by omega) _ _, (HC.out.up (bnil _).drew).other (by omega) _ _, HN.out _ _ rfl ((HO.out.up (bnil _).drew).set hin), (HBE.out.drew).setCell (p := ⟨g + 1 + 1 + 1, i, none⟩) (show _ ≤ g + 1 + 1 + 1 by rw [HG.out]; omega) _⟩
        case measure => simp [intOf]; omega
    · obtain rfl : i = 10 := by omega
      clear ha hb hc ho hbe
      go_wp2_with (first
        | (with_reducible refine wpl_load HO.out rfl _ rfl rfl ?_)
        | (with_reducible refine wpl_store HC.out rfl _ _ rfl rfl rfl ?_; intro w9 hk hs hbl h9; have H9 := Lib.hid h9; have HBE9 := Lib.hid (hbl _ _ (by rw [HG.out]; omega) HBE.out); clear hk hs hbl h9))
      refine bodyPost_ret (results_cell_row (p := 4) (ty := 161) rfl _ w9 (g + 1 + 1) _ _ _ (.array 10 37) rfl H9.out (by kernel_rfl) rfl (by simp only [List.size_toArray, WL_len]; kernel_rfl)) rfl ⟨?_, HBE9.out⟩
      rw [WL_congr (e := dg (a + b)) fun j hj => if_pos hj]
end Go.Proofs.YteneiianpghalaaDoor
namespace Go.Proofs.YteneiianpghalaaDoor
open Go.RowKit
set_option linter.unusedVariables false
set_option maxRecDepth 100000

/-- the word of n symbols that writes X: the symbols from place n - s on; 0 ahead -/
def dlL (k n X s : Nat) : List Int := (List.range n).map fun j => if n - 1 - j < s then ((X / k ^ (n - 1 - j) % k : Nat) : Int) else 0
theorem dlL_len (k n X s : Nat) : (dlL k n X s).length = n := by simp [dlL]
theorem dlL_at (k n X s : Nat) {j : Nat} (h : j < n) : (dlL k n X s)[j]? = some (if n - 1 - j < s then ((X / k ^ (n - 1 - j) % k : Nat) : Int) else 0) := by simp [dlL, h]
theorem dlL_step (k n X s : Nat) (hs : s < n) : (dlL k n X s).set (n - 1 - s) ((X / k ^ s % k : Nat) : Int) = dlL k n X (s + 1) := by
  refine List.ext_getElem? fun j => ?_
  by_cases hj : j < n
  · rw [dlL_at _ _ _ _ hj, List.getElem?_set]
    by_cases e : n - 1 - s = j
    · have e2 : n - 1 - j = s := by omega
      rw [if_pos e, if_pos (by rw [dlL_len]; omega), e2, if_pos (by omega)]
    · rw [if_neg e, dlL_at _ _ _ _ hj]
      by_cases h2 : n - 1 - j < s
      · rw [if_pos h2, if_pos (by omega)]
      · rw [if_neg h2, if_neg (by omega)]
  · rw [List.getElem?_eq_none (by rw [List.length_set, dlL_len]; omega), List.getElem?_eq_none (by rw [dlL_len]; omega)]
theorem dlL_zero (k n X : Nat) : dlL k n X 0 = List.replicate n 0 := by
  refine List.ext_getElem? fun j => ?_
  by_cases hj : j < n
  · rw [dlL_at _ _ _ _ hj, if_neg (by omega)]; simp [hj]
  · rw [List.getElem?_eq_none (by rw [dlL_len]; omega), List.getElem?_eq_none (by simp; omega)]
theorem digsF_at {k : Nat} (hk : 0 < k) : ∀ n X j, X < k ^ n → j < n → (digsF k n X)[j]? = some ((X / k ^ (n - 1 - j) % k : Nat) : Int)
  | 0, _, _, _, h => by omega
  | n + 1, X, 0, hX, _ => by
    have : X / k ^ n < k := Nat.div_lt_of_lt_mul (by rw [← Nat.pow_succ]; exact hX)
    rw [digsF]
    simp [Nat.mod_eq_of_lt this]
  | n + 1, X, j + 1, hX, h => by
    have hN : 0 < k ^ n := Nat.pow_pos hk
    rw [digsF, List.getElem?_cons_succ, digsF_at hk n _ j (Nat.mod_lt _ hN) (by omega)]
    have e : n + 1 - 1 - (j + 1) = n - 1 - j := by omega
    rw [e]
    have hd : k ^ n = k ^ (n - 1 - j) * k ^ (j + 1) := by rw [← Nat.pow_add]; congr 1; omega
    rw [hd, Nat.mod_mul_right_div_self, Nat.mod_mod_of_dvd _ (by rw [Nat.pow_succ]; exact Nat.dvd_mul_left _ _)]
theorem dlL_digs {k n X : Nat} (hk : 0 < k) (hX : X < k ^ n) : dlL k n X n = digsF k n X := by
  refine List.ext_getElem? fun j => ?_
  by_cases hj : j < n
  · rw [dlL_at _ _ _ _ hj, if_pos (by omega), digsF_at hk n X j hX hj]
  · rw [List.getElem?_eq_none (by rw [dlL_len]; omega), List.getElem?_eq_none (by rw [digsF_len]; omega)]
theorem map_set64b (l : List Int) (k : Nat) (x : Int) : (l.map (Value.int .i64)).set k (.int .i64 x) = (l.set k x).map (Value.int .i64) := by rw [List.map_set]

set_option maxHeartbeats 4000000 in
theorem refDigits_any (k n X : Nat) (x : Int) (W : World) (hx : x = (n : Int)) (k1 : 1 ≤ k) (k4 : k ≤ 4) (hn : n ≤ 4096) (hX : X ≤ 100000000) (hlt : X < k ^ n) :
    Calls Tryd.prog 87 #[.int .i64 k, .int .i64 x, .int .i64 X] W fun e w' => e = .returned (.slice (some ⟨W.heap.size, 0, none⟩) n n) ∧ w'.ownsRow W.heap.size 3 1 (.slice (some ⟨W.heap.size, 0, none⟩) n n) n ((digsF k n X).map (Value.int .i64)) ∧ Below W.heap.size W w' := by
  subst hx
  have HLT := Lib.hid hlt
  clear hlt
  go_enter Tryd.func87, Tryd.ntmps87
  go_wp2_with (first
    | (at_make; refine mk_full rfl _ _ _ rfl W.heap.size et_int .i64 .i64 _ _ n rfl rfl rfl rfl (by omega) (by unfold maxLen; omega) (Nat.le_refl _) ?_; intro w1 hown1 hb1 hsz1; rw [made_i64'] at hown1))
  rw [← dlL_zero k n X] at hown1
  have HOWN := Lib.hid hown1
  have HB1 := Lib.hid hb1
  clear hown1 hb1 hsz1
  obtain ⟨g, hg⟩ : ∃ g, W.heap.size = g := ⟨_, rfl⟩
  rw [hg] at HOWN
  simp only [hg]
  have HG := Lib.hid hg
  clear hg
  go_loopw [2, 8] (fun xx ix wr => ∃ (s Y : Nat), s ≤ n ∧ ix = .int .i64 ((n : Int) - 1 - s) ∧ xx = .int .i64 (Y : Int) ∧ Y ≤ 100000000 ∧ Hid (Y = X / k ^ s) ∧ wr.ownsRow g 3 1 (.slice (some ⟨g, 0, none⟩) n n) n ((dlL k n X s).map (Value.int .i64)) ∧ Below g W wr) (fun _ ix _ => (intOf ix + 1).toNat)
  case atStart => exact ⟨0, X, by omega, by simp, rfl, hX, by show _ = _; simp, HOWN.out, by rw [← HG.out]; exact HB1.out⟩
  case round =>
    clear HOWN HB1
    obtain ⟨s, Y, hs, rfl, rfl, hY, HY, hown, hb⟩ := hrel
    have HO := Lib.hid hown
    have HB := Lib.hid hb
    by_cases hsn : s < n
    · obtain ⟨p, hp⟩ : ∃ p : Nat, n - 1 - s = p := ⟨_, rfl⟩
      have hpI : (n : Int) - 1 - s = (p : Int) := by omega
      have hpn : p < n := by omega
      rw [hpI]
      have c0 : wr.cell? ⟨g, p, none⟩ = some (.int .i64 ((dlL k n X s).getD p 0)) := by
        rw [hown.cellAt p (by omega)]; simp [dlL_len, hpn]
      have f0 := hown.frozenAt p
      have hst := own_set hown p (.int .i64 ((X / k ^ s % k : Nat) : Int))
      rw [map_set64b, ← hp, dlL_step k n X s hsn, hp, ← HY.out] at hst
      have HST := Lib.hid hst
      have HPI := Lib.hid hpI
      have k0 : (0 : Int) < (k : Int) := by omega
      have y0 : (0 : Int) ≤ (Y : Int) := by omega
      have p0 : (0 : Int) ≤ (p : Int) := by omega
      have p1 : (p : Int) < (n : Int) := by omega
      have em : (Y : Int) % (k : Int) = ((Y % k : Nat) : Int) := by simp
      obtain ⟨D, hD⟩ : ∃ D, Y / k = D := ⟨_, rfl⟩
      have hDl : D ≤ 100000000 := by rw [← hD]; exact Nat.le_trans (Nat.div_le_self _ _) hY
      have ed : (Y : Int) / (k : Int) = (D : Int) := by rw [← hD]; simp
      have HD : Hid (D = X / k ^ (s + 1)) := by show _ = _; rw [← hD, HY.out, Nat.div_div_eq_div_mul]; rfl
      have HPS : Hid ((p : Int) - 1 = (n : Int) - 1 - ((s + 1 : Nat) : Int)) := by show _ = _; omega
      generalize (dlL k n X s).getD p 0 = z2 at *
      clear hown hb hst hp hpI hD HY
      generalize Y % k = r at *
      go_wp2
      go_roundw
      case rel => exact ⟨s + 1, D, by omega, by first | rw [HPS.out] | (congr 1; exact HPS.out), rfl, hDl, HD, HST.out, HB.out.setCell (p := ⟨g, p, none⟩) (Nat.le_refl _) _⟩
      case measure => (try simp [intOf]) <;> (try omega)
    · obtain rfl : s = n := by omega
      clear hown hb
      go_wp2
      go_ret
      exact ⟨by rw [HG.out]; rfl, by rw [HG.out, ← dlL_digs (by omega) HLT.out]; exact HO.out, by rw [HG.out]; exact HB.out⟩

theorem refCount_any (k r : Nat) (a : Option Addr) (n c : Nat) (W : World) (k1 : 1 ≤ k) (k4 : k ≤ 4) (r3 : r ≤ 3) :
    Calls Tryd.prog 86 #[ruleV k r a n c] W fun e w' => e = .returned (.int .i64 ((k ^ (2 * r) : Nat) : Int)) ∧ Below W.heap.size W w' := by
  have hb := balloc (bnil W) (.cells #[.int .i64 (k : Int), .int .i64 (r : Int), .slice a n c] 24)
  have h7 : k ^ (2 * r) ≤ 1000000000000 := Nat.le_trans (rpow_le k4 (by omega)) (by decide)
  have HB := Lib.hid hb
  have H7 := Lib.hid h7
  have r0 : (0 : Int) ≤ (r : Int) := by omega
  clear hb h7
  go_enter Tryd.func86, Tryd.ntmps86
  go_wp2_with (with_reducible (refine (refPower_any k (2 * r) _ _ (by simp) k1 (by omega) (by omega) H7.out).mono ?_); rintro e w2 ⟨rfl, rfl⟩)
  go_ret
  exact ⟨rfl, HB.out⟩

/-- the limbs of the first i words -/
def tl32 (a : Nat) : Nat → List Nat
  | 0 => []
  | i + 1 => tl32 a i ++ [dg a i % 4294967296, dg a i / 4294967296]
theorem tl32_len (a : Nat) : ∀ i, (tl32 a i).length = 2 * i
  | 0 => rfl
  | i + 1 => by rw [tl32, List.length_append, tl32_len a i]; rfl
theorem tl32_u32 (a : Nat) : ∀ i, U32 (tl32 a i)
  | 0 => fun x hx => by cases hx
  | i + 1 => fun x hx => by
    rw [tl32, List.mem_append] at hx
    rcases hx with hx | hx
    · exact tl32_u32 a i x hx
    · have h := dg_lt a i
      have h2 : dg a i < 18446744073709551616 := h
      simp only [List.mem_cons, List.not_mem_nil, or_false] at hx
      show x < 4294967296
      rcases hx with rfl | rfl <;> omega
theorem tl32_val (a : Nat) : ∀ i, val (tl32 a i) = a % W64 ^ i
  | 0 => by rw [Nat.pow_zero, Nat.mod_one]; rfl
  | i + 1 => by
    rw [tl32, val_append, tl32_val a i, tl32_len, mod_succ64]
    have e : B32 ^ (2 * i) = W64 ^ i := by rw [Nat.pow_mul]; rfl
    rw [e]
    congr 2
    show dg a i % 4294967296 + B32 * (dg a i / 4294967296 + B32 * 0) = dg a i
    show dg a i % 4294967296 + 4294967296 * (dg a i / 4294967296 + 4294967296 * 0) = dg a i
    omega
theorem wrap32' (m : Nat) (h : m < 4294967296) : IntKind.u32.wrap (m : Int) = (m : Int) := wr32 _ h

set_option maxHeartbeats 4000000 in
theorem told_any (a : Nat) (W : World) (ha : a < W64 ^ 10) :
    Calls Tryd.prog 135 #[.agg (WL (dg a)).toArray] W fun e w' => ∃ a' n' c', e = .returned (.slice a' n' c') ∧ w'.ownsRow W.heap.size 95 1 (.slice a' n' c') n' ((ofN (limbs a)).map (Value.int .u32)) ∧ Below W.heap.size W w' := by
  have HA := Lib.hid ha
  clear ha
  go_enter Tryd.func135, Tryd.ntmps135
  go_wp2_with fail
  obtain ⟨Wb, hWb⟩ : ∃ Wb, W.alloc (.cells (WL (dg a)).toArray 161) = Wb := ⟨_, rfl⟩
  have HX : Hid (Bx Wb W.heap.size (dg a)) := by show Wb.heap[_]? = _; rw [← hWb]; exact heap_alloc_new W _
  have HBX : Hid (Below W.heap.size W Wb) := by show Below _ _ _; rw [← hWb]; exact balloc (bnil W) _
  rw [hWb]
  obtain ⟨g, hg⟩ : ∃ g, W.heap.size = g := ⟨_, rfl⟩
  rw [hg] at HX
  simp only [hg]
  have HG := Lib.hid hg
  have HGL : Hid (g < Wb.heap.size) := HX.out.lt
  clear hWb hg
  go_loopw [3, 4] (fun lv ix wr => ∃ (i K cc : Nat) (aa : Option Addr), i ≤ 10 ∧ ix = .int .i64 i ∧ lv = .slice aa K cc ∧ K = 2 * i ∧ wr.ownsRow Wb.heap.size 95 1 (.slice aa K cc) K ((ofN (tl32 a i)).map (Value.int .u32)) ∧ Below Wb.heap.size Wb wr) (fun _ ix _ => 10 - (intOf ix).toNat)
  case atStart => exact ⟨0, 0, 0, none, by omega, rfl, rfl, rfl, World.ownsRow_nil _ _ _ _, bnil _⟩
  case round =>
    obtain ⟨k, K, cc, aa, hk, rfl, rfl, hK, ho, hb⟩ := hrel
    have HO := Lib.hid ho
    have HB := Lib.hid hb
    have HKK := Lib.hid hK
    have hbs := hb.size
    have hK2 : K ≤ 20 := by omega
    have hX := HX.out.up hb
    clear ho hb hK
    by_cases hlt : k < 10
    · have z0 := hX.cell hlt
      have hbW := hX.lt
      have HBW := Lib.hid hbW
      have hd := dg_lt a k
      have HT : Hid (tl32 a (k + 1) = tl32 a k ++ [dg a k % 4294967296, dg a k / 4294967296]) := rfl
      obtain ⟨x, hx⟩ : ∃ x, dg a k = x := ⟨_, rfl⟩
      rw [hx] at z0 hd HT
      have hd2 : x < 18446744073709551616 := hd
      obtain ⟨q, hq⟩ : ∃ q, x / 4294967296 = q := ⟨_, rfl⟩
      obtain ⟨m, hm'⟩ : ∃ m, x % 4294967296 = m := ⟨_, rfl⟩
      rw [hq, hm'] at HT
      have e1 : (x : Int) / 4294967296 = (q : Int) := by omega
      have e2 : (x : Int) % 4294967296 = (m : Int) := by omega
      have e3 : (x : Int).tdiv 4294967296 = (q : Int) := by rw [Int.tdiv_eq_ediv_of_nonneg (by omega)]; exact e1
      have e4 : (x : Int).tmod 4294967296 = (m : Int) := by rw [Int.tmod_eq_emod_of_nonneg (by omega)]; exact e2
      have e5 : IntKind.u32.wrap (m : Int) = (m : Int) := wr32 _ (by omega)
      have e6 : IntKind.u32.wrap (q : Int) = (q : Int) := wr32 _ (by omega)
      have e7 : IntKind.u64.wrap (m : Int) = (m : Int) := by show ((m : Int) % 18446744073709551616) = _; omega
      have e8 : IntKind.u64.wrap (q : Int) = (q : Int) := by show ((q : Int) % 18446744073709551616) = _; omega
      have j0 : (0 : Int) ≤ (k : Int) := by omega
      have j1 : (k : Int) < 10 := by omega
      have HS0 : Hid (wr.drew.cell? ⟨g, k, none⟩ = some (.int .u64 (x : Nat))) := z0
      have HS1 : Hid ((wr.alloc (.cells #[.int .u32 (m : Int), .int .u32 (q : Int)] 95)).drew.cell? ⟨g, k, none⟩ = some (.int .u64 (x : Nat))) := al16 z0
      clear hd hd2 hx hq hm' z0 hX hbW
      go_wp2_with fail
      go_region_held3 (fun w' => w'.cell? ⟨g, k, none⟩ = some (.int .u64 (x : Nat)))
        (first | with_reducible exact HS5.out | with_reducible exact HS0.out | with_reducible exact HS1.out | exact HS1.out | go_keep)
        (first | (refine step_app_lit (by rfl) _ _ _ (by rfl) Wb.heap.size et_nat _ K _ HO.out (by rfl) 2 _ _ (by rfl) (by simp) (by rfl) (by rfl) (by unfold maxLen; omega) (by omega) hbs ?_; intro a5 c5 w5 ho5 hg5 hb5 hs5; have H5 := Lib.hid (And.intro ho5 hb5); have HS5 : Hid (w5.cell? ⟨g, k, none⟩ = some (.int .u64 (x : Nat))) := (hb5.cell (p := ⟨g, k, none⟩) HGL.out).trans HS0.out; clear ho5 hg5 hb5 hs5))
      all_goals
        go_wp2
        go_roundw
        case rel => exact ⟨k + 1, K + 2, c5, a5, by omega, by go_num, rfl, by have := HKK.out; omega, by have h5 := H5.out.1; rw [HT.out, ofNv_app]; exact h5, HB.out.trans H5.out.2⟩
        case measure => simp [intOf]; omega
    · obtain rfl : k = 10 := by omega
      have hnr : NR wr aa K (tl32 a 10) := ⟨⟨by rw [HKK.out, ofN_len, tl32_len], (owns_rd HO.out).2⟩, tl32_u32 a 10⟩
      have HNO := Lib.hid (norm16 aa K cc _ wr hnr (by omega))
      have HV : Hid (val (tl32 a 10) = a) := by show _ = _; rw [tl32_val]; exact Nat.mod_eq_of_lt HA.out
      clear hnr hX
      go_wp2_with fail
      refine HNO.out.mono ?_; rintro e w9 ⟨a9, n9, c9, rfl, ho9, hb9⟩
      rw [HV.out] at ho9
      have HO9 := Lib.hid ho9
      have HB9 := Lib.hid (HBX.out.trans (bstep HB.out hb9 |>.mono HBX.out.size))
      have HSZ := Lib.hid (Nat.le_trans HBX.out.size HB.out.size)
      clear ho9 hb9
      go_wp2
      go_ret
      exact ⟨_, _, _, rfl, owns_base HO9.out HSZ.out, HB9.out⟩
end Go.Proofs.YteneiianpghalaaDoor
