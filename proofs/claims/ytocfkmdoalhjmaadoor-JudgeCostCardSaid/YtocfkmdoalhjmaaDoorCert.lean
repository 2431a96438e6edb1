/- The contracts of package cert. -/
import Derived.Test.YtocfkmdoalhjmaaDoorProg
import Derived.Test.YtocfkmdoalhjmaaDoorMem
import Derived.Test.YtocfkmdoalhjmaaDoorErr
import Derived.Test.YtocfkmdoalhjmaaDoorArm
import Derived.Test.YtocfkmdoalhjmaaDoorTypes
import Derived.WalkKit
import Derived.Deep.QuietTactic
import Derived.BigQuiet
import Derived.StillTailTactics
import Derived.Lib.Hide
namespace Go.Proofs.YtocfkmdoalhjmaaDoor
open Go.RowKit
set_option linter.unusedVariables false
set_option maxRecDepth 100000

def most (h : Int) : Int := 4 * 2 ^ h.toNat
def fitsB (w h x y z : Int) : Bool := decide (0 ≤ x) && decide (x < w) && decide (0 ≤ y) && decide (y < most h) && decide (0 ≤ z) && decide (z < most h)

theorem most_cases (h : Int) (h1 : 1 ≤ h) (h2 : h ≤ 4) : (h = 1 ∧ most h = 8) ∨ (h = 2 ∧ most h = 16) ∨ (h = 3 ∧ most h = 32) ∨ (h = 4 ∧ most h = 64) := by
  obtain rfl | rfl | rfl | rfl : h = 1 ∨ h = 2 ∨ h = 3 ∨ h = 4 := by omega
  all_goals decide

theorem fits_any (w h x y z : Int) (W : World) (h1 : 1 ≤ h) (h2 : h ≤ 4) (hw1 : 1 ≤ w) (hw2 : w ≤ 8) :
    Calls Tryd.prog 91 #[.int .i64 w, .int .i64 h, .agg #[.int .i64 x, .int .i64 y, .int .i64 z]] W fun e w' =>
      e = .returned (.bool (fitsB w h x y z)) ∧ w' = W.alloc (.cells #[.int .i64 x, .int .i64 y, .int .i64 z] 82) := by
  obtain rfl | rfl | rfl | rfl : h = 1 ∨ h = 2 ∨ h = 3 ∨ h = 4 := by omega
  all_goals
    go_enter Tryd.func91, Tryd.ntmps91
    go_wp2
    all_goals (go_ret; refine ⟨?_, rfl⟩; refine congrArg (fun b => Ending.returned (.bool b)) ?_; rw [Bool.eq_iff_iff]; simp only [fitsB, show most 1 = 8 from rfl, show most 2 = 16 from rfl, show most 3 = 32 from rfl, show most 4 = 64 from rfl, Bool.and_eq_true, decide_eq_true_eq]; constructor <;> intro hb <;> first | omega | (simp at hb; done) | (exfalso; omega))

/-- an entry's cells -/
def entC (x : Int × Int × Int) : List Value := [.int .i64 x.1, .int .i64 x.2.1, .int .i64 x.2.2]
def entsC (l : List (Int × Int × Int)) : List Value := l.flatMap entC
/-- an entry's bytes -/
def entB (x : Int × Int × Int) : List Value := [.int .u8 x.1, .int .u8 x.2.1, .int .u8 x.2.2]
def entsB (l : List (Int × Int × Int)) : List Value := l.flatMap entB
def fitsE (w h : Int) (x : Int × Int × Int) : Bool := fitsB w h x.1 x.2.1 x.2.2

theorem entsC_at (l : List (Int × Int × Int)) (k : Nat) (hk : k < l.length) :
    (entsC l)[3 * k]? = some (.int .i64 (l[k].1)) ∧ (entsC l)[3 * k + 1]? = some (.int .i64 (l[k].2.1)) ∧ (entsC l)[3 * k + 2]? = some (.int .i64 (l[k].2.2)) := by
  induction l generalizing k with
  | nil => simp at hk
  | cons x l ih =>
    cases k with
    | zero => simp [entsC, entC]
    | succ k =>
      have hk' : k < l.length := by simpa using hk
      have := ih k hk'
      simp only [entsC, List.flatMap_cons, List.getElem_cons_succ] at this ⊢
      have e0 : 3 * (k + 1) = (3 * k) + 3 := by omega
      have e1 : 3 * (k + 1) + 1 = (3 * k + 1) + 3 := by omega
      have e2 : 3 * (k + 1) + 2 = (3 * k + 2) + 3 := by omega
      rw [e2, e1, e0]
      simpa [entC] using this
theorem ent_cells {w w' : World} {B b o : Nat} {l : List (Int × Int × Int)} (hb : Below B w w') (hB : b < B) (hc : ∀ j u, (entsC l)[j]? = some u → w.cell? ⟨b, o + j, none⟩ = some u) (k : Nat) (hk : k < l.length) :
    w'.cell? ⟨b, o + k * 3, none⟩ = some (.int .i64 (l[k].1)) ∧ w'.cell? ⟨b, o + k * 3 + 1, none⟩ = some (.int .i64 (l[k].2.1)) ∧ w'.cell? ⟨b, o + k * 3 + 2, none⟩ = some (.int .i64 (l[k].2.2)) := by
  have e3 := entsC_at l k hk
  rw [Nat.mul_comm 3 k] at e3
  rw [hb.cell (p := ⟨b, o + k * 3, none⟩) hB, hb.cell (p := ⟨b, o + k * 3 + 1, none⟩) hB, hb.cell (p := ⟨b, o + k * 3 + 2, none⟩) hB]
  exact ⟨hc _ _ e3.1, by rw [Nat.add_assoc]; exact hc _ _ e3.2.1, by rw [Nat.add_assoc]; exact hc _ _ e3.2.2⟩
theorem entsB_snoc (l : List (Int × Int × Int)) (k : Nat) (hk : k < l.length) : entsB (l.take (k + 1)) = entsB (l.take k) ++ entB l[k] := by
  simp only [entsB]
  rw [List.take_succ_eq_append_getElem hk, List.flatMap_append]; simp
theorem entsB_len (l : List (Int × Int × Int)) : (entsB l).length = 3 * l.length := by
  induction l with
  | nil => rfl
  | cons x l ih => simp [entsB, entB] at ih ⊢; omega
theorem entsC_len (l : List (Int × Int × Int)) : (entsC l).length = 3 * l.length := by
  induction l with
  | nil => rfl
  | cons x l ih => simp [entsC, entC] at ih ⊢; omega


theorem ent_mod {w h : Int} {x : Int × Int × Int} (h1 : 1 ≤ h) (h2 : h ≤ 4) (hw2 : w ≤ 8) (hf : fitsB w h x.1 x.2.1 x.2.2 = true) :
    (#[Value.int .u8 (x.1 % 256), Value.int .u8 (x.2.1 % 256), Value.int .u8 (x.2.2 % 256)] : Array Value).toList = entB x := by
  have hm := most_cases h h1 h2
  simp only [fitsB, Bool.and_eq_true, decide_eq_true_eq] at hf
  have e1 : x.1 % 256 = x.1 := by omega
  have e2 : x.2.1 % 256 = x.2.1 := by omega
  have e3 : x.2.2 % 256 = x.2.2 := by omega
  rw [e1, e2, e3]; rfl

set_option maxHeartbeats 1000000 in
theorem encode_ok (w h : Int) (a : Option Addr) (c : Nat) (l : List (Int × Int × Int)) (W : World) (hR : Rd W a l.length 3 (entsC l))
    (hw1 : 1 ≤ w) (hw2 : w ≤ 8) (h1 : 1 ≤ h) (h2 : h ≤ 4) (hl : l.length ≤ 43689) (hf : ∀ x ∈ l, fitsE w h x = true) :
    Calls Tryd.prog 47 #[.int .i64 w, .int .i64 h, .slice a l.length c] W fun e w' =>
      ∃ a' c', e = .returned (.tuple #[.slice a' (4 + 3 * l.length) c', .nilIface]) ∧ w'.ownsRow W.heap.size 5 1 (.slice a' (4 + 3 * l.length) c') (4 + 3 * l.length) ([.int .u8 69, .int .u8 68, .int .u8 w, .int .u8 h] ++ entsB l) ∧ Below W.heap.size W w' := by
  have HF := Lib.hid hf; clear hf
  have HR := Lib.hid hR; clear hR
  go_enter Tryd.func47, Tryd.ntmps47
  go_wp2_with (first
    | (at_make; refine mk_cap rfl _ _ _ rfl W.heap.size et_u8 .i64 .i64 _ (4 + 3 * l.length) rfl rfl (by omega) (by omega) (by unfold maxLen; omega) (Nat.le_refl _) ?_; intro w1 hown1 hb1 hsz1)
    | (at_builtin; refine app_lit rfl _ _ _ rfl W.heap.size et_u8 _ 0 [] hown1 rfl 4 _ _ rfl rfl rfl rfl (by unfold maxLen; omega) (by omega) (by omega) ?_; intro a2 c2 w2 hown2 hgr2 hb2 hsz2))
  go_loopw [8, 46] (fun v i wr => ∃ (k : Nat) (a' : Option Addr) (c' : Nat), k ≤ l.length ∧ i = .int .i64 k ∧ v = .slice a' (4 + 3 * k) c' ∧ wr.ownsRow W.heap.size 5 1 (.slice a' (4 + 3 * k) c') (4 + 3 * k) ([.int .u8 69, .int .u8 68, .int .u8 w, .int .u8 h] ++ entsB (l.take k)) ∧ Below W.heap.size W wr) (fun _ i _ => l.length - (intOf i).toNat)
  case atStart => exact ⟨0, a2, c2, by omega, rfl, rfl, by simpa [entsB] using hown2, hb1.mono (Nat.le_refl _) |>.trans hb2⟩
  case round =>
    obtain ⟨k, a', c', hk, rfl, rfl, hown, hb⟩ := hrel
    by_cases hlt : k < l.length
    · obtain ⟨b, o, rfl, hbo, hcell⟩ := HR.out.2.resolve_left (by omega)
      obtain ⟨c0, c1, c2⟩ := ent_cells hb hbo hcell k hlt
      clear hcell
      have hfit := HF.out _ (List.getElem_mem hlt)
      simp only [fitsE] at hfit
      have hz := hb.size
      go_wp2_with (first
        | (go_at_call 91; refine (fits_any _ _ _ _ _ _ h1 h2 hw1 hw2).mono ?_; rintro e w' ⟨rfl, rfl⟩)
        | (at_builtin; refine app_lit rfl _ _ _ rfl W.heap.size et_u8 _ (4 + 3 * k) _ ((hown.alloc _).alloc _) rfl 3 _ _ rfl (by simp) rfl rfl (by unfold maxLen; omega) (by omega) (by simp; omega) ?_; intro a3 c3 w3 hown3 hgr3 hb3 hsz3))
      go_roundw
      case rel =>
        refine ⟨k + 1, a3, c3, by omega, by go_num, rfl, ?_, ?_⟩
        · rw [entsB_snoc l k hlt, ← List.append_assoc]
          rw [ent_mod h1 h2 hw2 hfit] at hown3
          exact hown3
        · exact (((hb.alloc hz _).alloc (by simp; omega) _).trans hb3)
      case measure => simp [intOf]; omega
    · obtain rfl : k = l.length := by omega
      go_wp2
      go_ret2
      exact ⟨a', c', rfl, by simpa using hown, hb⟩

/-! ### Decode -/
def lim (i w h : Int) : Int × Int := if i = 0 then (69, 69) else if i = 1 then (68, 68) else if i = 2 then (1, 8) else if i = 3 then (1, 4) else if (i - 4) % 3 = 0 then (0, w - 1) else (0, most h - 1)

theorem limits_any (i w h : Int) (W : World) (hi : 0 ≤ i) (hi2 : i ≤ 200000) (hw : 4 ≤ i → 1 ≤ w ∧ w ≤ 8) (hh : 4 ≤ i → 1 ≤ h ∧ h ≤ 4) :
    Calls Tryd.prog 90 #[.int .i64 i, .int .i64 w, .int .i64 h] W fun e w' => e = .returned (.tuple #[.int .u8 (lim i w h).1, .int .u8 (lim i w h).2]) ∧ ∃ n, w' = W.drewN n := by
  by_cases h4 : 4 ≤ i
  · have hw := hw h4
    have hh := hh h4
    obtain ⟨hw1, hw2⟩ := hw
    have n0 : (i == 0) = false := by simp; omega
    have n1 : (i == 1) = false := by simp; omega
    have n2 : (i == 2) = false := by simp; omega
    have n3 : (i == 3) = false := by simp; omega
    by_cases hm : (i - 4) % 3 = 0
    · have e : lim i w h = (0, w - 1) := by unfold lim; rw [if_neg (by omega), if_neg (by omega), if_neg (by omega), if_neg (by omega), if_pos hm]
      rw [e]
      have hb : ((i - 4) % 3 == 0) = true := by simpa using hm
      clear hm e
      go_enter Tryd.func90, Tryd.ntmps90
      go_wp2
      go_ret2
      exact ⟨rfl, 0, rfl⟩
    · have e : lim i w h = (0, most h - 1) := by unfold lim; rw [if_neg (by omega), if_neg (by omega), if_neg (by omega), if_neg (by omega), if_neg hm]
      rw [e]
      have hb : ((i - 4) % 3 == 0) = false := by simpa using hm
      clear hm e
      obtain rfl | rfl | rfl | rfl : h = 1 ∨ h = 2 ∨ h = 3 ∨ h = 4 := by omega
      all_goals
        go_enter Tryd.func90, Tryd.ntmps90
        go_wp2
        go_quiet (fail)
        go_wp2
        go_ret2
        exact ⟨rfl, _, rfl⟩
  · obtain rfl | rfl | rfl | rfl : i = 0 ∨ i = 1 ∨ i = 2 ∨ i = 3 := by omega
    all_goals
      go_enter Tryd.func90, Tryd.ntmps90
      go_wp2
      go_ret2
      exact ⟨rfl, 0, rfl⟩
end Go.Proofs.YtocfkmdoalhjmaaDoor
