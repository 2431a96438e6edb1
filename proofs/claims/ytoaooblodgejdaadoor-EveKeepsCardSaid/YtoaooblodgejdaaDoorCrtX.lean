/- The contracts of package cert. The contract of cert.Decode. The contract of cert.Encode where it tells an error. Encode's bytes, read back: plain laws. -/
import Derived.Test.YtoaooblodgejdaaDoorProg
import Derived.Test.YtoaooblodgejdaaDoorBase
import Derived.WalkKit
import Derived.Deep.QuietTactic
import Derived.BigQuiet
import Derived.StillTailTactics
import Derived.Lib.Hide
namespace Go.Proofs.YtoaooblodgejdaaDoor
open Go.RowKit
set_option linter.unusedVariables false
set_option maxRecDepth 100000

def most (h : Int) : Int := 4 * 2 ^ h.toNat
def fitsB (w h x y z : Int) : Bool := decide (0 ≤ x) && decide (x < w) && decide (0 ≤ y) && decide (y < most h) && decide (0 ≤ z) && decide (z < most h)

theorem most_cases (h : Int) (h1 : 1 ≤ h) (h2 : h ≤ 4) : (h = 1 ∧ most h = 8) ∨ (h = 2 ∧ most h = 16) ∨ (h = 3 ∧ most h = 32) ∨ (h = 4 ∧ most h = 64) := by
  obtain rfl | rfl | rfl | rfl : h = 1 ∨ h = 2 ∨ h = 3 ∨ h = 4 := by omega
  all_goals decide

theorem fits_any (w h x y z : Int) (W : World) (h1 : 1 ≤ h) (h2 : h ≤ 4) (hw1 : 1 ≤ w) (hw2 : w ≤ 8) :
    Calls Tryd.prog 99 #[.int .i64 w, .int .i64 h, .agg #[.int .i64 x, .int .i64 y, .int .i64 z]] W fun e w' =>
      e = .returned (.bool (fitsB w h x y z)) ∧ w' = W.alloc (.cells #[.int .i64 x, .int .i64 y, .int .i64 z] 90) := by
  obtain rfl | rfl | rfl | rfl : h = 1 ∨ h = 2 ∨ h = 3 ∨ h = 4 := by omega
  all_goals
    go_enter Tryd.func99, Tryd.ntmps99
    go_wp2
    all_goals (go_ret; refine ⟨?_, rfl⟩; refine congrArg (fun b => Ending.returned (.bool b)) ?_; rw [Bool.eq_iff_iff]; simp only [fitsB, show most 1 = 8 from rfl, show most 2 = 16 from rfl, show most 3 = 32 from rfl, show most 4 = 64 from rfl, Bool.and_eq_true, decide_eq_true_eq]; constructor <;> intro hb <;> first | omega | (simp at hb; done) | (exfalso; omega))

/-- an entry's cells -/
def entC (x : Int × Int × Int) : List Value := [.int .i64 x.1, .int .i64 x.2.1, .int .i64 x.2.2]
def entsC (l : List (Int × Int × Int)) : List Value := l.flatMap entC
/-- an entry's bytes -/
def entB (x : Int × Int × Int) : List Value := [.int .u8 x.1, .int .u8 x.2.1, .int .u8 x.2.2]
def entsB (l : List (Int × Int × Int)) : List Value := l.flatMap entB
def fitsE (w h : Int) (x : Int × Int × Int) : Bool := fitsB w h x.1 x.2.1 x.2.2

theorem entsC_at (l : List (Int × Int × Int)) (k : Nat) (hk : k < l.length) :
    (entsC l)[3 * k]? = some (.int .i64 (l[k].1)) ∧ (entsC l)[3 * k + 1]? = some (.int .i64 (l[k].2.1)) ∧ (entsC l)[3 * k + 2]? = some (.int .i64 (l[k].2.2)) := by
  induction l generalizing k with
  | nil => simp at hk
  | cons x l ih =>
    cases k with
    | zero => simp [entsC, entC]
    | succ k =>
      have hk' : k < l.length := by simpa using hk
      have := ih k hk'
      simp only [entsC, List.flatMap_cons, List.getElem_cons_succ] at this ⊢
      have e0 : 3 * (k + 1) = (3 * k) + 3 := by omega
      have e1 : 3 * (k + 1) + 1 = (3 * k + 1) + 3 := by omega
      have e2 : 3 * (k + 1) + 2 = (3 * k + 2) + 3 := by omega
      rw [e2, e1, e0]
      simpa [entC] using this
theorem ent_cells {w w' : World} {B b o : Nat} {l : List (Int × Int × Int)} (hb : Below B w w') (hB : b < B) (hc : ∀ j u, (entsC l)[j]? = some u → w.cell? ⟨b, o + j, none⟩ = some u) (k : Nat) (hk : k < l.length) :
    w'.cell? ⟨b, o + k * 3, none⟩ = some (.int .i64 (l[k].1)) ∧ w'.cell? ⟨b, o + k * 3 + 1, none⟩ = some (.int .i64 (l[k].2.1)) ∧ w'.cell? ⟨b, o + k * 3 + 2, none⟩ = some (.int .i64 (l[k].2.2)) := by
  have e3 := entsC_at l k hk
  rw [Nat.mul_comm 3 k] at e3
  rw [hb.cell (p := ⟨b, o + k * 3, none⟩) hB, hb.cell (p := ⟨b, o + k * 3 + 1, none⟩) hB, hb.cell (p := ⟨b, o + k * 3 + 2, none⟩) hB]
  exact ⟨hc _ _ e3.1, by rw [Nat.add_assoc]; exact hc _ _ e3.2.1, by rw [Nat.add_assoc]; exact hc _ _ e3.2.2⟩
theorem entsB_snoc (l : List (Int × Int × Int)) (k : Nat) (hk : k < l.length) : entsB (l.take (k + 1)) = entsB (l.take k) ++ entB l[k] := by
  simp only [entsB]
  rw [List.take_succ_eq_append_getElem hk, List.flatMap_append]; simp
theorem entsB_len (l : List (Int × Int × Int)) : (entsB l).length = 3 * l.length := by
  induction l with
  | nil => rfl
  | cons x l ih => simp [entsB, entB] at ih ⊢; omega
theorem entsC_len (l : List (Int × Int × Int)) : (entsC l).length = 3 * l.length := by
  induction l with
  | nil => rfl
  | cons x l ih => simp [entsC, entC] at ih ⊢; omega


theorem ent_mod {w h : Int} {x : Int × Int × Int} (h1 : 1 ≤ h) (h2 : h ≤ 4) (hw2 : w ≤ 8) (hf : fitsB w h x.1 x.2.1 x.2.2 = true) :
    (#[Value.int .u8 (x.1 % 256), Value.int .u8 (x.2.1 % 256), Value.int .u8 (x.2.2 % 256)] : Array Value).toList = entB x := by
  have hm := most_cases h h1 h2
  simp only [fitsB, Bool.and_eq_true, decide_eq_true_eq] at hf
  have e1 : x.1 % 256 = x.1 := by omega
  have e2 : x.2.1 % 256 = x.2.1 := by omega
  have e3 : x.2.2 % 256 = x.2.2 := by omega
  rw [e1, e2, e3]; rfl

set_option maxHeartbeats 1000000 in
theorem encode_ok (w h : Int) (a : Option Addr) (c : Nat) (l : List (Int × Int × Int)) (W : World) (hR : Rd W a l.length 3 (entsC l))
    (hw1 : 1 ≤ w) (hw2 : w ≤ 8) (h1 : 1 ≤ h) (h2 : h ≤ 4) (hl : l.length ≤ 43689) (hf : ∀ x ∈ l, fitsE w h x = true) :
    Calls Tryd.prog 55 #[.int .i64 w, .int .i64 h, .slice a l.length c] W fun e w' =>
      ∃ a' c', e = .returned (.tuple #[.slice a' (4 + 3 * l.length) c', .nilIface]) ∧ w'.ownsRow W.heap.size 5 1 (.slice a' (4 + 3 * l.length) c') (4 + 3 * l.length) ([.int .u8 69, .int .u8 68, .int .u8 w, .int .u8 h] ++ entsB l) ∧ Below W.heap.size W w' := by
  have HF := Lib.hid hf; clear hf
  have HR := Lib.hid hR; clear hR
  go_enter Tryd.func55, Tryd.ntmps55
  go_wp2_with (first
    | (at_make; refine mk_cap rfl _ _ _ rfl W.heap.size et_u8 .i64 .i64 _ (4 + 3 * l.length) rfl rfl (by omega) (by omega) (by unfold maxLen; omega) (Nat.le_refl _) ?_; intro w1 hown1 hb1 hsz1)
    | (at_builtin; refine app_lit rfl _ _ _ rfl W.heap.size et_u8 _ 0 [] hown1 rfl 4 _ _ rfl rfl rfl rfl (by unfold maxLen; omega) (by omega) (by omega) ?_; intro a2 c2 w2 hown2 hgr2 hb2 hsz2))
  go_loopw [8, 46] (fun v i wr => ∃ (k : Nat) (a' : Option Addr) (c' : Nat), k ≤ l.length ∧ i = .int .i64 k ∧ v = .slice a' (4 + 3 * k) c' ∧ wr.ownsRow W.heap.size 5 1 (.slice a' (4 + 3 * k) c') (4 + 3 * k) ([.int .u8 69, .int .u8 68, .int .u8 w, .int .u8 h] ++ entsB (l.take k)) ∧ Below W.heap.size W wr) (fun _ i _ => l.length - (intOf i).toNat)
  case atStart => exact ⟨0, a2, c2, by omega, rfl, rfl, by simpa [entsB] using hown2, hb1.mono (Nat.le_refl _) |>.trans hb2⟩
  case round =>
    obtain ⟨k, a', c', hk, rfl, rfl, hown, hb⟩ := hrel
    by_cases hlt : k < l.length
    · obtain ⟨b, o, rfl, hbo, hcell⟩ := HR.out.2.resolve_left (by omega)
      obtain ⟨c0, c1, c2⟩ := ent_cells hb hbo hcell k hlt
      clear hcell
      have hfit := HF.out _ (List.getElem_mem hlt)
      simp only [fitsE] at hfit
      have hz := hb.size
      go_wp2_with (first
        | (go_at_call 99; refine (fits_any _ _ _ _ _ _ h1 h2 hw1 hw2).mono ?_; rintro e w' ⟨rfl, rfl⟩)
        | (at_builtin; refine app_lit rfl _ _ _ rfl W.heap.size et_u8 _ (4 + 3 * k) _ ((hown.alloc _).alloc _) rfl 3 _ _ rfl (by simp) rfl rfl (by unfold maxLen; omega) (by omega) (by simp; omega) ?_; intro a3 c3 w3 hown3 hgr3 hb3 hsz3))
      go_roundw
      case rel =>
        refine ⟨k + 1, a3, c3, by omega, by go_num, rfl, ?_, ?_⟩
        · rw [entsB_snoc l k hlt, ← List.append_assoc]
          rw [ent_mod h1 h2 hw2 hfit] at hown3
          exact hown3
        · exact (((hb.alloc hz _).alloc (by simp; omega) _).trans hb3)
      case measure => simp [intOf]; omega
    · obtain rfl : k = l.length := by omega
      go_wp2
      go_ret2
      exact ⟨a', c', rfl, by simpa using hown, hb⟩

/-! ### Decode -/
def lim (i w h : Int) : Int × Int := if i = 0 then (69, 69) else if i = 1 then (68, 68) else if i = 2 then (1, 8) else if i = 3 then (1, 4) else if (i - 4) % 3 = 0 then (0, w - 1) else (0, most h - 1)

theorem limits_any (i w h : Int) (W : World) (hi : 0 ≤ i) (hi2 : i ≤ 200000) (hw : 4 ≤ i → 1 ≤ w ∧ w ≤ 8) (hh : 4 ≤ i → 1 ≤ h ∧ h ≤ 4) :
    Calls Tryd.prog 98 #[.int .i64 i, .int .i64 w, .int .i64 h] W fun e w' => e = .returned (.tuple #[.int .u8 (lim i w h).1, .int .u8 (lim i w h).2]) ∧ ∃ n, w' = W.drewN n := by
  by_cases h4 : 4 ≤ i
  · have hw := hw h4
    have hh := hh h4
    obtain ⟨hw1, hw2⟩ := hw
    have n0 : (i == 0) = false := by simp; omega
    have n1 : (i == 1) = false := by simp; omega
    have n2 : (i == 2) = false := by simp; omega
    have n3 : (i == 3) = false := by simp; omega
    by_cases hm : (i - 4) % 3 = 0
    · have e : lim i w h = (0, w - 1) := by unfold lim; rw [if_neg (by omega), if_neg (by omega), if_neg (by omega), if_neg (by omega), if_pos hm]
      rw [e]
      have hb : ((i - 4) % 3 == 0) = true := by simpa using hm
      clear hm e
      go_enter Tryd.func98, Tryd.ntmps98
      go_wp2
      go_ret2
      exact ⟨rfl, 0, rfl⟩
    · have e : lim i w h = (0, most h - 1) := by unfold lim; rw [if_neg (by omega), if_neg (by omega), if_neg (by omega), if_neg (by omega), if_neg hm]
      rw [e]
      have hb : ((i - 4) % 3 == 0) = false := by simpa using hm
      clear hm e
      obtain rfl | rfl | rfl | rfl : h = 1 ∨ h = 2 ∨ h = 3 ∨ h = 4 := by omega
      all_goals
        go_enter Tryd.func98, Tryd.ntmps98
        go_wp2
        go_quiet (fail)
        go_wp2
        go_ret2
        exact ⟨rfl, _, rfl⟩
  · obtain rfl | rfl | rfl | rfl : i = 0 ∨ i = 1 ∨ i = 2 ∨ i = 3 := by omega
    all_goals
      go_enter Tryd.func98, Tryd.ntmps98
      go_wp2
      go_ret2
      exact ⟨rfl, 0, rfl⟩
end Go.Proofs.YtoaooblodgejdaaDoor
namespace Go.Proofs.YtoaooblodgejdaaDoor
open Go.RowKit
set_option linter.unusedVariables false
set_option maxRecDepth 100000

def bW (bs : List Int) (k : Nat) : Int := if 2 < k then bs.getD 2 1 else 1
def bH (bs : List Int) (k : Nat) : Int := if 3 < k then bs.getD 3 1 else 1
/-- may the byte at i stand there? -/
def okAt (bs : List Int) (i : Nat) : Bool := decide ((lim i (bW bs i) (bH bs i)).1 ≤ bs.getD i 0) && decide (bs.getD i 0 ≤ (lim i (bW bs i) (bH bs i)).2)
def okTo (bs : List Int) (k : Nat) : Prop := ∀ i, i < k → okAt bs i = true
def firstBad (bs : List Int) : Option Nat := (List.range bs.length).find? fun i => !okAt bs i
def entsOf : List Int → List (Int × Int × Int)
  | x :: y :: z :: r => (x, y, z) :: entsOf r
  | _ => []

theorem firstBad_some {bs : List Int} {k : Nat} (hk : k < bs.length) (ho : okTo bs k) (hb : okAt bs k = false) : firstBad bs = some k := by
  unfold firstBad
  rw [List.find?_range_eq_some]
  refine ⟨by simp [hb], by simpa using hk, fun j hj => by simp [ho j hj]⟩
theorem firstBad_none {bs : List Int} (ho : okTo bs bs.length) : firstBad bs = none := by
  unfold firstBad
  rw [List.find?_eq_none]
  intro i hi
  simp [ho i (by simpa using hi)]

theorem lim_bd (bs : List Int) (k : Nat) (ho : okTo bs k) : (4 ≤ (k : Int) → 1 ≤ bW bs k ∧ bW bs k ≤ 8) ∧ (4 ≤ (k : Int) → 1 ≤ bH bs k ∧ bH bs k ≤ 4) := by
  constructor
  · intro h
    have := ho 2 (by omega)
    simp [okAt, lim] at this
    unfold bW; rw [if_pos (by omega)]
    have e : bs.getD 2 0 = bs.getD 2 1 := by
      simp only [List.getD_eq_getElem?_getD] at this ⊢
      cases h2 : bs[2]? with
      | none => simp [h2] at this
      | some x => simp
    simp only [List.getD_eq_getElem?_getD] at this e ⊢
    omega
  · intro h
    have := ho 3 (by omega)
    simp [okAt, lim] at this
    unfold bH; rw [if_pos (by omega)]
    have e : bs.getD 3 0 = bs.getD 3 1 := by
      simp only [List.getD_eq_getElem?_getD] at this ⊢
      cases h2 : bs[3]? with
      | none => simp [h2] at this
      | some x => simp
    simp only [List.getD_eq_getElem?_getD] at this e ⊢
    omega

/-- What Decode answers: an error's place and number, or the parts. -/
def decF (bs : List Int) : Except (Int × Int) (Int × Int × List (Int × Int × Int)) :=
  if 131072 < bs.length then .error (0, 4) else
  match firstBad bs with
  | some i => .error (i, 8)
  | none => if bs.length < 4 ∨ ¬ ((bs.length : Int) - 4) % 3 = 0 then .error (bs.length, 8) else .ok (bs.getD 2 1, bs.getD 3 1, entsOf (bs.drop 4))

def DecPost (R : Nat → Addr) (bs : List Int) (W : World) (e : Ending) (w' : World) : Prop :=
  Below W.heap.size W w' ∧
  match decF bs with
  | .error (at_, n) => ∃ v, e = .returned (.tuple #[.int .i64 0, .int .i64 0, .slice none 0 0, v]) ∧ IsErr W.heap.size R w' v opCert at_ n
  | .ok (w, h, l) => ∃ a c, e = .returned (.tuple #[.int .i64 w, .int .i64 h, .slice a l.length c, .nilIface]) ∧ w'.ownsRow W.heap.size 90 3 (.slice a l.length c) l.length (entsC l)

theorem bs_cell {w w' : World} {B b o : Nat} {k : IntKind} {bs : List Int} (hb : Below B w w') (hB : b < B) (hc : ∀ j u, (bs.map (Value.int k))[j]? = some u → w.cell? ⟨b, o + j, none⟩ = some u) (i : Nat) (hi : i < bs.length) :
    w'.cell? ⟨b, o + i, none⟩ = some (.int k (bs.getD i 0)) := by
  rw [hb.cell (p := ⟨b, o + i, none⟩) hB]
  exact hc i _ (by simp [hi])

theorem bW_succ (bs : List Int) (k : Nat) (hk : k < bs.length) : bW bs (k + 1) = if k = 2 then bs.getD k 0 else bW bs k := by
  unfold bW
  by_cases h : k = 2
  · subst h; simp [hk]
  · rw [if_neg h]; by_cases h2 : 2 < k
    · rw [if_pos (by omega), if_pos h2]
    · rw [if_neg (by omega), if_neg h2]
theorem bH_succ (bs : List Int) (k : Nat) (hk : k < bs.length) : bH bs (k + 1) = if k = 3 then bs.getD k 0 else bH bs k := by
  unfold bH
  by_cases h : k = 3
  · subst h; simp [hk]
  · rw [if_neg h]; by_cases h2 : 3 < k
    · rw [if_pos (by omega), if_pos h2]
    · rw [if_neg (by omega), if_neg h2]
theorem okTo_succ {bs : List Int} {k : Nat} (h : okTo bs k) (h1 : okAt bs k = true) : okTo bs (k + 1) := by
  intro i hi
  by_cases e : i = k
  · subst e; exact h1
  · exact h i (by omega)

theorem entsOf_snoc (l : List Int) : ∀ k, 3 * k + 2 < l.length → entsOf (l.take (3 * k + 3)) = entsOf (l.take (3 * k)) ++ [(l.getD (3 * k) 0, l.getD (3 * k + 1) 0, l.getD (3 * k + 2) 0)] := by
  intro k
  induction k generalizing l with
  | zero =>
    intro h
    match l, h with
    | x :: y :: z :: r, _ => simp [entsOf]
  | succ k ih =>
    intro h
    match l, h with
    | x :: y :: z :: r, h =>
      have := ih r (by simp at h; omega)
      have e1 : 3 * (k + 1) = 3 * k + 1 + 1 + 1 := by omega
      have e2 : 3 * (k + 1) + 3 = (3 * k + 3) + 1 + 1 + 1 := by omega
      have e3 : 3 * (k + 1) + 1 = (3 * k + 1) + 1 + 1 + 1 := by omega
      have e4 : 3 * (k + 1) + 2 = (3 * k + 2) + 1 + 1 + 1 := by omega
      rw [e2, e3, e4, e1]
      simp only [List.take_succ_cons, entsOf, this, List.getD_cons_succ, List.cons_append]
theorem entsOf_len : ∀ (k : Nat) (l : List Int), l.length = 3 * k → (entsOf l).length = k := by
  intro k
  induction k with
  | zero => intro l h; match l, h with | [], _ => rfl
  | succ k ih =>
    intro l h
    match l, h with
    | x :: y :: z :: r, h => simp [entsOf, ih r (by simp at h; omega)]

theorem entsC_snoc (l : List (Int × Int × Int)) (x y z : Int) : entsC (l ++ [(x, y, z)]) = entsC l ++ (#[Value.int .i64 x, Value.int .i64 y, Value.int .i64 z] : Array Value).toList := by
  simp [entsC, entC]

theorem bd_at {bs : List Int} (hB : ∀ x ∈ bs, 0 ≤ x ∧ x ≤ 255) (k : Nat) : 0 ≤ bs.getD k 0 ∧ bs.getD k 0 ≤ 255 := by
  by_cases h : k < bs.length
  · have := hB bs[k] (List.getElem_mem h)
    simpa [h] using this
  · simp [List.getD, show bs.length ≤ k by omega]

theorem bW_next (bs : List Int) (k : Nat) (hk : k < bs.length) : bW bs (k + 1) = bif ((k : Int) == 2) then bs.getD k 0 else bW bs k := by
  rw [bW_succ bs k hk]
  by_cases h : k = 2
  · subst h; rfl
  · rw [if_neg h, show ((k : Int) == 2) = false from by simp; omega]; rfl
theorem bH_next (bs : List Int) (k : Nat) (hk : k < bs.length) : bH bs (k + 1) = bif ((k : Int) == 3) then bs.getD k 0 else bH bs k := by
  rw [bH_succ bs k hk]
  by_cases h : k = 3
  · subst h; rfl
  · rw [if_neg h, show ((k : Int) == 3) = false from by simp; omega]; rfl

set_option maxHeartbeats 2000000 in
theorem decode_any (a : Option Addr) (c : Nat) (bs : List Int) (W : World) (R : Nat → Addr) (hG : Glob W R) (hR : Rd W a bs.length 1 (bs.map (Value.int .u8))) (hB : ∀ x ∈ bs, 0 ≤ x ∧ x ≤ 255) (hlen : bs.length ≤ maxLen) :
    Calls Tryd.prog 53 #[.slice a bs.length c] W (DecPost R bs W) := by
  have hlen' : bs.length ≤ 9223372036854775807 := by unfold maxLen at hlen; omega
  have HB := Lib.hid hB; clear hB
  have HR := Lib.hid hR; clear hR
  have HG := Lib.hid hG; clear hG
  by_cases hbig : 131072 < bs.length
  · have hpost : ∀ (e : Ending) (w' : World) v, e = .returned (.tuple #[.int .i64 0, .int .i64 0, .slice none 0 0, v]) → IsErr W.heap.size R w' v opCert 0 4 → Below W.heap.size W w' → DecPost R bs W e w' := by
      intro e w' v h1 h2 h3
      unfold DecPost decF
      rw [if_pos hbig]
      exact ⟨h3, v, h1, h2⟩
    go_enter Tryd.func53, Tryd.ntmps53
    go_wp2_with (first
        | (go_at_call 97; refine (cert_wrong _ _ _ R HG.out rfl).mono ?_; rintro e w' ⟨rfl, rfl⟩))
    refine bodyPost_ret (results_tmp4 rfl _ _ _) rfl ?_
    exact hpost _ _ _ rfl (isErr_new (Nat.le_refl _)) ((Below.refl _ _).alloc (Nat.le_refl _) _)
  · go_enter Tryd.func53, Tryd.ntmps53
    go_wp2_with fail
    go_loopw [6, 7, 20] (fun x y i wr => ∃ (k n : Nat), k ≤ bs.length ∧ i = .int .i64 k ∧ x = .int .i64 (bW bs k) ∧ y = .int .i64 (bH bs k) ∧ okTo bs k ∧ wr = W.drewN n) (fun _ _ i _ => bs.length - (intOf i).toNat)
    case atStart => exact ⟨0, 0, by omega, rfl, rfl, rfl, fun i hi => absurd hi (by omega), rfl⟩
    case round =>
      obtain ⟨k, n, hk, rfl, rfl, rfl, hto, rfl⟩ := hrel
      have hbd := lim_bd bs k hto
      by_cases hlt : k < bs.length
      · obtain ⟨b, o, rfl, hbo, hcell⟩ := HR.out.2.resolve_left (by omega)
        have c0 : W.cell? ⟨b, o + k, none⟩ = some (.int .u8 (bs.getD k 0)) := bs_cell (Below.refl W.heap.size W) hbo hcell k hlt
        clear hcell
        obtain ⟨xb1, xb2⟩ := bd_at HB.out k
        have HW := Lib.hid (bW_next bs k hlt)
        have HH := Lib.hid (bH_next bs k hlt)
        have hiff : okAt bs k = true ↔ ((lim k (bW bs k) (bH bs k)).1 ≤ bs.getD k 0 ∧ bs.getD k 0 ≤ (lim k (bW bs k) (bH bs k)).2) := by simp [okAt]
        have HT : Hid (okAt bs k = true → okTo bs (k + 1)) := fun h => okTo_succ hto h
        have HP : Hid (¬ okAt bs k = true → ∀ (e : Ending) (w' : World) v, e = .returned (.tuple #[.int .i64 0, .int .i64 0, .slice none 0 0, v]) → IsErr W.heap.size R w' v opCert k 8 → Below W.heap.size W w' → DecPost R bs W e w') := by
          intro hno e w' v h1 h2 h3
          have hf := firstBad_some hlt hto (by simpa using hno)
          unfold DecPost decF
          rw [if_neg hbig, hf]
          exact ⟨h3, v, h1, h2⟩
        clear hto
        generalize bs.getD k 0 = x at *
        by_cases hok : okAt bs k = true
        · obtain ⟨l1, l2⟩ := hiff.1 hok
          have HT2 : Hid (okTo bs (k + 1)) := HT.out hok
          clear hok hiff
          go_wp2_with (first
            | (go_at_call 98; refine (limits_any _ _ _ _ (by omega) (by omega) hbd.1 hbd.2).mono ?_; rintro e w' ⟨rfl, m, rfl⟩))
          all_goals
            go_roundw
            case rel =>
              refine ⟨k + 1, _, by omega, by go_num, ?_, ?_, HT2.out, rfl⟩
              · rw [HW.out]; first | (rw [show ((k : Int) == 2) = true from by assumption]; rfl) | (rw [show ((k : Int) == 2) = false from by assumption]; rfl)
              · rw [HH.out]; first | (rw [show ((k : Int) == 3) = true from by assumption]; rfl) | (rw [show ((k : Int) == 3) = false from by assumption]; rfl) | (rw [show ((k : Int) == 3) = false from by simp only [beq_iff_eq, beq_eq_false_iff_ne] at *; omega]; rfl)
            case measure => simp [intOf]; omega
        · have hno : ¬ ((lim k (bW bs k) (bH bs k)).1 ≤ x ∧ x ≤ (lim k (bW bs k) (bH bs k)).2) := fun h => hok (hiff.2 h)
          have HP2 := Lib.hid (HP.out hok)
          clear hok hiff
          have hlo : x < (lim k (bW bs k) (bH bs k)).1 ∨ (lim k (bW bs k) (bH bs k)).2 < x := by omega
          clear hno
          rcases hlo with hlo | hlo
          all_goals
            go_wp2_with (first
              | (go_at_call 98; refine (limits_any _ _ _ _ (by omega) (by omega) hbd.1 hbd.2).mono ?_; rintro e w' ⟨rfl, m, rfl⟩)
              | (go_at_call 97; refine (cert_wrong _ _ _ R HG.out.drewN rfl).mono ?_; rintro e w' ⟨rfl, rfl⟩))
          all_goals
            refine bodyPost_ret (results_tmp4 rfl _ _ _) rfl ?_
            exact HP2.out _ _ _ rfl (isErr_new (Nat.le_refl _)) ((below_drewN (Below.refl _ _) _).alloc (Nat.le_refl _) _)
      · obtain rfl : k = bs.length := by omega
        have hfb := firstBad_none hto
        have HD : Hid (decF bs = if bs.length < 4 ∨ ¬ ((bs.length : Int) - 4) % 3 = 0 then .error (bs.length, 8) else .ok (bs.getD 2 1, bs.getD 3 1, entsOf (bs.drop 4))) := by
          unfold decF; rw [if_neg hbig, hfb]; rfl
        clear hto hfb hbd
        by_cases hgood : bs.length < 4 ∨ ¬ ((bs.length : Int) - 4) % 3 = 0
        · have HP2 : Hid (∀ (e : Ending) (w' : World) v, e = .returned (.tuple #[.int .i64 0, .int .i64 0, .slice none 0 0, v]) → IsErr W.heap.size R w' v opCert bs.length 8 → Below W.heap.size W w' → DecPost R bs W e w') := by
            intro e w' v h1 h2 h3
            unfold DecPost
            rw [HD.out, if_pos hgood]
            exact ⟨h3, v, h1, h2⟩
          rcases hgood with h4 | h3
          · go_wp2_with (first
              | (go_at_call 97; refine (cert_wrong _ _ _ R HG.out.drewN rfl).mono ?_; rintro e w' ⟨rfl, rfl⟩))
            refine bodyPost_ret (results_tmp4 rfl _ _ _) rfl ?_
            exact HP2.out _ _ _ rfl (isErr_new (Nat.le_refl _)) ((below_drewN (Below.refl _ _) _).alloc (Nat.le_refl _) _)
          · by_cases h4 : bs.length < 4
            · go_wp2_with (first
                | (go_at_call 97; refine (cert_wrong _ _ _ R HG.out.drewN rfl).mono ?_; rintro e w' ⟨rfl, rfl⟩))
              refine bodyPost_ret (results_tmp4 rfl _ _ _) rfl ?_
              exact HP2.out _ _ _ rfl (isErr_new (Nat.le_refl _)) ((below_drewN (Below.refl _ _) _).alloc (Nat.le_refl _) _)
            · have h3b : (((bs.length : Int) - 4) % 3 != 0) = true := by simpa using h3
              clear h3
              go_wp2_with (first
                | (go_at_call 97; refine (cert_wrong _ _ _ R HG.out.drewN rfl).mono ?_; rintro e w' ⟨rfl, rfl⟩))
              refine bodyPost_ret (results_tmp4 rfl _ _ _) rfl ?_
              exact HP2.out _ _ _ rfl (isErr_new (Nat.le_refl _)) ((below_drewN (Below.refl _ _) _).alloc (Nat.le_refl _) _)
        · have h4 : 4 ≤ bs.length := by omega
          have h3b : (((bs.length : Int) - 4) % 3 != 0) = false := by simp; omega
          obtain ⟨q, hq1, hq2⟩ : ∃ q : Nat, bs.length ≤ 4 + 3 * q ∧ 4 + 3 * q ≤ bs.length := ⟨(bs.length - 4) / 3, by omega, by omega⟩
          have HD2 := HD.out
          rw [if_neg hgood] at HD2
          have HD2 := Lib.hid HD2
          clear hgood HD
          have hll : (entsOf (bs.drop 4)).length = q := entsOf_len q _ (by simp; omega)
          have hfw : bW bs bs.length = bs.getD 2 1 := by unfold bW; rw [if_pos (by omega)]
          have hfh : bH bs bs.length = bs.getD 3 1 := by unfold bH; rw [if_pos (by omega)]
          have HP2 : Hid (∀ (e : Ending) (w' : World) (a : Option Addr) (c : Nat), e = .returned (.tuple #[.int .i64 (bW bs bs.length), .int .i64 (bH bs bs.length), .slice a q c, .nilIface]) → w'.ownsRow W.heap.size 90 3 (.slice a q c) q (entsC (entsOf (bs.drop 4))) → Below W.heap.size W w' → DecPost R bs W e w') := by
            intro e w' a c h1 h2 h3
            unfold DecPost
            rw [HD2.out]
            refine ⟨h3, a, c, ?_, ?_⟩
            · simp only [hll]; rw [h1, hfw, hfh]
            · simp only [hll]; exact h2
          clear hfw hfh HD2
          have Hll := Lib.hid hll; clear hll
          go_wp2_with (first
            | (at_make; refine mk_cap rfl _ _ _ rfl W.heap.size et_ent .i64 .i64 _ q rfl rfl (by omega) (by omega) (by unfold maxLen; omega) (Nat.le_refl _) ?_; intro w1 hown1 hb1 hsz1))
          go_loopw [12, 13] (fun v i wr => ∃ (j p : Nat) (a' : Option Addr) (c' : Nat), j ≤ q ∧ p = 4 + 3 * j ∧ i = .int .i64 p ∧ v = .slice a' j c' ∧ wr.ownsRow W.heap.size 90 3 (.slice a' j c') j (entsC (entsOf ((bs.drop 4).take (3 * j)))) ∧ Below W.heap.size W wr) (fun _ i _ => bs.length - (intOf i).toNat)
          case atStart => exact ⟨0, 4, _, _, by omega, rfl, rfl, rfl, by simpa [entsOf, entsC] using hown1, (below_drewN (Below.refl _ _) _).trans hb1⟩
          case round =>
            obtain ⟨j, p, a', c', hj, hp, rfl, rfl, hown, hb⟩ := hrel
            have hp1 : p ≤ 4 + 3 * j := by omega
            have hp2 : 4 + 3 * j ≤ p := by omega
            have Hp := Lib.hid hp; clear hp
            by_cases hlt : j < q
            · obtain ⟨b, o, rfl, hbo, hcell⟩ := HR.out.2.resolve_left (by omega)
              have c0 := bs_cell hb hbo hcell p (by omega)
              have c1 := bs_cell hb hbo hcell (p + 1) (by omega)
              have c2 := bs_cell hb hbo hcell (p + 2) (by omega)
              clear hcell
              obtain ⟨x1, x2⟩ := bd_at HB.out p
              obtain ⟨y1, y2⟩ := bd_at HB.out (p + 1)
              obtain ⟨z1, z2⟩ := bd_at HB.out (p + 2)
              have HS : Hid (entsOf ((bs.drop 4).take (3 * (j + 1))) = entsOf ((bs.drop 4).take (3 * j)) ++ [(bs.getD p 0, bs.getD (p + 1) 0, bs.getD (p + 2) 0)]) := by
                have := entsOf_snoc (bs.drop 4) j (by simp; omega)
                have e1 : 3 * (j + 1) = 3 * j + 3 := by omega
                rw [e1]
                refine this.trans ?_
                simp only [List.getD_eq_getElem?_getD, List.getElem?_drop]
                rw [Hp.out, show 4 + (3 * j + 1) = 4 + 3 * j + 1 from by omega, show 4 + (3 * j + 2) = 4 + 3 * j + 2 from by omega]
              generalize bs.getD p 0 = x at *
              generalize bs.getD (p + 1) 0 = y at *
              generalize bs.getD (p + 2) 0 = z at *
              have hz := hb.size
              have g0 : (0 : Int) ≤ (p : Int) := by omega
              have g1 : (p : Int) < (bs.length : Int) := by omega
              have g2 : (0 : Int) ≤ (p : Int) + 1 := by omega
              have g3 : (p : Int) + 1 < (bs.length : Int) := by omega
              have g4 : (0 : Int) ≤ (p : Int) + 2 := by omega
              have g5 : (p : Int) + 2 < (bs.length : Int) := by omega
              have s1 : IntKind.i64.wrap ((p : Int) + 1) = (p : Int) + 1 := IntWalk.i64_in _ (by omega)
              have s2 : IntKind.i64.wrap ((p : Int) + 2) = (p : Int) + 2 := IntWalk.i64_in _ (by omega)
              have n1 : ((p : Int) + 1).toNat = p + 1 := by omega
              have n2 : ((p : Int) + 2).toNat = p + 2 := by omega
              go_wp2_with fail
              go_region_held3 (fun w' => w'.cell? ⟨b, o + p, none⟩ = some (.int .u8 x) ∧ w'.cell? ⟨b, o + (p + 1), none⟩ = some (.int .u8 y) ∧ w'.cell? ⟨b, o + (p + 2), none⟩ = some (.int .u8 z))
                (first | go_keep | exact ⟨(hb3.cell hbo).trans c0, (hb3.cell hbo).trans c1, (hb3.cell hbo).trans c2⟩)
                ((refine step_app_lit (by rfl) _ _ _ (by rfl) W.heap.size et_ent _ j _ hown (by rfl) 1 _ _ (by rfl) (by simp) (by rfl) (by rfl) (by unfold maxLen; omega) (by omega) (by omega) ?_; intro a3 c3 w3 hown3 hgr3 hb3 hsz3))
              clear s1 s2 n1 n2 g0 g1 g2 g3 g4 g5
              go_wp2
              go_roundw
              case rel =>
                refine ⟨j + 1, p + 3, a3, c3, by omega, by omega, by go_num, rfl, ?_, hb.trans hb3⟩
                rw [HS.out, entsC_snoc]
                rw [IntWalk.i64_in x (by omega), IntWalk.i64_in y (by omega), IntWalk.i64_in z (by omega)] at hown3
                exact hown3
              case measure => simp [intOf]; omega
            · obtain rfl : j = q := by omega
              have et : (bs.drop 4).take (3 * j) = bs.drop 4 := List.take_of_length_le (by simp; omega)
              rw [et] at hown
              clear et
              go_wp2
              refine bodyPost_ret (results_tmp4 rfl _ _ _) rfl ?_
              exact HP2.out _ _ a' c' rfl hown hb
end Go.Proofs.YtoaooblodgejdaaDoor
namespace Go.Proofs.YtoaooblodgejdaaDoor
open Go.RowKit
set_option linter.unusedVariables false
set_option maxRecDepth 100000

/-- Encode's error: its place, its number -/
def encErr (w h : Int) (l : List (Int × Int × Int)) : Option (Int × Int) :=
  if w < 1 ∨ 8 < w then some (0, 3) else if h < 1 ∨ 4 < h then some (1, 3) else if 43689 < l.length then some (0, 4) else
  (l.findIdx? fun x => !fitsE w h x).map fun (i : Nat) => (2 + (i : Int), (3 : Int))

theorem encErr_none {w h : Int} {l : List (Int × Int × Int)} (hn : encErr w h l = none) : 1 ≤ w ∧ w ≤ 8 ∧ 1 ≤ h ∧ h ≤ 4 ∧ l.length ≤ 43689 ∧ ∀ x ∈ l, fitsE w h x = true := by
  unfold encErr at hn
  split at hn
  · cases hn
  split at hn
  · cases hn
  split at hn
  · cases hn
  · refine ⟨by omega, by omega, by omega, by omega, by omega, ?_⟩
    intro x hx
    simp only [Option.map_eq_none_iff, List.findIdx?_eq_none_iff] at hn
    simpa using hn x hx
theorem encErr_some {w h at_ n : Int} {l : List (Int × Int × Int)} (hn : encErr w h l = some (at_, n)) :
    ((w < 1 ∨ 8 < w) ∧ at_ = 0 ∧ n = 3) ∨ (1 ≤ w ∧ w ≤ 8 ∧ (h < 1 ∨ 4 < h) ∧ at_ = 1 ∧ n = 3) ∨ (1 ≤ w ∧ w ≤ 8 ∧ 1 ≤ h ∧ h ≤ 4 ∧ 43689 < l.length ∧ at_ = 0 ∧ n = 4) ∨
    (1 ≤ w ∧ w ≤ 8 ∧ 1 ≤ h ∧ h ≤ 4 ∧ l.length ≤ 43689 ∧ ∃ j, ∃ hj : j < l.length, (∀ i (hi : i < j), fitsE w h l[i] = true) ∧ fitsE w h l[j] = false ∧ at_ = 2 + (j : Int) ∧ n = 3) := by
  unfold encErr at hn
  split at hn
  · cases hn; exact .inl ⟨by assumption, rfl, rfl⟩
  split at hn
  · cases hn; exact .inr (.inl ⟨by omega, by omega, by assumption, rfl, rfl⟩)
  split at hn
  · cases hn; exact .inr (.inr (.inl ⟨by omega, by omega, by omega, by omega, by assumption, rfl, rfl⟩))
  · refine .inr (.inr (.inr ⟨by omega, by omega, by omega, by omega, by omega, ?_⟩))
    simp only [Option.map_eq_some_iff, Prod.mk.injEq] at hn
    obtain ⟨j, hj, h1, h2⟩ := hn
    rw [List.findIdx?_eq_some_iff_getElem] at hj
    obtain ⟨hlt, hbad, hall⟩ := hj
    refine ⟨j, hlt, fun i hi => ?_, by simpa using hbad, h1.symm, h2.symm⟩
    simpa using hall i hi

def EncErrPost (R : Nat → Addr) (W : World) (at_ n : Int) (e : Ending) (w' : World) : Prop :=
  ∃ v, e = .returned (.tuple #[.slice none 0 0, v]) ∧ IsErr W.heap.size R w' v opCert at_ n ∧ Below W.heap.size W w'

theorem encErr_mk {R : Nat → Addr} {W w' : World} {at_ n : Int} {v : Value} (h1 : IsErr W.heap.size R w' v opCert at_ n) (h2 : Below W.heap.size W w') : EncErrPost R W at_ n (.returned (.tuple #[.slice none 0 0, v])) w' := ⟨v, rfl, h1, h2⟩

set_option maxHeartbeats 2000000 in
theorem encode_err (w h : Int) (a : Option Addr) (c n : Nat) (l : List (Int × Int × Int)) (W : World) (R : Nat → Addr) (hG : Glob W R) (hn : n = l.length) (hR : Rd W a l.length 3 (entsC l)) (hlen : l.length ≤ maxLen) (at_ k : Int) (he : encErr w h l = some (at_, k)) :
    Calls Tryd.prog 55 #[.int .i64 w, .int .i64 h, .slice a n c] W (EncErrPost R W at_ k) := by
  unfold maxLen at hlen
  subst hn
  have HG := Lib.hid hG; clear hG
  have HR := Lib.hid hR; clear hR
  rcases encErr_some he with ⟨hw, rfl, rfl⟩ | ⟨hw1, hw2, hh, rfl, rfl⟩ | ⟨hw1, hw2, h1, h2, hl, rfl, rfl⟩ | ⟨hw1, hw2, h1, h2, hl, j, hj, hall, hbad, rfl, rfl⟩
  · clear he
    rcases hw with hw | hw
    all_goals
      go_enter Tryd.func55, Tryd.ntmps55
      go_wp2_with (first
        | (go_at_call 97; refine (cert_wrong _ _ _ R HG.out rfl).mono ?_; rintro e w' ⟨rfl, rfl⟩))
      go_ret2
      exact encErr_mk (isErr_new (Nat.le_refl _)) (balloc (bnil _) _)
  · clear he
    rcases hh with hw | hw
    all_goals
      go_enter Tryd.func55, Tryd.ntmps55
      go_wp2_with (first
        | (go_at_call 97; refine (cert_wrong _ _ _ R HG.out rfl).mono ?_; rintro e w' ⟨rfl, rfl⟩))
      go_ret2
      exact encErr_mk (isErr_new (Nat.le_refl _)) (balloc (bnil _) _)
  · clear he
    go_enter Tryd.func55, Tryd.ntmps55
    go_wp2_with (first
        | (go_at_call 97; refine (cert_wrong _ _ _ R HG.out rfl).mono ?_; rintro e w' ⟨rfl, rfl⟩))
    go_ret2
    exact encErr_mk (isErr_new (Nat.le_refl _)) (balloc (bnil _) _)
  · clear he
    have HA := Lib.hid hall; clear hall
    have HB := Lib.hid hbad; clear hbad
    go_enter Tryd.func55, Tryd.ntmps55
    go_wp2_with (first
      | (at_make; refine mk_cap rfl _ _ _ rfl W.heap.size et_u8 .i64 .i64 _ (4 + 3 * l.length) rfl rfl (by omega) (by omega) (by unfold maxLen; omega) (Nat.le_refl _) ?_; intro w1 hown1 hb1 hsz1)
      | (at_builtin; refine app_lit rfl _ _ _ rfl W.heap.size et_u8 _ 0 [] hown1 rfl 4 _ _ rfl rfl rfl rfl (by unfold maxLen; omega) (by omega) (by omega) ?_; intro a2 c2 w2 hown2 hgr2 hb2 hsz2))
    go_loopw [8, 46] (fun v i wr => ∃ (k : Nat) (a' : Option Addr) (c' : Nat) (xs : List Value), k ≤ j ∧ i = .int .i64 k ∧ v = .slice a' (4 + 3 * k) c' ∧ wr.ownsRow W.heap.size 5 1 (.slice a' (4 + 3 * k) c') (4 + 3 * k) xs ∧ Below W.heap.size W wr) (fun _ i _ => l.length - (intOf i).toNat)
    case atStart => exact ⟨0, a2, c2, _, by omega, rfl, rfl, by simpa using hown2, hb1.trans hb2⟩
    case round =>
      obtain ⟨k, a', c', xs, hk, rfl, rfl, hown, hb⟩ := hrel
      have hlt : k < l.length := by omega
      obtain ⟨b, o, rfl, hbo, hcell⟩ := HR.out.2.resolve_left (by omega)
      obtain ⟨c0, c1, c2⟩ := ent_cells hb hbo hcell k hlt
      clear hcell
      have hz := hb.size
      by_cases hkj : k = j
      · subst hkj
        have hfit := HB.out
        simp only [fitsE] at hfit
        go_wp2_with (first
          | (go_at_call 99; refine (fits_any _ _ _ _ _ _ h1 h2 hw1 hw2).mono ?_; rintro e w' ⟨rfl, rfl⟩)
          | (go_at_call 97; refine (cert_wrong _ _ _ R (((HG.out.up hb).alloc _).alloc _) rfl).mono ?_; rintro e w' ⟨rfl, rfl⟩))
        go_ret2
        exact encErr_mk (isErr_at (by simp) (balloc (balloc hb _) _).size) (balloc (balloc (balloc hb _) _) _)
      · have hlt2 : k < j := by omega
        have hfit := HA.out k hlt2
        simp only [fitsE] at hfit
        go_wp2_with (first
          | (go_at_call 99; refine (fits_any _ _ _ _ _ _ h1 h2 hw1 hw2).mono ?_; rintro e w' ⟨rfl, rfl⟩)
          | (at_builtin; refine app_lit rfl _ _ _ rfl W.heap.size et_u8 _ (4 + 3 * k) _ ((hown.alloc _).alloc _) rfl 3 _ _ rfl (by simp) rfl rfl (by unfold maxLen; omega) (by omega) (by simp; omega) ?_; intro a3 c3 w3 hown3 hgr3 hb3 hsz3))
        go_roundw
        case rel => exact ⟨k + 1, a3, c3, _, by omega, by go_num, rfl, hown3, (balloc (balloc hb _) _).trans hb3⟩
        case measure => simp [intOf]; omega
end Go.Proofs.YtoaooblodgejdaaDoor
namespace Go.Proofs.YtoaooblodgejdaaDoor
open Go.RowKit
set_option linter.unusedVariables false

def flat3 (l : List (Int × Int × Int)) : List Int := l.flatMap fun x => [x.1, x.2.1, x.2.2]
/-- the bytes of a certificate -/
def encL (w h : Int) (l : List (Int × Int × Int)) : List Int := 69 :: 68 :: w :: h :: flat3 l

/-- a certificate that may be written -/
structure EncOk (w h : Int) (l : List (Int × Int × Int)) : Prop where
  w1 : 1 ≤ w
  w2 : w ≤ 8
  h1 : 1 ≤ h
  h2 : h ≤ 4
  len : l.length ≤ 43689
  fit : ∀ x ∈ l, fitsE w h x = true

theorem encOk_of {w h : Int} {l : List (Int × Int × Int)} (hn : encErr w h l = none) : EncOk w h l := by
  obtain ⟨a, b, c, d, e, f⟩ := encErr_none hn
  exact ⟨a, b, c, d, e, f⟩

theorem flat3_map (l : List (Int × Int × Int)) : (flat3 l).map (Value.int .u8) = entsB l := by
  induction l with
  | nil => rfl
  | cons x l ih => simp [flat3, entsB, entB] at ih ⊢; exact ih
theorem encL_map (w h : Int) (l : List (Int × Int × Int)) : (encL w h l).map (Value.int .u8) = [.int .u8 69, .int .u8 68, .int .u8 w, .int .u8 h] ++ entsB l := by
  simp [encL, flat3_map]
theorem flat3_len (l : List (Int × Int × Int)) : (flat3 l).length = 3 * l.length := by
  induction l with
  | nil => rfl
  | cons x l ih => simp [flat3] at ih ⊢; omega
theorem encL_len (w h : Int) (l : List (Int × Int × Int)) : (encL w h l).length = 4 + 3 * l.length := by simp [encL, flat3_len]; omega

theorem fit_bd {w h : Int} {l : List (Int × Int × Int)} (H : EncOk w h l) : ∀ x ∈ l, (0 ≤ x.1 ∧ x.1 < w) ∧ (0 ≤ x.2.1 ∧ x.2.1 < most h) ∧ 0 ≤ x.2.2 ∧ x.2.2 < most h := by
  intro x hx
  have := H.fit x hx
  simp only [fitsE, fitsB, Bool.and_eq_true, decide_eq_true_eq] at this
  omega
theorem most_bd {h : Int} (h1 : 1 ≤ h) (h2 : h ≤ 4) : most h ≤ 64 := by have := most_cases h h1 h2; omega
theorem encL_bd {w h : Int} {l : List (Int × Int × Int)} (H : EncOk w h l) : ∀ x ∈ encL w h l, 0 ≤ x ∧ x ≤ 255 := by
  intro x hx
  have hm := most_bd H.h1 H.h2
  have h1 := H.w1; have h2 := H.w2; have h3 := H.h1; have h4 := H.h2
  simp only [encL, List.mem_cons, flat3, List.mem_flatMap, List.not_mem_nil, or_false] at hx
  rcases hx with rfl | rfl | rfl | rfl | ⟨y, hy, hx⟩
  · omega
  · omega
  · omega
  · omega
  · have := fit_bd H y hy
    rcases hx with rfl | rfl | rfl <;> omega

theorem flat3_get (l : List (Int × Int × Int)) : ∀ (k : Nat) (hk : k < l.length), (flat3 l)[3 * k]? = some l[k].1 ∧ (flat3 l)[3 * k + 1]? = some l[k].2.1 ∧ (flat3 l)[3 * k + 2]? = some l[k].2.2 := by
  induction l with
  | nil => intro k hk; simp at hk
  | cons x l ih =>
    intro k hk
    cases k with
    | zero => simp [flat3]
    | succ k =>
      have := ih k (by simpa using hk)
      simp only [flat3, List.flatMap_cons, List.getElem_cons_succ] at this ⊢
      have e0 : 3 * (k + 1) = (3 * k) + 3 := by omega
      have e1 : 3 * (k + 1) + 1 = (3 * k + 1) + 3 := by omega
      have e2 : 3 * (k + 1) + 2 = (3 * k + 2) + 3 := by omega
      rw [e2, e1, e0]
      simpa using this

theorem entsOf_flat (l : List (Int × Int × Int)) : entsOf (flat3 l) = l := by
  induction l with
  | nil => rfl
  | cons x l ih => simp only [flat3, List.flatMap_cons] at ih ⊢; show entsOf (x.1 :: x.2.1 :: x.2.2 :: List.flatMap (fun x => [x.1, x.2.1, x.2.2]) l) = _; rw [entsOf, ih]

theorem encL_ok {w h : Int} {l : List (Int × Int × Int)} (H : EncOk w h l) (k : Nat) (hk : k ≤ (encL w h l).length) : okTo (encL w h l) k := by
  have h1 := H.w1; have h2 := H.w2; have h3 := H.h1; have h4 := H.h2
  intro i hi
  have hlen := encL_len w h l
  simp only [okAt, Bool.and_eq_true, decide_eq_true_eq]
  match i, hi with
  | 0, _ => simp [encL, lim]
  | 1, _ => simp [encL, lim]
  | 2, _ => simp [encL, lim]; omega
  | 3, _ => simp [encL, lim]; omega
  | i + 4, hi =>
    have eW : bW (encL w h l) (i + 4) = w := by simp [bW, encL]
    have eH : bH (encL w h l) (i + 4) = h := by simp [bH, encL]
    rw [eW, eH]
    have hi2 : i < 3 * l.length := by omega
    have hg : (encL w h l).getD (i + 4) 0 = (flat3 l).getD i 0 := by simp [encL]
    rw [hg]
    have hl : lim ((i + 4 : Nat) : Int) w h = if (i : Int) % 3 = 0 then (0, w - 1) else (0, most h - 1) := by
      unfold lim
      rw [if_neg (by omega), if_neg (by omega), if_neg (by omega), if_neg (by omega), show (((i + 4 : Nat) : Int) - 4) = (i : Int) from by omega]
    rw [hl]
    have hq : i / 3 < l.length := by omega
    have hb := fit_bd H l[i / 3] (List.getElem_mem hq)
    obtain ⟨g0, g1, g2⟩ := flat3_get l (i / 3) hq
    rcases (by omega : i % 3 = 0 ∨ i % 3 = 1 ∨ i % 3 = 2) with hr | hr | hr
    · rw [if_pos (by omega)]
      have e : 3 * (i / 3) = i := by omega
      rw [e] at g0
      simp only [List.getD_eq_getElem?_getD, g0, Option.getD_some]
      omega
    · rw [if_neg (by omega)]
      have e : 3 * (i / 3) + 1 = i := by omega
      rw [e] at g1
      simp only [List.getD_eq_getElem?_getD, g1, Option.getD_some]
      omega
    · rw [if_neg (by omega)]
      have e : 3 * (i / 3) + 2 = i := by omega
      rw [e] at g2
      simp only [List.getD_eq_getElem?_getD, g2, Option.getD_some]
      omega

theorem decF_enc {w h : Int} {l : List (Int × Int × Int)} (H : EncOk w h l) : decF (encL w h l) = .ok (w, h, l) := by
  have hlen := encL_len w h l
  have hl := H.len
  unfold decF
  rw [if_neg (by omega), firstBad_none (encL_ok H _ (Nat.le_refl _))]
  simp only
  rw [if_neg (by omega)]
  simp [encL, entsOf_flat]
end Go.Proofs.YtoaooblodgejdaaDoor
