/- Plain: a found patch has the image, a found certificate holds; which of them is found. -/
import Derived.Test.YtoaooblodgejdaaDoorEvS
import Derived.Test.YtoaooblodgejdaaDoorEvQ
namespace Go.Proofs.YtoaooblodgejdaaDoor
open Go.RowKit
set_option linter.unusedVariables false
set_option maxRecDepth 100000

theorem path_pred {t cols : List Int} {h m w : Nat} {v : Nat → Nat} (hp : Path (mkL t cols h) m w 0 v) : Pred t cols h m w v := ⟨hp.lt, fun x hx => hp.mks x (by omega) hx⟩
/-- the columns of a way, from the first on -/
def colsV (v : Nat → Nat) (w : Nat) : List Int := (List.range (w + 2)).map fun x => ((v x : Nat) : Int)
theorem wayL_rev (v : Nat → Nat) (w : Nat) : (wayL v w 0).reverse = colsV v w := by
  apply List.ext_getElem
  · simp [wayL, colsV]
  · intro i h1 h2
    simp only [colsV, List.length_map, List.length_range] at h2
    rw [List.getElem_reverse]
    simp only [wayL, colsV, List.getElem_map, List.getElem_range, List.length_map, List.length_range]
    congr 2
    omega
theorem colsV_ok {v : Nat → Nat} {w h m : Nat} (hm : m = 4 * 2 ^ h) (h1 : 1 ≤ h) (h4 : h ≤ 4) (w8 : w ≤ 8) (hv : ∀ x, x < w + 2 → v x < m) : JoinOk (h + 2) (colsV v w) := by
  have e : ((2 : Int) ^ (h + 2)) = ((4 * 2 ^ h : Nat) : Int) := by
    have h2 : (2 : Nat) ^ (h + 2) = 4 * 2 ^ h := by rw [Nat.pow_add]; omega
    rw [← h2, Int.natCast_pow]; rfl
  refine ⟨by omega, by omega, by simp [colsV], by simp [colsV]; omega, fun x hx => ?_⟩
  obtain ⟨j, hj, rfl⟩ := List.mem_map.1 hx
  have h2 := hv j (List.mem_range.1 hj)
  rw [e, ← hm]
  omega
theorem bits_eq {a b h : Nat} (ha : a < 2 ^ h) (hb : b < 2 ^ h) {t : List Int} {x y z : Nat} (h1 : (looksF t x y z a h 0).2 = true) (h2 : (looksF t x y z b h 0).2 = true) : a = b := by
  have e1 := madeV_of (t := t) (a := x) (b := y) (c := z) (x := a) h (fun j hj => by have := (looksF_all h 0).1 h1 j hj; rwa [Nat.zero_add] at this)
  have e2 := madeV_of (t := t) (a := x) (b := y) (c := z) (x := b) h (fun j hj => by have := (looksF_all h 0).1 h2 j hj; rwa [Nat.zero_add] at this)
  rw [Nat.mod_eq_of_lt ha] at e1
  rw [Nat.mod_eq_of_lt hb] at e2
  rw [← e1, ← e2]
/-- the patch of a predecessor's columns has the image -/
theorem pred_step {t l : List Int} {w h : Nat} {v : Nat → Nat} (ht : IsTab t) (hp : IsPatch w h l) (w8 : w ≤ 8) (h4 : h ≤ 4) (hv : Pred t (colL w h l) h (4 * 2 ^ h) w v) :
    IsPatch (w + 2) (h + 2) (joinL (h + 2) (colsV v w)) ∧ stepL t (w + 2) (h + 2) (joinL (h + 2) (colsV v w)) = l := by
  have hj := colsV_ok (v := v) (w := w) rfl hp.h1 h4 w8 hv.lt
  have hlen : (colsV v w).length = w + 2 := by simp [colsV]
  have hq := join_patch hj
  rw [hlen] at hq
  refine ⟨hq, ?_⟩
  have hcj := col_join hj
  rw [hlen] at hcj
  have hS : IsPatch (w + 2 - 2) (h + 2 - 2) (stepL t (w + 2) (h + 2) (joinL (h + 2) (colsV v w))) := stepL_patch hq ht.len ht.sym (by have := hp.w1; omega) (by have := hp.h1; omega)
  have hS2 : IsPatch w h (stepL t (w + 2) (h + 2) (joinL (h + 2) (colsV v w))) := hS
  have hsp := step_pred hq ht
  rw [← join_col hS2 (by omega), ← join_col hp (by omega)]
  congr 1
  apply List.ext_getElem
  · rw [colL_len, colL_len]
  · intro x h1 h2
    rw [colL_len] at h1
    have g1 : ∀ L : List Int, (hl : x < (colL w h L).length) → (colL w h L)[x] = (colV w L x h : Int) := fun L hl => by simp [colL]
    rw [g1, g1]
    have cv : ∀ y, y < w + 2 → colV (w + 2) (joinL (h + 2) (colsV v w)) y (h + 2) = v y := fun y hy => by
      have e1 := colL_getD (l := joinL (h + 2) (colsV v w)) (h := h + 2) hy
      rw [hcj] at e1
      have e2 : (colsV v w).getD y 0 = ((v y : Nat) : Int) := by simp [colsV, hy]
      rw [e2] at e1
      omega
    have a1 := hsp.mks x h1
    have a2 := hv.mks x h1
    simp only [cv x (by omega), cv (x + 1) (by omega), cv (x + 2) (by omega)] at a1
    rw [colL_getD h1, Int.toNat_natCast] at a1 a2
    rw [bits_eq (colV_lt hS2 h1 h (Nat.le_refl _)) (colV_lt hp h1 h (Nat.le_refl _)) a1 a2]
theorem gvD_right {t l : List Int} {w h : Nat} (ht : IsTab t) (hp : IsPatch w h l) (w8 : w ≤ 8) (h4 : h ≤ 4) : gvD t (w : Int) (h : Int) l = none := by
  unfold gvD
  rw [tabD_of ht, patchErr_of hp]
  exact (if_neg (by omega)).trans (if_neg (by omega))
theorem encOk_fit {w h : Nat} {L : List Ent} (h1 : 1 ≤ w) (w8 : w ≤ 8) (h2 : 1 ≤ h) (h4 : h ≤ 4) (hl : L.length ≤ 43689) (hf : ∀ x ∈ L, Fit3 w (4 * 2 ^ h) x) : EncOk (w : Int) (h : Int) L := by
  refine ⟨by omega, by omega, by omega, by omega, hl, fun x hx => ?_⟩
  have q := hf x hx
  have q1 := q.a0; have q2 := q.a1; have q3 := q.b0; have q4 := q.b1; have q5 := q.c0; have q6 := q.c1
  simp only [fitsE, fitsB, Bool.and_eq_true, decide_eq_true_eq, most_nat]
  omega
/-- a certificate that goes through holds -/
theorem judge_of {t l : List Int} {w h : Nat} {L : List Ent} (ht : IsTab t) (hp : IsPatch w h l) (w8 : w ≤ 8) (h4 : h ≤ 4) (H : EncOk (w : Int) (h : Int) L) (hf : ∀ x ∈ L, Fit3 w (4 * 2 ^ h) x) :
    ((judgeF t (w : Int) (h : Int) l (encL (w : Int) (h : Int) L)).2 = none ↔ AllH t (colL w h l) h (4 * 2 ^ h) L [] ∧ 4 * 2 ^ h * (4 * 2 ^ h) ≤ cnt0 (4 * 2 ^ h) L (4 * 2 ^ h * (4 * 2 ^ h))) ∧
    ((judgeF t (w : Int) (h : Int) l (encL (w : Int) (h : Int) L)).2 = none → (judgeF t (w : Int) (h : Int) l (encL (w : Int) (h : Int) L)).1 = costs t (colL w h l) h (4 * 2 ^ h) L) := by
  have hr := run_all (t := t) (cols := colL w h l) (h := h) (m := 4 * 2 ^ h) (w := w) L 0 [] 0 hf
  rw [cnt0_nil] at hr
  rw [judgeF_run (gvD_right ht hp w8 h4) (decF_enc H) rfl]
  generalize judgeRun t (colL w h l) h (4 * 2 ^ h) L 0 [] 0 0 = X at hr
  obtain ⟨n, o⟩ := X
  rw [List.nil_append, Nat.zero_add] at hr
  cases o with
  | none => exact ⟨⟨fun _ => hr.1.1 rfl, fun _ => rfl⟩, fun _ => hr.2 rfl⟩
  | some a => exact ⟨⟨nofun, fun h => absurd (hr.1.2 h) nofun⟩, nofun⟩
theorem m_le {h : Nat} (h4 : h ≤ 4) : 4 * 2 ^ h ≤ 64 ∧ 0 < 4 * 2 ^ h := by
  have := Nat.pow_le_pow_right (n := 2) (by omega) h4
  have h2 : (2 : Nat) ^ 4 = 16 := by decide
  have := Nat.one_le_two_pow (n := h)
  omega
/-- the most tries that are made -/
theorem enough_le {w h : Nat} (w8 : w ≤ 8) (h4 : h ≤ 4) : w * (4 * 2 ^ h) * (4 * 2 ^ h) ≤ 32768 ∧ w * (4 * 2 ^ h) * (4 * 2 ^ h) * (4 * 2 ^ h) ≤ 2097152 := by
  have hm := (m_le h4).1
  have a := Nat.mul_le_mul w8 hm
  have b := Nat.mul_le_mul a hm
  exact ⟨b, Nat.mul_le_mul b hm⟩
/-- the search of a right table and patch -/
structure SeekEnd (t l : List Int) (w h L0 : Nat) (S : SS) (o : Option Bool) : Prop where
  tl : S.tries ≤ L0
  te : S.tries ≤ w * (4 * 2 ^ h) * (4 * 2 ^ h) * (4 * 2 ^ h)
  enc : EncOk (w : Int) (h : Int) S.order
  err : o = none → S.tries = L0 ∧ L0 < w * (4 * 2 ^ h) * (4 * 2 ^ h) * (4 * 2 ^ h)
  cert : o = some false → (judgeF t (w : Int) (h : Int) l (encL (w : Int) (h : Int) S.order)).2 = none ∧ ∀ v, ¬ Pred t (colL w h l) h (4 * 2 ^ h) w v
  patch : o = some true → ∃ v, S.way.reverse = colsV v w ∧ JoinOk (h + 2) (colsV v w) ∧ Pred t (colL w h l) h (4 * 2 ^ h) w v ∧ IsPatch (w + 2) (h + 2) (joinL (h + 2) (colsV v w)) ∧ stepL t (w + 2) (h + 2) (joinL (h + 2) (colsV v w)) = l
theorem seek_end {t l : List Int} {w h : Nat} (ht : IsTab t) (hp : IsPatch w h l) (w8 : w ≤ 8) (h4 : h ≤ 4) (L0 : Nat) :
    SeekEnd t l w h L0 (seekF t (colL w h l) h (4 * 2 ^ h) w L0).1 (seekF t (colL w h l) h (4 * 2 ^ h) w L0).2 := by
  have hs := seek_post t (colL w h l) h (4 * 2 ^ h) w L0
  have hb := enough_le w8 h4
  generalize seekF t (colL w h l) h (4 * 2 ^ h) w L0 = X at hs ⊢
  obtain ⟨S, o⟩ := X
  simp only at hs ⊢
  have henc := encOk_fit hp.w1 w8 hp.h1 h4 (L := S.order) (by have := hs.len; omega) hs.fit
  refine ⟨hs.tl, ?_, henc, fun e => (hs.err e).2, fun e => ?_, fun e => ?_⟩
  · by_cases e : o = none
    · have := hs.err e; omega
    · exact hs.ok e
  · have hj := (judge_of ht hp w8 h4 henc hs.fit).1.2 ⟨(hs.no e).1, by rw [(hs.no e).2]; exact Nat.le_refl _⟩
    refine ⟨hj, ?_⟩
    obtain ⟨w', h', e1, e2, _, _, _, _, hno⟩ := judge_sound hj
    obtain rfl : w = w' := by omega
    obtain rfl : h = h' := by omega
    exact hno
  · obtain ⟨v, hv, hw⟩ := hs.yes e
    have hpr := path_pred hv
    obtain ⟨q1, q2⟩ := pred_step ht hp w8 h4 hpr
    exact ⟨v, by rw [hw, wayL_rev], colsV_ok rfl hp.h1 h4 w8 hpr.lt, hpr, q1, q2⟩
end Go.Proofs.YtoaooblodgejdaaDoor
