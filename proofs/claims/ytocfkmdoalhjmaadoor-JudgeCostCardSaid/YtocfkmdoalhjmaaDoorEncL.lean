/- Encode's bytes, read back: plain laws. -/
import Derived.Test.YtocfkmdoalhjmaaDoorDec
import Derived.WalkKit
import Derived.Lib.Hide
import Derived.Test.YtocfkmdoalhjmaaDoorEncE
namespace Go.Proofs.YtocfkmdoalhjmaaDoor
open Go.RowKit
set_option linter.unusedVariables false

def flat3 (l : List (Int × Int × Int)) : List Int := l.flatMap fun x => [x.1, x.2.1, x.2.2]
/-- the bytes of a certificate -/
def encL (w h : Int) (l : List (Int × Int × Int)) : List Int := 69 :: 68 :: w :: h :: flat3 l

/-- a certificate that may be written -/
structure EncOk (w h : Int) (l : List (Int × Int × Int)) : Prop where
  w1 : 1 ≤ w
  w2 : w ≤ 8
  h1 : 1 ≤ h
  h2 : h ≤ 4
  len : l.length ≤ 43689
  fit : ∀ x ∈ l, fitsE w h x = true

theorem encOk_of {w h : Int} {l : List (Int × Int × Int)} (hn : encErr w h l = none) : EncOk w h l := by
  obtain ⟨a, b, c, d, e, f⟩ := encErr_none hn
  exact ⟨a, b, c, d, e, f⟩

theorem flat3_map (l : List (Int × Int × Int)) : (flat3 l).map (Value.int .u8) = entsB l := by
  induction l with
  | nil => rfl
  | cons x l ih => simp [flat3, entsB, entB] at ih ⊢; exact ih
theorem encL_map (w h : Int) (l : List (Int × Int × Int)) : (encL w h l).map (Value.int .u8) = [.int .u8 69, .int .u8 68, .int .u8 w, .int .u8 h] ++ entsB l := by
  simp [encL, flat3_map]
theorem flat3_len (l : List (Int × Int × Int)) : (flat3 l).length = 3 * l.length := by
  induction l with
  | nil => rfl
  | cons x l ih => simp [flat3] at ih ⊢; omega
theorem encL_len (w h : Int) (l : List (Int × Int × Int)) : (encL w h l).length = 4 + 3 * l.length := by simp [encL, flat3_len]; omega

theorem fit_bd {w h : Int} {l : List (Int × Int × Int)} (H : EncOk w h l) : ∀ x ∈ l, (0 ≤ x.1 ∧ x.1 < w) ∧ (0 ≤ x.2.1 ∧ x.2.1 < most h) ∧ 0 ≤ x.2.2 ∧ x.2.2 < most h := by
  intro x hx
  have := H.fit x hx
  simp only [fitsE, fitsB, Bool.and_eq_true, decide_eq_true_eq] at this
  omega
theorem most_bd {h : Int} (h1 : 1 ≤ h) (h2 : h ≤ 4) : most h ≤ 64 := by have := most_cases h h1 h2; omega
theorem encL_bd {w h : Int} {l : List (Int × Int × Int)} (H : EncOk w h l) : ∀ x ∈ encL w h l, 0 ≤ x ∧ x ≤ 255 := by
  intro x hx
  have hm := most_bd H.h1 H.h2
  have h1 := H.w1; have h2 := H.w2; have h3 := H.h1; have h4 := H.h2
  simp only [encL, List.mem_cons, flat3, List.mem_flatMap, List.not_mem_nil, or_false] at hx
  rcases hx with rfl | rfl | rfl | rfl | ⟨y, hy, hx⟩
  · omega
  · omega
  · omega
  · omega
  · have := fit_bd H y hy
    rcases hx with rfl | rfl | rfl <;> omega

theorem flat3_get (l : List (Int × Int × Int)) : ∀ (k : Nat) (hk : k < l.length), (flat3 l)[3 * k]? = some l[k].1 ∧ (flat3 l)[3 * k + 1]? = some l[k].2.1 ∧ (flat3 l)[3 * k + 2]? = some l[k].2.2 := by
  induction l with
  | nil => intro k hk; simp at hk
  | cons x l ih =>
    intro k hk
    cases k with
    | zero => simp [flat3]
    | succ k =>
      have := ih k (by simpa using hk)
      simp only [flat3, List.flatMap_cons, List.getElem_cons_succ] at this ⊢
      have e0 : 3 * (k + 1) = (3 * k) + 3 := by omega
      have e1 : 3 * (k + 1) + 1 = (3 * k + 1) + 3 := by omega
      have e2 : 3 * (k + 1) + 2 = (3 * k + 2) + 3 := by omega
      rw [e2, e1, e0]
      simpa using this

theorem entsOf_flat (l : List (Int × Int × Int)) : entsOf (flat3 l) = l := by
  induction l with
  | nil => rfl
  | cons x l ih => simp only [flat3, List.flatMap_cons] at ih ⊢; show entsOf (x.1 :: x.2.1 :: x.2.2 :: List.flatMap (fun x => [x.1, x.2.1, x.2.2]) l) = _; rw [entsOf, ih]

theorem encL_ok {w h : Int} {l : List (Int × Int × Int)} (H : EncOk w h l) (k : Nat) (hk : k ≤ (encL w h l).length) : okTo (encL w h l) k := by
  have h1 := H.w1; have h2 := H.w2; have h3 := H.h1; have h4 := H.h2
  intro i hi
  have hlen := encL_len w h l
  simp only [okAt, Bool.and_eq_true, decide_eq_true_eq]
  match i, hi with
  | 0, _ => simp [encL, lim]
  | 1, _ => simp [encL, lim]
  | 2, _ => simp [encL, lim]; omega
  | 3, _ => simp [encL, lim]; omega
  | i + 4, hi =>
    have eW : bW (encL w h l) (i + 4) = w := by simp [bW, encL]
    have eH : bH (encL w h l) (i + 4) = h := by simp [bH, encL]
    rw [eW, eH]
    have hi2 : i < 3 * l.length := by omega
    have hg : (encL w h l).getD (i + 4) 0 = (flat3 l).getD i 0 := by simp [encL]
    rw [hg]
    have hl : lim ((i + 4 : Nat) : Int) w h = if (i : Int) % 3 = 0 then (0, w - 1) else (0, most h - 1) := by
      unfold lim
      rw [if_neg (by omega), if_neg (by omega), if_neg (by omega), if_neg (by omega), show (((i + 4 : Nat) : Int) - 4) = (i : Int) from by omega]
    rw [hl]
    have hq : i / 3 < l.length := by omega
    have hb := fit_bd H l[i / 3] (List.getElem_mem hq)
    obtain ⟨g0, g1, g2⟩ := flat3_get l (i / 3) hq
    rcases (by omega : i % 3 = 0 ∨ i % 3 = 1 ∨ i % 3 = 2) with hr | hr | hr
    · rw [if_pos (by omega)]
      have e : 3 * (i / 3) = i := by omega
      rw [e] at g0
      simp only [List.getD_eq_getElem?_getD, g0, Option.getD_some]
      omega
    · rw [if_neg (by omega)]
      have e : 3 * (i / 3) + 1 = i := by omega
      rw [e] at g1
      simp only [List.getD_eq_getElem?_getD, g1, Option.getD_some]
      omega
    · rw [if_neg (by omega)]
      have e : 3 * (i / 3) + 2 = i := by omega
      rw [e] at g2
      simp only [List.getD_eq_getElem?_getD, g2, Option.getD_some]
      omega

theorem decF_enc {w h : Int} {l : List (Int × Int × Int)} (H : EncOk w h l) : decF (encL w h l) = .ok (w, h, l) := by
  have hlen := encL_len w h l
  have hl := H.len
  unfold decF
  rw [if_neg (by omega), firstBad_none (encL_ok H _ (Nat.le_refl _))]
  simp only
  rw [if_neg (by omega)]
  simp [encL, entsOf_flat]
end Go.Proofs.YtocfkmdoalhjmaaDoor
