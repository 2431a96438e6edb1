/- Columns and joined patches, there and back (plain). -/
import Derived.Test.YtnlpobkmjhajcaaDoorPatN
import Derived.Test.YtnlpobkmjhajcaaDoorPatM
namespace Go.Proofs.YtnlpobkmjhajcaaDoor
open Go.RowKit
set_option linter.unusedVariables false
set_option maxRecDepth 100000

theorem colV_bit {w h : Nat} {l : List Int} (hp : IsPatch w h l) {x y : Nat} (hx : x < w) : ∀ k, k ≤ h → y < k → colV w l x k / 2 ^ y % 2 = cellN w l x y
  | 0, _, hy => by omega
  | k + 1, hk, hy => by
    have hc := (cellN_le hp hx (show k < h by omega)).1
    rw [colV]
    by_cases e : y = k
    · subst e
      have hlt := colV_lt hp hx y (by omega)
      rw [Nat.add_mul_div_right _ _ (Nat.two_pow_pos y), Nat.div_eq_of_lt hlt]
      omega
    · have hy2 : y < k := by omega
      have e2 : cellN w l x k * 2 ^ k = (cellN w l x k * 2 ^ (k - y)) * 2 ^ y := by
        rw [Nat.mul_assoc, ← Nat.pow_add, Nat.sub_add_cancel (by omega)]
      rw [e2, Nat.add_mul_div_right _ _ (Nat.two_pow_pos y)]
      have e3 : cellN w l x k * 2 ^ (k - y) = 2 * (cellN w l x k * 2 ^ (k - y - 1)) := by
        rw [show k - y = (k - y - 1) + 1 by omega, Nat.pow_succ, show k - y - 1 + 1 - 1 = k - y - 1 by omega]
        rw [← Nat.mul_assoc, Nat.mul_comm 2]
      rw [e3, Nat.add_mul_mod_self_left]
      exact colV_bit hp hx k (by omega) hy2
theorem colL_getD {w h : Nat} {l : List Int} {x : Nat} (hx : x < w) : (colL w h l).getD x 0 = (colV w l x h : Int) := by simp [colL, hx]
theorem colL_ok {w h : Nat} {l : List Int} (hp : IsPatch w h l) (h16 : h ≤ 16) : JoinOk h (colL w h l) := by
  refine ⟨hp.h1, h16, by rw [colL_len]; exact hp.w1, by rw [colL_len]; exact hp.w2, fun u hu => ?_⟩
  obtain ⟨x, hx, rfl⟩ := List.mem_map.1 hu
  have h1 := colV_lt hp (List.mem_range.1 hx) h (Nat.le_refl _)
  have e : ((2 ^ h : Nat) : Int) = (2 : Int) ^ h := by rw [Int.natCast_pow]; rfl
  omega
/-- the columns of a patch, joined, are the patch -/
theorem join_col {w h : Nat} {l : List Int} (hp : IsPatch w h l) (h16 : h ≤ 16) : joinL h (colL w h l) = l := by
  unfold joinL
  rw [colL_len]
  refine (madeL_congr (g := atL w l) hp.w1 fun x y hx hy => ?_).trans (made_atL hp.w1 hp.len)
  have hb := colV_bit hp hx h (Nat.le_refl _) hy
  unfold joinF
  rw [colL_getD hx, ← (cellN_le hp hx hy).2, ← hb, Int.natCast_emod, Int.natCast_ediv, Int.natCast_pow]
  rfl
theorem pow_bits (u : Nat) : ∀ h, ∀ f : Nat → Nat, f 0 = 0 → (∀ k, k < h → f (k + 1) = f k + u / 2 ^ k % 2 * 2 ^ k) → f h = u % 2 ^ h
  | 0, f, h0, _ => by rw [h0, Nat.pow_zero, Nat.mod_one]
  | h + 1, f, h0, hs => by
    have ih := pow_bits u h f h0 fun k hk => hs k (by omega)
    rw [hs h (by omega), ih, Nat.pow_succ, Nat.mod_mul, Nat.mul_comm (u / 2 ^ h % 2)]
/-- joined numbers are told again -/
theorem col_join {h : Nat} {cs : List Int} (hj : JoinOk h cs) : colL cs.length h (joinL h cs) = cs := by
  have hp := join_patch hj
  apply List.ext_getElem
  · rw [colL_len]
  · intro x h1 h2
    simp only [colL, List.getElem_map, List.getElem_range]
    obtain ⟨hs0, hs1⟩ := hj.sym _ (List.getElem_mem h2)
    have hc : ∀ y, y < h → cellN cs.length (joinL h cs) x y = cs[x].toNat / 2 ^ y % 2 := by
      intro y hy
      unfold cellN
      rw [show atL cs.length (joinL h cs) x y = joinF cs x y from atL_made h2 hy]
      unfold joinF
      rw [show cs.getD x 0 = cs[x] by simp [h2]]
      have e2 : cs[x] / 2 ^ y % 2 = ((cs[x].toNat / 2 ^ y % 2 : Nat) : Int) := by
        rw [Int.natCast_emod, Int.natCast_ediv, Int.natCast_pow, Int.toNat_of_nonneg hs0]
        rfl
      rw [e2, Int.toNat_natCast]
    have := pow_bits cs[x].toNat h (colV cs.length (joinL h cs) x) rfl fun k hk => by rw [colV, hc k hk]
    have e : ((2 ^ h : Nat) : Int) = (2 : Int) ^ h := by rw [Int.natCast_pow]; rfl
    rw [this, Nat.mod_eq_of_lt (by omega), Int.toNat_of_nonneg hs0]
end Go.Proofs.YtnlpobkmjhajcaaDoor
