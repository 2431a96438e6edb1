/- Rules in the plane (plain): windows, images, tables that count neighbours, the texts of tables. -/
import Derived.Test.YtocfkmdoalhjmaaDoorPatP
namespace Go.Proofs.YtocfkmdoalhjmaaDoor
set_option linter.unusedVariables false
set_option maxRecDepth 100000

/-- the number of the window at a place -/
def winZ (w : Nat) (l : List Int) (x y : Nat) : Int :=
  256 * atL w l x y + 128 * atL w l (x + 1) y + 64 * atL w l (x + 2) y + 32 * atL w l x (y + 1) + 16 * atL w l (x + 1) (y + 1) + 8 * atL w l (x + 2) (y + 1) + 4 * atL w l x (y + 2) + 2 * atL w l (x + 1) (y + 2) + atL w l (x + 2) (y + 2)
def winN (w : Nat) (l : List Int) (x y : Nat) : Nat := (winZ w l x y).toNat
theorem winZ_lt {w h : Nat} {l : List Int} (hp : IsPatch w h l) {x y : Nat} (hx : x + 2 < w) (hy : y + 2 < h) : 0 ≤ winZ w l x y ∧ winZ w l x y < 512 := by
  have h1 := atL_sym hp (show x < w by omega) (show y < h by omega)
  have h2 := atL_sym hp (show x + 1 < w by omega) (show y < h by omega)
  have h3 := atL_sym hp (show x + 2 < w by omega) (show y < h by omega)
  have h4 := atL_sym hp (show x < w by omega) (show y + 1 < h by omega)
  have h5 := atL_sym hp (show x + 1 < w by omega) (show y + 1 < h by omega)
  have h6 := atL_sym hp (show x + 2 < w by omega) (show y + 1 < h by omega)
  have h7 := atL_sym hp (show x < w by omega) (show y + 2 < h by omega)
  have h8 := atL_sym hp (show x + 1 < w by omega) (show y + 2 < h by omega)
  have h9 := atL_sym hp (show x + 2 < w by omega) (show y + 2 < h by omega)
  unfold winZ
  omega
theorem winN_lt {w h : Nat} {l : List Int} (hp : IsPatch w h l) {x y : Nat} (hx : x + 2 < w) (hy : y + 2 < h) : winN w l x y < 512 ∧ ((winN w l x y : Nat) : Int) = winZ w l x y := by
  have := winZ_lt hp hx hy
  unfold winN
  omega
/-- the image of a patch -/
def stepF (t : List Int) (w : Nat) (l : List Int) (x y : Nat) : Int := t.getD (winN w l x y) 0
def stepL (t : List Int) (w h : Nat) (l : List Int) : List Int := madeL (w - 2) (h - 2) (stepF t w l)
/-- a window's number of neighbours -/
def aboutN (i : Nat) : Nat := i / 256 % 2 + i / 128 % 2 + i / 64 % 2 + i / 32 % 2 + i / 8 % 2 + i / 4 % 2 + i / 2 % 2 + i % 2
/-- the table of two sets -/
def tabF (born stays i : Nat) : Nat := (if i / 16 % 2 = 1 then stays else born) / 2 ^ aboutN i % 2
def tabOf (born stays : Nat) : List Int := (List.range 512).map fun i => ((tabF born stays i : Nat) : Int)
theorem tabOf_len (born stays : Nat) : (tabOf born stays).length = 512 := by simp [tabOf]
theorem tabOf_get {born stays i : Nat} (hi : i < 512) : (tabOf born stays).getD i 0 = ((tabF born stays i : Nat) : Int) := by simp [tabOf, hi]
theorem tabOf_sym (born stays : Nat) : ∀ x ∈ tabOf born stays, x = 0 ∨ x = 1 := by
  intro x hx
  obtain ⟨i, _, rfl⟩ := List.mem_map.1 hx
  unfold tabF
  omega
/-- a byte of a table's text is taken: state, the digit ahead, the sets -/
def takeF (st : Nat) (last : Int) (s0 s1 : Nat) (c : UInt8) : Option (Nat × Int × Nat × Nat) :=
  if st = 0 then (if c = 66 then some (1, -1, s0, s1) else none)
  else if st = 2 then (if c = 83 then some (3, -1, s0, s1) else none)
  else if st = 1 ∧ c = 47 then some (2, last, s0, s1)
  else if (c.toNat : Int) - 48 ≤ last ∨ 8 < (c.toNat : Int) - 48 then none
  else if st = 1 then some (1, (c.toNat : Int) - 48, s0 + 2 ^ (c.toNat - 48), s1) else some (3, (c.toNat : Int) - 48, s0, s1 + 2 ^ (c.toNat - 48))
/-- the state of a reader: the set that grows lies below the next digit's weight -/
structure RdSt (st : Nat) (last : Int) (s0 s1 : Nat) : Prop where
  s3 : st ≤ 3
  lo : -1 ≤ last
  hi : last ≤ 8
  b0 : s0 < 512
  b1 : s1 < 512
  g0 : st = 1 → s0 < 2 ^ (last + 1).toNat
  g1 : st = 3 → s1 < 2 ^ (last + 1).toNat
  z0 : st = 0 → s0 = 0 ∧ s1 = 0
  z1 : st = 1 → s1 = 0
  z2 : st = 2 → s1 = 0
theorem RdSt.start : RdSt 0 (-1) 0 0 := ⟨by omega, by omega, by omega, by omega, by omega, (fun h => by omega), (fun h => by omega), fun _ => ⟨rfl, rfl⟩, (fun h => by omega), (fun h => by omega)⟩
theorem pow_grow {s d : Nat} {last : Int} (h : s < 2 ^ (last + 1).toNat) (h1 : -1 ≤ last) (h2 : last < (d : Int)) (h3 : d ≤ 8) : s < 2 ^ d ∧ s + 2 ^ d < 2 ^ (d + 1) ∧ s + 2 ^ d < 512 := by
  have e1 : 2 ^ (last + 1).toNat ≤ 2 ^ d := Nat.pow_le_pow_right (by omega) (by omega)
  have e2 : 2 ^ (d + 1) ≤ 2 ^ 9 := Nat.pow_le_pow_right (by omega) (by omega)
  have e3 : 2 ^ (d + 1) = 2 ^ d * 2 := Nat.pow_succ ..
  have e4 : (2 : Nat) ^ 9 = 512 := by decide
  omega
theorem take_next {st s0 s1 : Nat} {last : Int} {c : UInt8} {r : Nat × Int × Nat × Nat} (h : RdSt st last s0 s1) (e : takeF st last s0 s1 c = some r) : RdSt r.1 r.2.1 r.2.2.1 r.2.2.2 := by
  have h0 := h.s3
  unfold takeF at e
  by_cases c0 : st = 0
  · rw [if_pos c0] at e
    split at e
    · cases e
      obtain ⟨z0, z1⟩ := h.z0 c0
      exact ⟨by show 1 ≤ 3; omega, by show (-1 : Int) ≤ -1; omega, by show (-1 : Int) ≤ 8; omega, h.b0, h.b1, fun _ => by show s0 < 2 ^ 0; omega, (fun h => by cases h), (fun h => by cases h), fun _ => z1, (fun h => by cases h)⟩
    · cases e
  rw [if_neg c0] at e
  by_cases c2 : st = 2
  · rw [if_pos c2] at e
    split at e
    · cases e
      have z1 := h.z2 c2
      exact ⟨by show 3 ≤ 3; omega, by show (-1 : Int) ≤ -1; omega, by show (-1 : Int) ≤ 8; omega, h.b0, h.b1, (fun h => by cases h), fun _ => by show s1 < 2 ^ 0; omega, (fun h => by cases h), (fun h => by cases h), (fun h => by cases h)⟩
    · cases e
  rw [if_neg c2] at e
  by_cases c1 : st = 1 ∧ c = 47
  · rw [if_pos c1] at e
    cases e
    exact ⟨by show 2 ≤ 3; omega, h.lo, h.hi, h.b0, h.b1, (fun h => by cases h), (fun h => by cases h), (fun h => by cases h), (fun h => by cases h), fun _ => h.z1 c1.1⟩
  rw [if_neg c1] at e
  split at e
  · cases e
  rename_i hd
  have hlo := h.lo
  obtain ⟨d, hd1⟩ : ∃ d, c.toNat - 48 = d := ⟨_, rfl⟩
  have hd2 : (c.toNat : Int) - 48 = (d : Int) := by omega
  rw [hd2] at hd e
  rw [hd1] at e
  have hdl : ((d : Int) + 1).toNat = d + 1 := by omega
  split at e
  · rename_i hs
    cases e
    have hg := pow_grow (h.g0 hs) hlo (show last < (d : Int) by omega) (by omega)
    exact ⟨by show 1 ≤ 3; omega, by show -1 ≤ (d : Int); omega, by show (d : Int) ≤ 8; omega, hg.2.2, h.b1, fun _ => by show _ < 2 ^ ((d : Int) + 1).toNat; rw [hdl]; exact hg.2.1, (fun h => by cases h), (fun h => by cases h), fun _ => h.z1 hs, (fun h => by cases h)⟩
  · rename_i hs
    cases e
    have h3 : st = 3 := by omega
    have hg := pow_grow (h.g1 h3) hlo (show last < (d : Int) by omega) (by omega)
    exact ⟨by show 3 ≤ 3; omega, by show -1 ≤ (d : Int); omega, by show (d : Int) ≤ 8; omega, h.b0, hg.2.2, (fun h => by cases h), fun _ => by show _ < 2 ^ ((d : Int) + 1).toNat; rw [hdl]; exact hg.2.1, (fun h => by cases h), (fun h => by cases h), (fun h => by cases h)⟩
/-- a table's text is gone through -/
def lifeRun : List UInt8 → Nat → Nat → Int → Nat → Nat → Except Nat (Nat × Nat)
  | [], i, st, last, s0, s1 => if st = 3 then .ok (s0, s1) else .error i
  | c :: r, i, st, last, s0, s1 => match takeF st last s0 s1 c with
    | some (st', last', s0', s1') => lifeRun r (i + 1) st' last' s0' s1'
    | none => .error i
end Go.Proofs.YtocfkmdoalhjmaaDoor
