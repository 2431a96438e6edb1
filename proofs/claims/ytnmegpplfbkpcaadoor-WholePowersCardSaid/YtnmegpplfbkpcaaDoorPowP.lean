/- Plain: rules composed, powers of rules; what they do with functions on the integers. -/
import Derived.Test.YtnmegpplfbkpcaaDoorRuleB
import Derived.Test.YtnmegpplfbkpcaaDoorRngP
import Derived.Test.YtnmegpplfbkpcaaDoorRingA
namespace Go.Proofs.YtnmegpplfbkpcaaDoor
set_option linter.unusedVariables false

def digP (k m n : Nat) : List Int := (List.range m).map fun q => ((n / k ^ (m - 1 - q) % k : Nat) : Int)
theorem digP_len (k m n : Nat) : (digP k m n).length = m := by simp [digP]
theorem digP_sym {k m n : Nat} (k1 : 1 ≤ k) : ∀ x ∈ digP k m n, 0 ≤ x ∧ x < (k : Int) := by
  intro x hx
  obtain ⟨q, _, rfl⟩ := List.mem_map.1 hx
  have := Nat.mod_lt (n / k ^ (m - 1 - q)) k1
  omega
theorem digP_win {k m : Nat} {f : Nat → Int} (k1 : 1 ≤ k) (hf : ∀ j, j < m → 0 ≤ f j ∧ f j < (k : Int)) : digP k m (winF k f m) = (List.range m).map f := by
  unfold digP
  apply List.map_congr_left
  intro q hq
  rw [List.mem_range] at hq
  have e : m = (q + 1) + (m - 1 - q) := by omega
  have h1 : winF k f m = winF k f (q + 1) * k ^ (m - 1 - q) + winF k (fun j => f (q + 1 + j)) (m - 1 - q) := by
    conv => lhs; rw [e]
    exact winF_add _
  have h2 : winF k (fun j => f (q + 1 + j)) (m - 1 - q) < k ^ (m - 1 - q) := winF_lt fun j hj => hf _ (by omega)
  have hp : 0 < k ^ (m - 1 - q) := Nat.pow_pos k1
  have h3 : winF k f m / k ^ (m - 1 - q) = winF k f (q + 1) := by
    rw [h1, Nat.mul_comm, Nat.mul_add_div hp, Nat.div_eq_of_lt h2, Nat.add_zero]
  rw [h3]
  show (((winF k f q * k + (f q).toNat) % k : Nat) : Int) = f q
  have h4 := hf q hq
  rw [Nat.mul_comm, Nat.mul_add_mod, Nat.mod_eq_of_lt (by omega)]
  omega
/-- the number that a window makes, and its symbol -/
def numL (k : Nat) (l : List Int) : Nat := winF k (fun j => l.getD j 0) l.length
def symL (k : Nat) (tb l : List Int) : Int := tb.getD (numL k l) 0
theorem symL_range {k : Nat} {tb l : List Int} (h : ∀ x ∈ tb, 0 ≤ x ∧ x < (k : Int)) (k1 : 1 ≤ k) : 0 ≤ symL k tb l ∧ symL k tb l < (k : Int) :=
  getD_all (P := fun x => 0 ≤ x ∧ x < (k : Int)) h ⟨by omega, by omega⟩ _
theorem img_sym (k r : Nat) (tb : List Int) (s : Int → Int) (i : Int) : img k r tb s i = symL k tb (valsF s (i - (r : Int)) (2 * r + 1)) := by
  unfold img symL numL
  rw [valsF_len]
  congr 1
  exact winF_congr fun j hj => (valsF_getD hj).symm
theorem numL_lt {k : Nat} {l : List Int} (h : ∀ x ∈ l, 0 ≤ x ∧ x < (k : Int)) : numL k l < k ^ l.length := winF_lt fun j hj => by
  have : l.getD j 0 = l[j] := by simp [hj]
  rw [this]; exact h _ (List.getElem_mem hj)

/-- the table that is told window by window -/
def madeT (k m : Nat) (F : List Int → Int) : List Int := (List.range (k ^ m)).map fun n => F (digP k m n)
theorem madeT_len (k m : Nat) (F : List Int → Int) : (madeT k m F).length = k ^ m := by simp [madeT]
theorem madeT_at {k m n : Nat} {F : List Int → Int} (h : n < k ^ m) : (madeT k m F).getD n 0 = F (digP k m n) := by simp [madeT, h]
theorem made_rule {k r : Nat} {F : List Int → Int} (k1 : 1 ≤ k) (k4 : k ≤ 4) (r3 : r ≤ 3) (hF : ∀ l, l.length = 2 * r + 1 → (∀ x ∈ l, 0 ≤ x ∧ x < (k : Int)) → 0 ≤ F l ∧ F l < (k : Int)) : IsRule k r (madeT k (2 * r + 1) F) := by
  refine ⟨k1, k4, r3, madeT_len _ _ _, fun x hx => ?_⟩
  obtain ⟨n, _, rfl⟩ := List.mem_map.1 hx
  exact hF _ (digP_len _ _ _) (digP_sym k1)
theorem made_img {k r : Nat} {F : List Int → Int} (k1 : 1 ≤ k) {s : Int → Int} (hs : ∀ i, 0 ≤ s i ∧ s i < (k : Int)) (i : Int) : img k r (madeT k (2 * r + 1) F) s i = F (valsF s (i - (r : Int)) (2 * r + 1)) := by
  unfold img
  rw [madeT_at (winF_lt fun j hj => hs _), digP_win k1 fun j hj => hs _]
  rfl
/-- a behind b -/
def behF (k rb : Nat) (ta tb : List Int) (l : List Int) : Int := symL k ta (stepL k rb tb l)
theorem beh_rule {k ra rb : Nat} {ta tb : List Int} (ha : IsRule k ra ta) (hb : IsRule k rb tb) (h3 : ra + rb ≤ 3) : IsRule k (ra + rb) (madeT k (2 * (ra + rb) + 1) (behF k rb ta tb)) :=
  made_rule ha.k1 ha.k4 h3 fun l _ _ => symL_range ha.sym ha.k1
theorem beh_img {k ra rb : Nat} {ta tb : List Int} (ha : IsRule k ra ta) {s : Int → Int} (hs : ∀ i, 0 ≤ s i ∧ s i < (k : Int)) (i : Int) :
    img k (ra + rb) (madeT k (2 * (ra + rb) + 1) (behF k rb ta tb)) s i = img k ra ta (img k rb tb s) i := by
  rw [made_img ha.k1 hs]
  unfold behF
  rw [stepL_vals, img_sym k ra]
  congr 1
  rw [show i - ((ra + rb : Nat) : Int) + (rb : Int) = i - (ra : Int) by omega, show 2 * (ra + rb) + 1 - 2 * rb = 2 * ra + 1 by omega]
def idF (l : List Int) : Int := l.getD 0 0
theorem id_rule {k : Nat} (k1 : 1 ≤ k) (k4 : k ≤ 4) : IsRule k 0 (madeT k 1 idF) :=
  made_rule (r := 0) k1 k4 (by omega) fun l hl hx => getD_all (P := fun x => 0 ≤ x ∧ x < (k : Int)) hx ⟨by omega, by omega⟩ _
theorem id_img {k : Nat} (k1 : 1 ≤ k) {s : Int → Int} (hs : ∀ i, 0 ≤ s i ∧ s i < (k : Int)) (i : Int) : img k 0 (madeT k 1 idF) s i = s i := by
  have h := made_img (r := 0) (F := idF) k1 hs i
  rw [show 2 * 0 + 1 = 1 from rfl] at h
  rw [h]
  show (valsF s _ 1).getD 0 0 = _
  rw [valsF_getD (by omega)]
  congr 1
  omega
/-- t images -/
def imgN (k r : Nat) (tb : List Int) : Nat → (Int → Int) → Int → Int
  | 0, s => s
  | t + 1, s => img k r tb (imgN k r tb t s)
theorem imgN_range {k r : Nat} {tb : List Int} (h : IsRule k r tb) {s : Int → Int} (hs : ∀ i, 0 ≤ s i ∧ s i < (k : Int)) : ∀ t i, 0 ≤ imgN k r tb t s i ∧ imgN k r tb t s i < (k : Int)
  | 0, i => hs i
  | t + 1, i => img_range h.sym h.k1 i
theorem imgN_add (k r : Nat) (tb : List Int) (b : Nat) (s : Int → Int) : ∀ a, imgN k r tb (a + b) s = imgN k r tb a (imgN k r tb b s)
  | 0 => by rw [Nat.zero_add]; rfl
  | a + 1 => by
    rw [show a + 1 + b = (a + b) + 1 by omega]
    show img k r tb (imgN k r tb (a + b) s) = img k r tb (imgN k r tb a (imgN k r tb b s))
    rw [imgN_add k r tb b s a]
/-- the rule that does t times as much -/
structure PowR (k r : Nat) (tb : List Int) (t R : Nat) (tp : List Int) : Prop where
  rad : R = r * t
  is : IsRule k R tp
  eq : ∀ s : Int → Int, (∀ i, 0 ≤ s i ∧ s i < (k : Int)) → ∀ i, img k R tp s i = imgN k r tb t s i
theorem pow_zero' {k r : Nat} {tb : List Int} (h : IsRule k r tb) : PowR k r tb 0 0 (madeT k 1 idF) := ⟨by omega, id_rule h.k1 h.k4, fun s hs i => id_img h.k1 hs i⟩
theorem pow_one' {k r : Nat} {tb : List Int} (h : IsRule k r tb) : PowR k r tb 1 r tb := ⟨by omega, h, fun s hs i => rfl⟩
theorem pow_mul {k r a b Ra Rb : Nat} {tb ta tc : List Int} (h : IsRule k r tb) (ha : PowR k r tb a Ra ta) (hb : PowR k r tb b Rb tc) (h3 : Ra + Rb ≤ 3) :
    PowR k r tb (a + b) (Ra + Rb) (madeT k (2 * (Ra + Rb) + 1) (behF k Rb ta tc)) := by
  refine ⟨by rw [ha.rad, hb.rad, Nat.mul_add], beh_rule ha.is hb.is h3, fun s hs i => ?_⟩
  rw [beh_img ha.is hs, imgN_add]
  have e : img k Rb tc s = imgN k r tb b s := funext fun j => hb.eq s hs j
  rw [e]
  exact ha.eq _ (imgN_range h hs b) i
theorem ring_itR {k r : Nat} {tb wl : List Int} (hl : 0 < wl.length) : ∀ t i, ringF (itR k r tb t wl) i = imgN k r tb t (ringF wl) i
  | 0, i => rfl
  | t + 1, i => by
    show ringF (ringL k r tb (itR k r tb t wl)) i = img k r tb (imgN k r tb t (ringF wl)) i
    rw [ringF_image (by rw [itR_len]; exact hl)]
    exact img_congr fun j hj => ring_itR hl t _
theorem ringF_vals (wl : List Int) : valsF (ringF wl) 0 wl.length = wl := by
  apply List.ext_getElem (valsF_len _ _ _)
  intro j h1 h2
  have e := valsF_getD (s := ringF wl) (a := 0) (n := wl.length) h2
  rw [show (valsF (ringF wl) 0 wl.length).getD j 0 = (valsF (ringF wl) 0 wl.length)[j] by simp [h1]] at e
  rw [e]
  unfold ringF
  rw [Int.zero_add, Int.emod_eq_of_lt (by omega) (by omega), Int.toNat_natCast]
  simp [h2]
theorem ring_pow {k r t R : Nat} {tb tp wl : List Int} (hp : PowR k r tb t R tp) (hw : IsRing k wl) : ringL k R tp wl = itR k r tb t wl := by
  have hl := hw.l1
  have h1 := ringF_vals (ringL k R tp wl)
  have h2 := ringF_vals (itR k r tb t wl)
  rw [ringL_len] at h1
  rw [itR_len] at h2
  rw [← h1, ← h2]
  refine valsF_congr fun j hj => ?_
  rw [ringF_image hl, ring_itR hl]
  exact hp.eq _ (ringF_range (by have := hw; exact hp.is.k1) hw.sym) _
end Go.Proofs.YtnmegpplfbkpcaaDoor
