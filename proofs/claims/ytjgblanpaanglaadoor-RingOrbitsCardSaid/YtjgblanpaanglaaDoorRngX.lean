/- Plain: the way into a cycle, and two walkers, one twice as fast. ring.Orbit for all arguments. -/
import Derived.Test.YtjgblanpaanglaaDoorRngO
import Derived.Test.YtjgblanpaanglaaDoorRngD
import Derived.Deep.QuietTactic
import Derived.BigQuiet
namespace Go.Proofs.YtjgblanpaanglaaDoor
open Go.RowKit
set_option linter.unusedVariables false
set_option maxRecDepth 100000

section seq
variable {α : Type} {f : Nat → α}
/-- the first that comes again: f m at m + p -/
def FirstRep (f : Nat → α) (m p : Nat) : Prop := 1 ≤ p ∧ f (m + p) = f m ∧ ∀ i j, i < j → j < m + p → f i ≠ f j
def Steps (f : Nat → α) : Prop := ∀ s t u, f s = f t → f (s + u) = f (t + u)
theorem first_uniq {m p m' p' : Nat} (h : FirstRep f m p) (h' : FirstRep f m' p') : m = m' ∧ p = p' := by
  obtain ⟨h1, h2, h3⟩ := h
  obtain ⟨h1', h2', h3'⟩ := h'
  have e : m + p = m' + p' := by
    rcases Nat.lt_trichotomy (m + p) (m' + p') with a | a | a
    · exact absurd h2.symm (h3' m (m + p) (by omega) a)
    · exact a
    · exact absurd h2'.symm (h3 m' (m' + p') (by omega) a)
  rcases Nat.lt_trichotomy m m' with a | a | a
  · exact absurd (by rw [← h2, e, h2'] : f m = f m') (h3 m m' a (by omega))
  · exact ⟨a, by omega⟩
  · exact absurd (by rw [← h2', ← e, h2] : f m' = f m) (h3 m' m a (by omega))
theorem steps_mul (hs : Steps f) {x d : Nat} (h : f (x + d) = f x) : ∀ k y, x ≤ y → f (y + k * d) = f y
  | 0, y, _ => by simp
  | k + 1, y, hy => by
    have h1 := steps_mul hs h k y hy
    have h2 := hs (x + d) x (y + k * d - x) h
    rw [show x + d + (y + k * d - x) = y + (k + 1) * d by rw [Nat.add_mul]; omega, show x + (y + k * d - x) = y + k * d by omega] at h2
    rw [h2, h1]
/-- the two walkers have met behind n steps; then the first place, then the first way round -/
theorem walkers_end (hs : Steps f) {n m q : Nat} (hn : f n = f (2 * n)) (hn1 : 1 ≤ n) (hm : f m = f (2 * n + m)) (hml : ∀ i, i < m → f i ≠ f (2 * n + i)) (hq1 : 1 ≤ q) (hq : f m = f (m + q)) (hql : ∀ j, 1 ≤ j → j < q → f m ≠ f (m + j)) : FirstRep f m q := by
  have hn2 : f (n + n) = f n := by rw [show n + n = 2 * n by omega]; exact hn.symm
  refine ⟨hq1, hq.symm, fun i j hij hj e => ?_⟩
  obtain ⟨d, rfl⟩ : ∃ d, j = i + d := ⟨j - i, by omega⟩
  have hd : f (i + d) = f i := e.symm
  rcases Nat.lt_or_ge i m with him | him
  · refine hml i him ?_
    have h1 := steps_mul hs hd n (i + 2 * n) (by omega)
    have h2 := steps_mul hs hd n i (Nat.le_refl _)
    have h3 := steps_mul hs hn2 2 (i + n * d) (by
      have : n * 1 ≤ n * d := Nat.mul_le_mul_left n (by omega)
      omega)
    rw [show 2 * n + i = i + 2 * n by omega, ← h1, show i + 2 * n + n * d = i + n * d + 2 * n by omega, h3, h2]
  · refine hql d (by omega) (by omega) ?_
    have hq' : f (m + q) = f m := hq.symm
    have h1 := steps_mul hs hq' i m (Nat.le_refl _)
    have h2 := steps_mul hs hq' i (m + d) (by omega)
    have hge : i ≤ m + i * q := by
      have : i * 1 ≤ i * q := Nat.mul_le_mul_left i hq1
      omega
    have h3 := steps_mul hs hd 1 (m + i * q) hge
    rw [Nat.one_mul] at h3
    rw [← h2, show m + d + i * q = m + i * q + d by omega, h3, h1]
/-- the walkers have not met in so many steps: nothing came again -/
theorem walkers_no (hs : Steps f) {N : Nat} (h : ∀ i, 1 ≤ i → i ≤ N → f i ≠ f (2 * i)) : ∀ i j, i < j → j < N + 1 → f i ≠ f j := by
  intro i j hij hj e
  obtain ⟨d, rfl⟩ : ∃ d, j = i + d := ⟨j - i, by omega⟩
  have hd : f (i + d) = f i := e.symm
  have hd0 : 0 < d := by omega
  -- the multiple of d that is not below i
  have key : ∀ u, 1 ≤ u * d → u * d ≤ N → i ≤ u * d → False := fun u h1 h2 h3 => by
    refine h (u * d) h1 h2 ?_
    have := steps_mul hs hd u (u * d) h3
    rw [show 2 * (u * d) = u * d + u * d by omega, this]
  by_cases h0 : i = 0
  · subst h0
    exact key 1 (by omega) (by omega) (by omega)
  · have h1 := Nat.div_add_mod (i + d - 1) d
    have h2 := Nat.mod_lt (i + d - 1) hd0
    have h3 : d * ((i + d - 1) / d) = (i + d - 1) / d * d := Nat.mul_comm _ _
    exact key ((i + d - 1) / d) (by omega) (by omega) (by omega)
/-- the first place is not behind n, the first way round not longer than n -/
theorem walkers_at (hs : Steps f) {n : Nat} (hn : f n = f (2 * n)) : f n = f (2 * n + n) := by
  have h2 := hs n (2 * n) n hn
  rw [show n + n = 2 * n by omega] at h2
  rw [hn, h2]
theorem walkers_round (hs : Steps f) {n m : Nat} (hn : f n = f (2 * n)) (hm : f m = f (2 * n + m)) : f m = f (m + n) := by
  have hn2 : f (n + n) = f n := by rw [show n + n = 2 * n by omega]; exact hn.symm
  have h1 := steps_mul hs hn2 1 (2 * n + m) (by omega)
  have h2 := hs m (2 * n + m) n hm
  rw [Nat.one_mul] at h1
  rw [h2, h1, hm]
end seq

theorem itR_steps (k r : Nat) (tb wl : List Int) : Steps (fun i => itR k r tb i wl) := fun s t u h => by
  show itR k r tb (s + u) wl = itR k r tb (t + u) wl
  rw [itR_add, itR_add]
  rw [show itR k r tb s wl = itR k r tb t wl from h]
/-- the way and the cycle, if they are short enough -/
def Orb (k r : Int) (tb wl : List Int) (m p : Nat) : Prop := m + p ≤ 4096 ∧ FirstRep (fun i => itR k.toNat r.toNat tb i wl) m p
open Classical in
noncomputable def orbD (k r : Int) (tb wl : List Int) : ErrD := match ringD k r tb wl with
  | some x => some x
  | none => if 64 < wl.length then some ([(opRing, 0)], 4) else if ∃ m p, Orb k r tb wl m p then none else some ([(opRing, 1)], 4)
open Classical in
noncomputable def orbV (k r : Int) (tb wl : List Int) : Nat × Nat := if h : orbD k r tb wl = none ∧ ∃ x : Nat × Nat, Orb k r tb wl x.1 x.2 then h.2.choose else (0, 0)
theorem orbV_err {k r : Int} {tb wl : List Int} {x} (h : orbD k r tb wl = some x) : orbV k r tb wl = (0, 0) := by
  unfold orbV
  rw [dif_neg]
  rintro ⟨h1, _⟩
  rw [h1] at h
  cases h
theorem orbD_ring {k r : Int} {tb wl : List Int} {x} (h : ringD k r tb wl = some x) : orbD k r tb wl = some x := by unfold orbD; rw [h]
theorem orbD_big {k r : Int} {tb wl : List Int} (h : ringD k r tb wl = none) (h64 : 64 < wl.length) : orbD k r tb wl = some ([(opRing, 0)], 4) := by unfold orbD; rw [h]; exact if_pos h64
theorem orbD_is {k r : Int} {tb wl : List Int} {m p : Nat} (h : ringD k r tb wl = none) (h64 : ¬ 64 < wl.length) (ho : Orb k r tb wl m p) : orbD k r tb wl = none ∧ orbV k r tb wl = (m, p) := by
  have h1 : orbD k r tb wl = none := by
    unfold orbD
    rw [h]
    show (if 64 < wl.length then _ else _) = _
    rw [if_neg h64, if_pos ⟨m, p, ho⟩]
  refine ⟨h1, ?_⟩
  unfold orbV
  have hx : orbD k r tb wl = none ∧ ∃ x : Nat × Nat, Orb k r tb wl x.1 x.2 := ⟨h1, (m, p), ho⟩
  rw [dif_pos hx]
  have := first_uniq hx.2.choose_spec.2 ho.2
  exact Prod.ext this.1 this.2
theorem orbD_no {k r : Int} {tb wl : List Int} (h : ringD k r tb wl = none) (h64 : ¬ 64 < wl.length) (ho : ¬ ∃ m p, Orb k r tb wl m p) : orbD k r tb wl = some ([(opRing, 1)], 4) := by
  unfold orbD
  rw [h]
  show (if 64 < wl.length then _ else _) = _
  rw [if_neg h64, if_neg ho]
theorem orb_of {k r : Int} {tb wl : List Int} (h : orbD k r tb wl = none) : Orb k r tb wl (orbV k r tb wl).1 (orbV k r tb wl).2 ∧ ringD k r tb wl = none ∧ wl.length ≤ 64 := by
  have h0 := h
  unfold orbD at h
  split at h
  · cases h
  rename_i hr
  split at h
  · cases h
  rename_i h64
  split at h
  · rename_i hx
    obtain ⟨m, p, ho⟩ := hx
    have := orbD_is hr h64 ho
    rw [this.2]
    exact ⟨ho, hr, by omega⟩
  · cases h
/-- two numbers, and an error's chain -/
def OrbEC (R : Nat → Addr) (W : World) (v : Nat × Nat) (x : ErrD) (e : Ending) (w' : World) : Prop := ∃ ev, e = .returned (.tuple #[.int .i64 (v.1 : Nat), .int .i64 (v.2 : Nat), ev]) ∧ EC R w' ev x ∧ Below W.heap.size W w'
set_option maxHeartbeats 4000000 in
theorem orbit_anyE (k r : Int) (a : Option Addr) (n c : Nat) (l : List Int) (aw : Option Addr) (nw cw : Nat) (wl : List Int) (W : World) (R : Nat → Addr) (hS : Sent W R) (hR : RK .i64 W a n l) (hm : n ≤ maxLen) (hW : SlI W aw nw cw wl) :
    Calls Tryd.prog 22 #[ruleV k r a n c, .slice aw nw cw] W (OrbEC R W (orbV k r l wl) (orbD k r l wl)) := by
  have hmw := hW.nm
  cases hd : ringD k r l wl with
  | some x =>
    rw [orbD_ring hd, orbV_err (orbD_ring hd)]
    have hne : ringD k r l wl ≠ none := by rw [hd]; nofun
    have HNE := Lib.hid hne
    have HD := Lib.hid hd
    have HS := Lib.hid hS; have HR := Lib.hid hR; have HW := Lib.hid hW
    clear hne hd hS hR hW
    obtain ⟨Wb, hWb⟩ : ∃ Wb, W.alloc (.cells #[.int .i64 k, .int .i64 r, .slice a n c] 24) = Wb := ⟨_, rfl⟩
    have HBX : Hid (Below W.heap.size W Wb) := by rw [← hWb]; exact balloc (bnil W) _
    have HWB := Lib.hid hWb; clear hWb
    go_enter Tryd.func22, Tryd.ntmps22
    go_wp2_with fail
    rw [HWB.out]
    refine (ringcheck_errE k r a n c l aw nw cw wl _ R (HS.out.up HBX.out) (HR.out.up HBX.out) hm (HW.out.rk.up HBX.out) hmw HNE.out).mono ?_; rintro e w1 ⟨g1, rfl, hec, hb1⟩
    rw [HD.out] at hec
    have HEC := Lib.hid hec
    clear hec
    go_wp2
    go_ret3
    exact ⟨_, rfl, HEC.out, bstep HBX.out hb1⟩
  | none =>
    obtain ⟨kn, rn, rfl, rfl, hI, hG⟩ := ringD_none hd
    have hnl := hW.rk.len
    by_cases h64 : 64 < nw
    · have ho := orbD_big hd (by omega)
      rw [ho, orbV_err ho]
      have h64i : (64 : Int) < (nw : Int) := by omega
      have HS := Lib.hid hS; have HR := Lib.hid hR; have HW := Lib.hid hW; have HI := Lib.hid hI; have HG := Lib.hid hG
      clear ho hd hI hG hS hR hW hnl h64
      obtain ⟨Wb, hWb⟩ : ∃ Wb, W.alloc (.cells #[.int .i64 kn, .int .i64 rn, .slice a n c] 24) = Wb := ⟨_, rfl⟩
      have HBX : Hid (Below W.heap.size W Wb) := by rw [← hWb]; exact balloc (bnil W) _
      have HWB := Lib.hid hWb; clear hWb
      go_enter Tryd.func22, Tryd.ntmps22
      go_wp2_with fail
      rw [HWB.out]
      refine (ringcheck_ok kn rn a n c l aw nw cw wl Wb (HR.out.up HBX.out) (HW.out.rk.up HBX.out) HI.out HG.out).mono ?_; rintro e w1 ⟨rfl, hb1⟩
      have HB1 := Lib.hid (bstep HBX.out hb1)
      clear hb1
      go_wp2_with fail
      refine (ring_wrong _ _ _ R (HS.out.up HB1.out).glob (by rfl)).mono ?_; rintro e w' ⟨rfl, rfl⟩
      go_wp2
      go_ret3
      exact ⟨_, rfl, ec_err (HS.out.up (balloc HB1.out _)) (isErr_new (Nat.le_refl _)), balloc HB1.out _⟩
    · refine (orbit_anyI kn rn a n c l aw nw cw wl W R hS.glob hR hW.rk hI hG (by omega)).mono ?_
      rintro e w' ⟨hb, ⟨m, p, h1, h2, h3, h4, rfl⟩ | ⟨h1, g, rfl, he⟩⟩
      · obtain ⟨e1, e2⟩ := orbD_is hd (by omega) (m := m) (p := p) ⟨h2, h1, h3, h4⟩
        rw [e1, e2]
        exact ⟨_, rfl, rfl, hb⟩
      · have ho := orbD_no hd (by omega) (by
          rintro ⟨m, p, ho1, ho2, ho3, _⟩
          exact h1 m (m + p) (by omega) (by omega) ho3.symm)
        rw [ho, orbV_err ho]
        exact ⟨_, rfl, ec_err (hS.up hb) he, hb⟩
end Go.Proofs.YtjgblanpaanglaaDoor
