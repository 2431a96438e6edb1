/- overlap.small, nodes, Nodes, check. Plain: the words by their numbers, and the word behind each. Fair shares: plain; count.Fair for all arguments. count.Fair and edenref17.Fair for all arguments. edenlaw17.CountFairs returns true. -/
import Derived.Test.YteneiianpghalaaDoorCntX
import Derived.Test.YteneiianpghalaaDoorMatF
import Derived.Deep.QuietTactic
import Derived.BigQuiet
import Derived.Test.YteneiianpghalaaDoorWordH
import Derived.Test.YteneiianpghalaaDoorR17X
import Derived.Test.YteneiianpghalaaDoorWordE
import Derived.Test.YteneiianpghalaaDoorTrk
import Derived.Test.YteneiianpghalaaDoorSl
import Derived.Deep.Cut
namespace Go.Proofs.YteneiianpghalaaDoor
open Go.RowKit
set_option linter.unusedVariables false
set_option maxRecDepth 100000

theorem osmall_ok (k r : Nat) (a : Option Addr) (n c : Nat) (l : List Int) (W : World) (hR : RK .i64 W a n l) (h : IsRule k r l) (hn : n ≤ 256) :
    Calls Tryd.prog 88 #[ruleV k r a n c] W fun e w' => e = .returned .nilIface ∧ Below W.heap.size W w' := by
  have H := Lib.hid h; clear h
  have HR := Lib.hid hR; clear hR
  have hbx := balloc (bnil W) (.cells #[.int .i64 k, .int .i64 r, .slice a n c] 24)
  go_enter Tryd.func88, Tryd.ntmps88
  go_wp2_with fail
  refine (rsmall_ok k r a n c l _ (HR.out.up hbx) H.out hn).mono ?_; rintro e w2 ⟨rfl, hb2⟩
  go_wp2_with fail
  refine (under_nil _ _ _).mono ?_; rintro e w3 ⟨rfl, rfl⟩
  go_wp2
  go_ret
  exact ⟨rfl, hbx.trans (hb2.mono hbx.size)⟩
theorem osmall_err (k r : Int) (a : Option Addr) (n c : Nat) (l : List Int) (W : World) (R : Nat → Addr) (hG : Glob W R) (hR : RK .i64 W a n l) (hm : n ≤ maxLen) (h : ∀ kn rn : Nat, k = kn → r = rn → IsRule kn rn l → 256 < n) :
    Calls Tryd.prog 88 #[ruleV k r a n c] W (ErrOne W) := by
  have HH := Lib.hid h; clear h
  have HG := Lib.hid hG; clear hG
  have HR := Lib.hid hR; clear hR
  have hbx := balloc (bnil W) (.cells #[.int .i64 k, .int .i64 r, .slice a n c] 24)
  go_enter Tryd.func88, Tryd.ntmps88
  go_wp2_with fail
  refine (rsmall_err k r a n c l _ R (HG.out.up hbx) (HR.out.up hbx) hm HH.out).mono ?_; rintro e w2 ⟨g, rfl, hb2⟩
  have hb2W := hbx.trans (hb2.mono hbx.size)
  go_wp2_with fail
  refine (under_some _ _ _ _ _).mono ?_; rintro e w3 ⟨g3, rfl, hb3⟩
  go_wp2
  go_ret
  exact ⟨_, rfl, bstep hb2W hb3⟩
theorem nodes_any (k r N : Nat) (a : Option Addr) (n c : Nat) (W : World) (hk : 1 ≤ k) (hN : n = N * k) (hn : n ≤ 16384) :
    Calls Tryd.prog 61 #[ruleV k r a n c] W fun e w' => e = .returned (.int .i64 (N : Int)) ∧ Below W.heap.size W w' := by
  have hdiv : (n : Int) / (k : Int) = (N : Int) := by rw [hN, Int.natCast_mul]; exact Int.mul_ediv_cancel _ (by omega)
  have HB := Lib.hid (balloc (bnil W) (.cells #[.int .i64 k, .int .i64 r, .slice a n c] 24))
  have kp : (0 : Int) < (k : Int) := by omega
  have n0 : (0 : Int) ≤ (n : Int) := by omega
  have hNle : N ≤ 16384 := by
    have : N * 1 ≤ N * k := Nat.mul_le_mul_left _ hk
    omega
  clear hN
  go_enter Tryd.func61, Tryd.ntmps61
  go_wp2
  go_ret
  exact ⟨rfl, HB.out⟩
theorem Nodes_ok (k r N : Nat) (a : Option Addr) (n c : Nat) (l : List Int) (W : World) (hR : RK .i64 W a n l) (h : IsRule k r l) (hn : n ≤ 256) (hN : n = N * k) :
    Calls Tryd.prog 34 #[ruleV k r a n c] W fun e w' => e = .returned (.tuple #[.int .i64 (N : Int), .nilIface]) ∧ Below W.heap.size W w' := by
  have hk := h.k1
  have H := Lib.hid h; clear h
  have HN := Lib.hid hN; clear hN
  have HR := Lib.hid hR; clear hR
  obtain ⟨Wb, hWb⟩ : ∃ Wb, W.alloc (.cells #[.int .i64 k, .int .i64 r, .slice a n c] 24) = Wb := ⟨_, rfl⟩
  have HX : Hid (Wb.cell? ⟨W.heap.size, 0, none⟩ = some (.int .i64 k) ∧ Wb.cell? ⟨W.heap.size, 1, none⟩ = some (.int .i64 r) ∧ Wb.cell? ⟨W.heap.size, 2, none⟩ = some (.slice a n c)) := by rw [← hWb]; exact ⟨by simp, by simp, by simp⟩
  have HSZ : Hid (W.heap.size < Wb.heap.size) := by show _ < _; rw [← hWb]; simp
  have HBX : Hid (Below W.heap.size W Wb) := by rw [← hWb]; exact balloc (bnil W) _
  have HWB := Lib.hid hWb; clear hWb
  go_enter Tryd.func34, Tryd.ntmps34
  go_wp2_with fail
  rw [HWB.out]
  refine (osmall_ok k r a n c l _ (HR.out.up HBX.out) H.out hn).mono ?_; rintro e w2 ⟨rfl, hb2⟩
  have x0 := (hb2.cell (p := ⟨W.heap.size, 0, none⟩) HSZ.out).trans HX.out.1
  have x1 := (hb2.cell (p := ⟨W.heap.size, 1, none⟩) HSZ.out).trans HX.out.2.1
  have x2 := (hb2.cell (p := ⟨W.heap.size, 2, none⟩) HSZ.out).trans HX.out.2.2
  have hb2W := HBX.out.trans (hb2.mono HBX.out.size)
  go_wp2_with fail
  refine (nodes_any k r N a n c _ hk HN.out (by omega)).mono ?_; rintro e w3 ⟨rfl, hb3⟩
  go_wp2
  go_ret2
  exact ⟨rfl, bstep hb2W hb3⟩

theorem ochk_pred (k : Int) (B : Nat) (w : World) (hB : B < w.heap.size) (hcell : w.cell? ⟨B, 0, none⟩ = some (.int .i64 k)) : PredOf 123 #[.pointer (some ⟨B, 0, none⟩)] (badB k) w := by
  intro W x hb
  have hc : W.cell? ⟨B, 0, none⟩ = some (.int .i64 k) := (hb.cell (p := ⟨B, 0, none⟩) hB).trans hcell
  clear hcell
  show Calls Tryd.prog 123 #[.int .i64 x, .pointer (some ⟨B, 0, none⟩)] W _
  by_cases h0 : x < 0
  · have e : badB k x = true := badB_true.2 (.inl h0)
    rw [e]; clear e
    go_enter Tryd.func123, Tryd.ntmps123
    go_wp2
    go_ret
    exact ⟨rfl, 0, rfl⟩
  · by_cases h1 : k ≤ x
    · have e : badB k x = true := badB_true.2 (.inr h1)
      rw [e]; clear e
      go_enter Tryd.func123, Tryd.ntmps123
      go_wp2
      go_ret
      exact ⟨rfl, 0, rfl⟩
    · have e : badB k x = false := badB_false.2 ⟨by omega, by omega⟩
      rw [e]; clear e
      go_enter Tryd.func123, Tryd.ntmps123
      go_wp2
      go_ret
      exact ⟨rfl, 0, rfl⟩
set_option maxHeartbeats 2000000 in
/-- overlap.check: no fault just where rule and word are right -/
theorem ocheck_any (k r : Int) (a aw : Option Addr) (n c nw cw most : Nat) (l wl : List Int) (W : World) (R : Nat → Addr) (hG : Glob W R) (hR : RK .i64 W a n l) (hW : RK .i64 W aw nw wl) (hm : n ≤ maxLen) (hmw : nw ≤ maxLen) (hmo : most ≤ 4096) :
    Calls Tryd.prog 59 #[ruleV k r a n c, .slice aw nw cw, .int .i64 most] W (SymPost W ((∃ kn rn : Nat, k = kn ∧ r = rn ∧ IsRule kn rn l ∧ n ≤ 256) ∧ nw ≤ most ∧ ∀ x ∈ wl, 0 ≤ x ∧ x < k)) := by
  have hm' : nw ≤ 9223372036854775807 := hmw
  have HG := Lib.hid hG; clear hG
  have HR := Lib.hid hR; clear hR
  have HW := Lib.hid hW; clear hW
  have hmf : ∀ (fn : Fn) (first cap : Array Value) (w : World), (Instr.makeFunc fn first cap).run Tryd.prog w = .ok (.func fn first cap) w := fun _ _ _ _ => rfl
  obtain ⟨Wb, hWb⟩ : ∃ Wb, W.alloc (.cells #[.int .i64 k, .int .i64 r, .slice a n c] 24) = Wb := ⟨_, rfl⟩
  have HX : Hid (Wb.cell? ⟨W.heap.size, 0, none⟩ = some (.int .i64 k)) := by rw [← hWb]; show World.cell? _ _ = _; simp
  have HSZ : Hid (W.heap.size < Wb.heap.size) := by show _ < _; rw [← hWb]; simp
  have HBX : Hid (Below W.heap.size W Wb) := by rw [← hWb]; exact balloc (bnil W) _
  have HWB := Lib.hid hWb; clear hWb
  by_cases hok : ∃ kn rn : Nat, k = kn ∧ r = rn ∧ IsRule kn rn l ∧ n ≤ 256
  · obtain ⟨kn, rn, rfl, rfl, hI, h256⟩ := hok
    have HI := Lib.hid hI
    clear hI
    by_cases hbig : most < nw
    · go_enter Tryd.func59, Tryd.ntmps59
      go_wp2_with fail
      rw [HWB.out]
      refine (osmall_ok kn rn a n c l _ (HR.out.up HBX.out) HI.out h256).mono ?_; rintro e w2 ⟨rfl, hb2⟩
      have hb2W := HBX.out.trans (hb2.mono HBX.out.size)
      go_wp2_with fail
      refine (overlap_wrong _ _ _ R (HG.out.up hb2W) (by rfl)).mono ?_; rintro e w' ⟨rfl, rfl⟩
      go_wp2
      go_ret
      exact .inr ⟨fun h => by omega, _, rfl, balloc hb2W _⟩
    · have eg : ∀ args w, (callFunc 123 args).run Tryd.prog w = .ok (.enter 123 args) w := enters_of Tryd.func123 (by kernel_rfl) rfl
      have EG := Lib.hid eg; clear eg
      obtain ⟨i, hi⟩ : ∃ i, idxI (badB (kn : Int)) wl = i := ⟨_, rfl⟩
      have HI2 := Lib.hid hi; clear hi
      go_enter Tryd.func59, Tryd.ntmps59
      go_wp2_with fail
      rw [HWB.out]
      refine (osmall_ok kn rn a n c l _ (HR.out.up HBX.out) HI.out h256).mono ?_; rintro e w2 ⟨rfl, hb2⟩
      have hb2W := HBX.out.trans (hb2.mono HBX.out.size)
      have hPr := ochk_pred (kn : Int) W.heap.size w2 (Nat.lt_of_lt_of_le HSZ.out hb2.size) ((hb2.cell (p := ⟨W.heap.size, 0, none⟩) HSZ.out).trans HX.out)
      have HP := Lib.hid hPr; clear hPr
      go_wp2_with fail
      refine (indexFunc_any aw nw cw wl 123 _ (badB (kn : Int)) _ (HW.out.up hb2W) hmw EG.out HP.out).mono ?_; rintro e w' ⟨rfl, m, rfl⟩
      rw [HI2.out]
      have hb3W := bdrewN hb2W m
      by_cases h0 : 0 ≤ i
      · have hno : Hid (¬ ((∃ kn' rn' : Nat, (kn : Int) = kn' ∧ (rn : Int) = rn' ∧ IsRule kn' rn' l ∧ n ≤ 256) ∧ nw ≤ most ∧ ∀ x ∈ wl, 0 ≤ x ∧ x < (kn : Int))) := fun h => by
          have := findIdx_none (p := badB (kn : Int)) (l := wl) fun x hx => badB_false.2 (h.2.2 x hx)
          rw [HI2.out] at this
          omega
        go_wp2_with fail
        refine (overlap_wrong _ _ _ R (HG.out.up hb3W) (by rfl)).mono ?_; rintro e w' ⟨rfl, rfl⟩
        go_wp2
        go_ret
        exact .inr ⟨hno.out, _, rfl, balloc hb3W _⟩
      · have hyes : Hid ((∃ kn' rn' : Nat, (kn : Int) = kn' ∧ (rn : Int) = rn' ∧ IsRule kn' rn' l ∧ n ≤ 256) ∧ nw ≤ most ∧ ∀ x ∈ wl, 0 ≤ x ∧ x < (kn : Int)) := ⟨⟨kn, rn, rfl, rfl, HI.out, h256⟩, by omega, fun x hx => badB_false.1 (idxI_neg (by rw [HI2.out]; exact h0) x hx)⟩
        go_wp2
        go_ret
        exact .inl ⟨hyes.out, rfl, hb3W⟩
  · have hbad : ∀ kn rn : Nat, k = kn → r = rn → IsRule kn rn l → 256 < n := fun kn rn h1 h2 h3 => by
      by_cases h4 : n ≤ 256
      · exact absurd ⟨kn, rn, h1, h2, h3, h4⟩ hok
      · omega
    have HBAD := Lib.hid hbad
    have HNO : Hid (¬ ((∃ kn rn : Nat, k = kn ∧ r = rn ∧ IsRule kn rn l ∧ n ≤ 256) ∧ nw ≤ most ∧ ∀ x ∈ wl, 0 ≤ x ∧ x < k)) := fun h => hok h.1
    clear hbad hok
    go_enter Tryd.func59, Tryd.ntmps59
    go_wp2_with fail
    rw [HWB.out]
    refine (osmall_err k r a n c l _ R (HG.out.up HBX.out) (HR.out.up HBX.out) hm HBAD.out).mono ?_; rintro e w2 ⟨g2, rfl, hb2⟩
    go_wp2
    go_ret
    exact .inr ⟨HNO.out, _, rfl, HBX.out.trans (hb2.mono HBX.out.size)⟩
end Go.Proofs.YteneiianpghalaaDoor
namespace Go.Proofs.YteneiianpghalaaDoor
set_option linter.unusedVariables false

theorem horn_digsF {k : Nat} (hk : 0 < k) : ∀ n i, i < k ^ n → horn k (digsF k n i) = i
  | 0, i, hi => by
    have : i = 0 := by rw [Nat.pow_zero] at hi; omega
    subst this; rfl
  | n + 1, i, hi => by
    have hN : 0 < k ^ n := Nat.pow_pos hk
    rw [digsF, horn_cons, digsF_len, horn_digsF hk n _ (Nat.mod_lt _ hN), Int.toNat_natCast, Nat.mul_comm]
    exact Nat.div_add_mod i (k ^ n)
theorem digsF_zero {k : Nat} (hk : 0 < k) : ∀ n, digsF k n 0 = List.replicate n 0
  | 0 => rfl
  | n + 1 => by rw [digsF, Nat.zero_div, Nat.zero_mod, digsF_zero hk n, List.replicate_succ]; rfl
/-- the word behind the word number i is the word number i + 1 -/
theorem next_digsF {k n i j : Nat} (hk : 1 ≤ k) (hi : i + 1 < k ^ n) (h : LastUp (k : Int) (digsF k n i) j) : bump (digsF k n i) j = digsF k n (i + 1) := by
  have hm := digsF_mem (k := k) hk n i (by omega)
  refine horn_inj (k := k) (by rw [bump_len h.1, digsF_len, digsF_len]) (bump_mem hm h) (digsF_mem hk n (i + 1) hi) ?_
  rw [horn_bump hk hm h, horn_digsF hk n i (by omega), horn_digsF hk n (i + 1) hi]
theorem noUp_digsF {k n i : Nat} (hk : 1 ≤ k) (hi : i + 1 < k ^ n) : ¬ NoUp (k : Int) (digsF k n i) := fun h => by
  have := horn_noUp hk (digsF_mem (k := k) hk n i (by omega)) h
  rw [horn_digsF hk n i (by omega), digsF_len] at this
  omega
end Go.Proofs.YteneiianpghalaaDoor
namespace Go.Proofs.YteneiianpghalaaDoor
open Go.RowKit
set_option linter.unusedVariables false
set_option maxRecDepth 100000

/-- has every word ahead of i its fair share? -/
def FairTo (k N : Nat) (tb : List Int) (n i : Nat) : Prop := ∀ j, j < i → wordsC k N tb (digsF k n j) = N
theorem first_or (p : Nat → Prop) : ∀ m, (∀ j, j < m → p j) ∨ ∃ i, i < m ∧ (∀ j, j < i → p j) ∧ ¬ p i
  | 0 => .inl fun j h => by omega
  | m + 1 => by
    rcases first_or p m with h | ⟨i, h1, h2, h3⟩
    · by_cases hp : p m
      · exact .inl fun j hj => by
          by_cases e : j = m
          · rw [e]; exact hp
          · exact h j (by omega)
      · exact .inr ⟨m, by omega, h, hp⟩
    · exact .inr ⟨i, by omega, h2, h3⟩
/-- what Fair answers: yes, the word, the fault -/
def FairE (k r : Int) (tb : List Int) (n : Int) (yes : Bool) (l : List Int) (f : ErrD) : Prop :=
  (∃ y, faultD opCount k r tb = some y ∧ f = some y ∧ yes = false ∧ l = []) ∨
  (faultD opCount k r tb = none ∧ n < 0 ∧ f = some ([(opCount, 1)], 3) ∧ yes = false ∧ l = []) ∨
  (faultD opCount k r tb = none ∧ 0 ≤ n ∧ k ≠ 1 ∧ 4096 < k.toNat ^ n.toNat ∧ f = some ([(opCount, 1)], 4) ∧ yes = false ∧ l = []) ∨
  (faultD opCount k r tb = none ∧ 0 ≤ n ∧ k = 1 ∧ f = none ∧ yes = true ∧ l = []) ∨
  (faultD opCount k r tb = none ∧ 0 ≤ n ∧ k ≠ 1 ∧ k.toNat ^ n.toNat ≤ 4096 ∧ f = none ∧ yes = true ∧ l = [] ∧ FairTo k.toNat (k.toNat ^ (2 * r.toNat)) tb n.toNat (k.toNat ^ n.toNat)) ∨
  (faultD opCount k r tb = none ∧ 0 ≤ n ∧ k ≠ 1 ∧ k.toNat ^ n.toNat ≤ 4096 ∧ f = none ∧ yes = false ∧ ∃ i, i < k.toNat ^ n.toNat ∧ l = digsF k.toNat n.toNat i ∧ FairTo k.toNat (k.toNat ^ (2 * r.toNat)) tb n.toNat i ∧ wordsC k.toNat (k.toNat ^ (2 * r.toNat)) tb (digsF k.toNat n.toNat i) ≠ k.toNat ^ (2 * r.toNat))
theorem fairE_or (k r : Int) (tb : List Int) (n : Int) : ∃ yes l f, FairE k r tb n yes l f := by
  cases h : faultD opCount k r tb with
  | some y => exact ⟨false, [], some y, .inl ⟨y, h, rfl, rfl, rfl⟩⟩
  | none =>
    by_cases h1 : n < 0
    · exact ⟨_, _, _, .inr (.inl ⟨h, h1, rfl, rfl, rfl⟩)⟩
    · by_cases h2 : k = 1
      · exact ⟨_, _, _, .inr (.inr (.inr (.inl ⟨h, by omega, h2, rfl, rfl, rfl⟩)))⟩
      · by_cases h3 : 4096 < k.toNat ^ n.toNat
        · exact ⟨_, _, _, .inr (.inr (.inl ⟨h, by omega, h2, h3, rfl, rfl, rfl⟩))⟩
        · rcases first_or (fun j => wordsC k.toNat (k.toNat ^ (2 * r.toNat)) tb (digsF k.toNat n.toNat j) = k.toNat ^ (2 * r.toNat)) (k.toNat ^ n.toNat) with h4 | ⟨i, h4, h5, h6⟩
          · exact ⟨_, _, _, .inr (.inr (.inr (.inr (.inl ⟨h, by omega, h2, by omega, rfl, rfl, rfl, h4⟩))))⟩
          · exact ⟨_, _, _, .inr (.inr (.inr (.inr (.inr ⟨h, by omega, h2, by omega, rfl, rfl, i, h4, rfl, h5, h6⟩))))⟩
theorem pow12 {k n : Nat} (hk : 2 ≤ k) (h : k ^ n ≤ 4096) : n ≤ 12 := by
  by_cases h2 : n ≤ 12
  · exact h2
  · have h3 : 2 ^ 13 ≤ k ^ n := Nat.le_trans (Nat.pow_le_pow_left hk 13) (Nat.pow_le_pow_right (by omega) (by omega))
    have h4 : (2 : Nat) ^ 13 = 8192 := by decide
    omega
theorem count_last {k N v : Nat} (hk : 0 < k) (hN : 0 < N) (hv : v < N) (c : Nat) : sumTo (N * k) (fun w => if w % N = v then c else 0) = k * c := by
  rw [Nat.mul_comm, sumTo_mul]
  rw [sumTo_congr (g := fun _ => c) fun j hj => by
    rw [sumTo_congr (g := fun i => if i = v then c else 0) fun i hi => by
      rw [Nat.mul_comm, Nat.mul_add_mod, Nat.mod_eq_of_lt hi]]
    exact sumTo_one (fun _ => c) hv]
  exact sumTo_const _ _
/-- the words with one symbol more in front have k times as many -/
theorem wordsC_front {k N : Nat} {tb : List Int} (hk : 0 < k) (hN : 0 < N) (ht : ∀ w, w < N * k → 0 ≤ tb.getD w 0 ∧ tb.getD w 0 < (k : Int)) (s : List Int) : sumTo k (fun x => wordsC k N tb ((x : Int) :: s)) = k * wordsC k N tb s := by
  have e1 : ∀ x : Nat, wordsC k N tb ((x : Int) :: s) = sumTo (N * k) fun w => if tb.getD w 0 = (x : Int) then wayL k N tb s (w % N) else 0 := fun x => by
    rw [wordsC_wayL]
    show sumTo N (fun u => sumTo (N * k) fun w => if w / k = u ∧ decide (tb.getD w 0 = (x : Int)) = true then wayL k N tb s (w % N) else 0) = _
    rw [sumTo_comm]
    refine sumTo_congr fun w hw => ?_
    have hlt : w / k < N := Nat.div_lt_of_lt_mul (by rw [Nat.mul_comm]; exact hw)
    by_cases h : tb.getD w 0 = (x : Int)
    · rw [if_pos h]
      refine (sumTo_congr fun u _ => ?_).trans (sumTo_one (fun _ => wayL k N tb s (w % N)) hlt)
      by_cases e : w / k = u
      · rw [if_pos ⟨e, decide_eq_true h⟩, if_pos e.symm]
      · rw [if_neg (fun q => e q.1), if_neg (fun q => e q.symm)]
    · rw [if_neg h]
      exact sumTo_zero fun u _ => if_neg fun q => h (of_decide_eq_true q.2)
  rw [sumTo_congr fun x _ => e1 x, sumTo_comm]
  rw [sumTo_congr (g := fun w => wayL k N tb s (w % N)) fun w hw => by
    obtain ⟨h0, h1⟩ := ht w hw
    obtain ⟨y, hy⟩ : ∃ y : Nat, tb.getD w 0 = (y : Int) := ⟨(tb.getD w 0).toNat, by omega⟩
    rw [hy] at h1 ⊢
    rw [sumTo_congr (g := fun x => if x = y then wayL k N tb s (w % N) else 0) fun x _ => by
      by_cases e : x = y
      · subst e; simp
      · rw [if_neg e, if_neg (fun q => e (by omega))]]
    exact sumTo_one (fun _ => wayL k N tb s (w % N)) (by omega)]
  rw [wordsC_wayL]
  have e2 : sumTo (N * k) (fun w => wayL k N tb s (w % N)) = sumTo (N * k) fun w => sumTo N fun v => if w % N = v then wayL k N tb s v else 0 := sumTo_congr fun w _ => by
    refine (sumTo_one (fun v => wayL k N tb s v) (Nat.mod_lt w hN)).symm.trans (sumTo_congr fun v _ => ?_)
    · skip
      by_cases e : w % N = v
      · rw [if_pos e, if_pos e.symm]
      · rw [if_neg e, if_neg (fun q => e q.symm)]
  rw [e2, sumTo_comm, sumTo_congr fun v hv => count_last hk hN hv _, sumTo_mulL]
theorem fair_less {k N n : Nat} {tb : List Int} (hk : 0 < k) (hN : 0 < N) (ht : ∀ w, w < N * k → 0 ≤ tb.getD w 0 ∧ tb.getD w 0 < (k : Int)) (h : FairTo k N tb (n + 1) (k ^ (n + 1))) : FairTo k N tb n (k ^ n) := by
  intro j hj
  have h1 := wordsC_front hk hN ht (digsF k n j)
  have hp : 0 < k ^ n := Nat.pow_pos hk
  rw [sumTo_congr (g := fun _ => N) fun x hx => by
    have h2 := h (x * k ^ n + j) (by
      rw [show k ^ (n + 1) = k * k ^ n by rw [Nat.pow_succ, Nat.mul_comm]]
      have : x * k ^ n + k ^ n ≤ k * k ^ n := by
        have : (x + 1) * k ^ n ≤ k * k ^ n := Nat.mul_le_mul_right _ hx
        rwa [Nat.add_mul, Nat.one_mul] at this
      omega)
    rw [digsF, show (x * k ^ n + j) / k ^ n = x by rw [Nat.mul_comm, Nat.mul_add_div hp, Nat.div_eq_of_lt hj, Nat.add_zero], show (x * k ^ n + j) % k ^ n = j by rw [Nat.mul_comm, Nat.mul_add_mod, Nat.mod_eq_of_lt hj]] at h2
    exact h2, sumTo_const] at h1
  exact (Nat.eq_of_mul_eq_mul_left hk h1).symm
theorem cmpN_ne {x y : Nat} (h : x ≠ y) : (cmpN x y != 0) = true := by
  unfold cmpN
  by_cases h1 : x < y
  · rw [if_pos h1]; rfl
  · rw [if_neg h1, if_pos (by omega)]; rfl
theorem cmpN_eq (x : Nat) : (cmpN x x != 0) = false := by unfold cmpN; simp

/-- what a place holds while the words are gone through -/
structure WordAtU (w : World) (a : Option Addr) (n c : Nat) (l : List Int) : Prop where
  rk : RK .i64 w a n l
  le : n ≤ c
  cm : c ≤ maxLen
  nn : a = none → c = 0
theorem WordAtU.up {w w' : World} {a : Option Addr} {n c : Nat} {l : List Int} (h : WordAtU w a n c l) (hb : Below w.heap.size w w') : WordAtU w' a n c l := ⟨h.rk.up hb, h.le, h.cm, h.nn⟩
theorem next_digsU (k n i : Nat) (a : Option Addr) (m c : Nat) (W : World) (R : Nat → Addr) (hG : Glob W R) (hw : WordAtU W a m c (digsF k n i)) (k1 : 1 ≤ k) (k4 : k ≤ 4) (hn : n ≤ 12) (hi : i < k ^ n) :
    Calls Tryd.prog 19 #[.int .i64 k, .slice a m c] W fun e w' => ∃ a' m' c' ev, e = .returned (.tuple #[.slice a' m' c', ev]) ∧ (i + 1 < k ^ n → WordAtU w' a' m' c' (digsF k n (i + 1))) ∧ Below W.heap.size W w' := by
  have hm := hw.rk.len
  rw [digsF_len] at hm
  have hck : chkErr (k : Int) (digsF k n i) = none := chk_none_of (by omega) (by omega) (by rw [digsF_len]; omega) (digsF_mem k1 n i hi)
  rcases lastUp_or (k : Int) (digsF k n i) with ⟨j, hj⟩ | hno
  · refine (next_up (k : Int) a m c _ W R hG hw.rk (by omega) hw.le hw.nn hck j hj).mono ?_
    rintro e w' ⟨a', c', rfl, ho, hb⟩
    refine ⟨a', m, c', _, rfl, fun hi1 => ?_, hb⟩
    rw [next_digsF k1 hi1 hj] at ho
    obtain ⟨h1, h2, h3⟩ := own_cap ho
    exact ⟨RK.of_own ho, h1, h2, h3⟩
  · refine (next_all (k : Int) a m c _ W R hG hw.rk (by omega) hw.le hw.nn hck hno).mono ?_
    rintro e w' ⟨h1, _⟩
    obtain ⟨a', c', rfl, _, hb⟩ := h1 (by omega)
    exact ⟨a', m + 1, c', _, rfl, fun hi1 => absurd hno (noUp_digsF k1 hi1), hb⟩
set_option maxHeartbeats 1000000 in
theorem natsI_any (a1 a2 : Option Addr) (n1 n2 c1 c2 : Nat) (l1 l2 : List Int) (W : World) (hR1 : RK .u32 W a1 n1 l1) (hR2 : RK .u32 W a2 n2 l2) (hm1 : n1 ≤ maxLen) (hm2 : n2 ≤ maxLen) :
    Calls Tryd.prog 26 #[.slice a1 n1 c1, .slice a2 n2 c2] W fun e w' => e = .returned (.bool (decide (l1 = l2))) ∧ ∃ n, w' = W.drewN n := by
  unfold maxLen at hm1 hm2
  have hl1 := hR1.len
  have hl2 := hR2.len
  have HR1 := Lib.hid hR1; clear hR1
  have HR2 := Lib.hid hR2; clear hR2
  by_cases hlen : n1 = n2
  · have hn1 : n1 ≤ n2 := by omega
    have hn2 : n2 ≤ n1 := by omega
    have hne : ((n1 : Int) != (n2 : Int)) = false := by simp; omega
    clear hlen
    have g1 : n1 ≤ l1.length := by omega
    have g2 : n2 ≤ l2.length := by omega
    have HL1 := Lib.hid hl1; clear hl1
    have HL2 := Lib.hid hl2; clear hl2
    go_enter Tryd.func26, Tryd.ntmps26
    go_wp2_with fail
    clear hne
    go_loopw [5] (fun i wr => ∃ (k n : Nat), k ≤ n1 ∧ i = .int .i64 k ∧ l1.take k = l2.take k ∧ wr = W.drewN n) (fun i _ => n1 - (intOf i).toNat)
    case atStart => exact ⟨0, 0, by omega, rfl, rfl, rfl⟩
    case round =>
      obtain ⟨k, n, hk, rfl, heq, rfl⟩ := hrel
      by_cases hlt : k < n1
      · have hlt2 : k < n2 := by omega
        obtain ⟨b1, o1, rfl, hbo1, hc1⟩ := HR1.out.addr (by omega)
        obtain ⟨b2, o2, rfl, hbo2, hc2⟩ := HR2.out.addr (by omega)
        have x0 := hc1 k hlt
        have y0 := hc2 k hlt2
        clear hc1 hc2
        have HE : Hid (l1.getD k 0 = l2.getD k 0 → l1.take (k + 1) = l2.take (k + 1)) := fun h => take_eq_step (by omega) (by omega) heq h
        have HN : Hid (¬ l1.getD k 0 = l2.getD k 0 → decide (l1 = l2) = false) := fun h => by
          rw [decide_eq_false_iff_not]; intro e; subst e; exact h rfl
        clear heq
        have i0 : (0 : Int) ≤ (k : Int) := by omega
        have i1 : (k : Int) < (n1 : Int) := by omega
        have i2 : (k : Int) < (n2 : Int) := by omega
        generalize l1.getD k 0 = z1 at *
        generalize l2.getD k 0 = z2 at *
        by_cases hz : z1 = z2
        · have HE2 := Lib.hid (HE.out hz)
          have hne : (z1 != z2) = false := by simpa using hz
          clear hz
          go_wp2_with fail
          go_quiet (fail)
          go_wp2
          go_roundw
          case rel => exact ⟨k + 1, _, by omega, by go_num, HE2.out, rfl⟩
          case measure => simp [intOf]; omega
        · have HE2 := Lib.hid (HN.out hz)
          have hne : (z1 != z2) = true := by simpa using hz
          clear hz
          go_wp2_with fail
          go_quiet (fail)
          go_wp2
          go_ret
          rw [HE2.out]
          exact ⟨rfl, n + nq, by simp⟩
      · have hfin : decide (l1 = l2) = true := by
          rw [decide_eq_true_eq]
          have := HL1.out; have := HL2.out
          rw [List.take_of_length_le (by omega), List.take_of_length_le (by omega)] at heq
          exact heq
        have HF := Lib.hid hfin
        clear heq hfin
        go_wp2
        go_ret
        rw [HF.out]
        exact ⟨rfl, _, rfl⟩
  · have hfin : decide (l1 = l2) = false := by
      rw [decide_eq_false_iff_not]; intro e; subst e; omega
    have hne : ((n1 : Int) != (n2 : Int)) = true := by simp; omega
    rw [hfin]
    clear hfin hlen hl1 hl2
    go_enter Tryd.func26, Tryd.ntmps26
    go_wp2
    go_ret
    exact ⟨rfl, 0, rfl⟩
theorem ofN_inj {l1 l2 : List Nat} (h : ofN l1 = ofN l2) : l1 = l2 := by
  unfold ofN at h
  exact List.map_inj_right (fun _ _ h => Int.ofNat.inj h) |>.1 h
theorem natsD_any (a1 a2 : Option Addr) (n1 n2 c1 c2 : Nat) (x y : Nat) (W : World) (h1 : NR W a1 n1 (limbs x)) (h2 : NR W a2 n2 (limbs y)) (hm1 : n1 ≤ maxLen) (hm2 : n2 ≤ maxLen) :
    Calls Tryd.prog 26 #[.slice a1 n1 c1, .slice a2 n2 c2] W fun e w' => e = .returned (.bool (decide (x = y))) ∧ Below W.heap.size W w' := by
  refine (natsI_any a1 a2 n1 n2 c1 c2 _ _ W h1.1 h2.1 hm1 hm2).mono ?_
  rintro e w' ⟨rfl, q, rfl⟩
  refine ⟨?_, bdrewN (bnil W) q⟩
  congr 2
  by_cases h : x = y
  · subst h; simp
  · have : ¬ ofN (limbs x) = ofN (limbs y) := fun e => h (by have := ofN_inj e; rw [← val_limbs x, ← val_limbs y, this])
    simp [h, this]
end Go.Proofs.YteneiianpghalaaDoor
namespace Go.Proofs.YteneiianpghalaaDoor
open Go.RowKit
set_option linter.unusedVariables false
set_option maxRecDepth 100000

def ProF (R : Nat → Addr) (W : World) (yes : Bool) (l : List Int) (f : ErrD) (e : Ending) (w' : World) : Prop :=
  ∃ a' n' c' ev, e = .returned (.tuple #[.bool yes, .slice a' n' c', ev]) ∧ WordAtU w' a' n' c' l ∧ EC R w' ev f ∧ Below W.heap.size W w'
def RefF (W : World) (yes : Bool) (l : List Int) (f : ErrD) (e : Ending) (w' : World) : Prop :=
  ∃ a' n' c' N a1 n1 c1 a2 n2 c2, e = .returned (.tuple #[.bool yes, .slice a' n' c', .agg #[.int .i64 N, .slice a1 n1 c1, .slice a2 n2 c2]]) ∧ RK .i64 w' a' n' l ∧ WC w' (.agg #[.int .i64 N, .slice a1 n1 c1, .slice a2 n2 c2]) f ∧ Below W.heap.size W w'
theorem wordU_nil (w : World) : WordAtU w none 0 0 [] := ⟨RK.nil, Nat.le_refl _, Nat.zero_le _, fun _ => rfl⟩
theorem u64_same {N : Nat} (h : N ≤ 16384) : IntKind.u64.wrap (N : Int) = (N : Int) := by show ((N : Int) % 18446744073709551616) = _; omega

set_option maxHeartbeats 16000000 in
theorem pcFair (k r m : Int) (a : Option Addr) (n c : Nat) (tb : List Int) (W : World) (R : Nat → Addr) (hS : Sent W R) (hG : Glob W R) (hR : RK .i64 W a n tb) (hnc : n ≤ c) (hcm : c ≤ maxLen) (yes : Bool) (l : List Int) (f : ErrD) (hf : FairE k r tb m yes l f) :
    Calls Tryd.prog 32 #[ruleV k r a n c, .int .i64 m] W (ProF R W yes l f) := by
  have hm : n ≤ maxLen := Nat.le_trans hnc hcm
  have hcm' : c ≤ 9223372036854775807 := hcm
  have hL := hR.len
  have HL := Lib.hid hL
  have HS := Lib.hid hS
  have HG := Lib.hid hG
  have HR := Lib.hid hR
  obtain ⟨Wb, hWb⟩ : ∃ Wb, W.alloc (.cells #[.int .i64 k, .int .i64 r, .slice a n c] 24) = Wb := ⟨_, rfl⟩
  have HX : Hid (Wb.cell? ⟨W.heap.size, 0, none⟩ = some (.int .i64 k) ∧ Wb.cell? ⟨W.heap.size, 1, none⟩ = some (.int .i64 r) ∧ Wb.cell? ⟨W.heap.size, 2, none⟩ = some (.slice a n c)) := by rw [← hWb]; exact ⟨by simp, by simp, by simp⟩
  have HSZ : Hid (W.heap.size < Wb.heap.size) := by show _ < _; rw [← hWb]; simp
  have HBX : Hid (Below W.heap.size W Wb) := by rw [← hWb]; exact balloc (bnil W) _
  have HWB := Lib.hid hWb
  clear hS hG hR hL hWb
  rcases hf with ⟨y, hd, rfl, rfl, rfl⟩ | ⟨hd, hn, rfl, rfl, rfl⟩ | ⟨hd, hn, hk1, hbig, rfl, rfl, rfl⟩ | ⟨hd, hn, hk1e, rfl, rfl, rfl⟩ | ⟨hd, hn, hk1, hsm, rfl, rfl, rfl, hall⟩ | ⟨hd, hn, hk1, hsm, rfl, rfl, i0, hi0, rfl, hall, hne⟩
  · have HD := Lib.hid hd
    clear hd
    go_enter Tryd.func32, Tryd.ntmps32
    go_wp2_with fail
    rw [HWB.out]
    refine (csmall_errE k r a n c tb _ R (HS.out.up HBX.out) (HG.out.up HBX.out) (HR.out.up HBX.out) hm _ HD.out).mono ?_; rintro e w2 ⟨g2, rfl, he, hb2⟩
    have HE := Lib.hid he
    clear he
    go_wp2
    go_ret3
    exact ⟨none, 0, 0, _, rfl, wordU_nil _, HE.out, HBX.out.trans (hb2.mono HBX.out.size)⟩
  · skip
    obtain ⟨kn, rn, rfl, rfl, hI, h256⟩ := faultD_none hd
    rw [← HL.out] at h256
    have HI := Lib.hid hI
    clear hd hI
    go_enter Tryd.func32, Tryd.ntmps32
    go_wp2_with fail
    rw [HWB.out]
    refine (csmall_ok kn rn a n c tb _ (HR.out.up HBX.out) HI.out h256).mono ?_; rintro e w2 ⟨rfl, hb2⟩
    have x0 := (hb2.cell (p := ⟨W.heap.size, 0, none⟩) HSZ.out).trans HX.out.1
    have x1 := (hb2.cell (p := ⟨W.heap.size, 1, none⟩) HSZ.out).trans HX.out.2.1
    have x2 := (hb2.cell (p := ⟨W.heap.size, 2, none⟩) HSZ.out).trans HX.out.2.2
    have hb2W := HBX.out.trans (hb2.mono HBX.out.size)
    have HB2 := Lib.hid hb2W
    have HB2b := Lib.hid hb2
    clear hb2W hb2
    go_wp2_with fail
    refine (count_wrong _ _ _ R (HG.out.up HB2.out) (by rfl)).mono ?_; rintro e w' ⟨rfl, rfl⟩
    have HE2 := Lib.hid (wrong_ec (op := opCount) (at_ := 1) (n := 3) (HS.out.up HB2.out))
    go_wp2
    go_ret3
    exact ⟨none, 0, 0, _, rfl, wordU_nil _, HE2.out, balloc HB2.out _⟩
  · skip
    obtain ⟨kn, rn, rfl, rfl, hI, h256⟩ := faultD_none hd
    rw [← HL.out] at h256
    have HI := Lib.hid hI
    have hk4 := hI.k4
    have hk0 := hI.k1
    obtain ⟨mn, rfl⟩ : ∃ mn : Nat, m = (mn : Int) := ⟨m.toNat, by omega⟩
    have hke : ((kn : Int) == 1) = false := by rw [beq_eq_false_iff_ne]; omega
    have hkn2 : 2 ≤ kn := by omega
    simp only [Int.toNat_natCast] at *
    have HBIG := Lib.hid hbig
    clear hd hI hbig hn hk1
    go_enter Tryd.func32, Tryd.ntmps32
    go_wp2_with fail
    rw [HWB.out]
    refine (csmall_ok kn rn a n c tb _ (HR.out.up HBX.out) HI.out h256).mono ?_; rintro e w2 ⟨rfl, hb2⟩
    have x0 := (hb2.cell (p := ⟨W.heap.size, 0, none⟩) HSZ.out).trans HX.out.1
    have x1 := (hb2.cell (p := ⟨W.heap.size, 1, none⟩) HSZ.out).trans HX.out.2.1
    have x2 := (hb2.cell (p := ⟨W.heap.size, 2, none⟩) HSZ.out).trans HX.out.2.2
    have hb2W := HBX.out.trans (hb2.mono HBX.out.size)
    have HB2 := Lib.hid hb2W
    have HB2b := Lib.hid hb2
    clear hb2W hb2
    go_wp2_with fail
    go_loop [8, 23] (fun ax ix => ∃ i p : Nat, i ≤ mn ∧ ix = .int .i64 i ∧ ax = .int .i64 p ∧ p ≤ 4096 ∧ Hid (p = kn ^ i)) (fun _ ix => mn - (intOf ix).toNat)
    case atStart => exact ⟨0, 1, by omega, rfl, rfl, by decide, (Nat.pow_zero kn).symm⟩
    case round =>
      obtain ⟨i, p, hi, rfl, rfl, hp, HP⟩ := hrel
      have hi12 : i ≤ 12 := pow12 hkn2 (by rw [← HP.out]; exact hp)
      by_cases hin : i < mn
      · have hpk : p * kn ≤ 4096 * 4 := Nat.mul_le_mul hp hk4
        have hNX : p * kn = kn ^ (i + 1) := by rw [HP.out, ← Nat.pow_succ]
        obtain ⟨q, hq⟩ : ∃ q, p * kn = q := ⟨_, rfl⟩
        have hqI : (p : Int) * (kn : Int) = (q : Int) := by rw [← hq]; simp
        rw [hq] at hpk hNX
        have HNX := Lib.hid hNX
        clear hNX hq
        by_cases hq2 : 4096 < q
        · go_wp2_with fail
          refine (count_wrong _ _ _ R (HG.out.up HB2.out) (by rfl)).mono ?_; rintro e w' ⟨rfl, rfl⟩
          have HE2 := Lib.hid (wrong_ec (op := opCount) (at_ := 1) (n := 4) (HS.out.up HB2.out))
          go_wp2
          go_ret3
          exact ⟨none, 0, 0, _, rfl, wordU_nil _, HE2.out, balloc HB2.out _⟩
        · go_wp2
          go_round
          case rel => exact ⟨i + 1, q, by omega, by go_num, by go_num, by omega, HNX⟩
          case measure => simp [intOf]; omega
      · obtain rfl : i = mn := by omega
        exact absurd HBIG.out (by rw [← HP.out]; omega)
  · skip
    obtain ⟨kn, rn, rfl, rfl, hI, h256⟩ := faultD_none hd
    rw [← HL.out] at h256
    have HI := Lib.hid hI
    have hke : ((kn : Int) == 1) = true := by rw [hk1e]; rfl
    obtain ⟨mn, rfl⟩ : ∃ mn : Nat, m = (mn : Int) := ⟨m.toNat, by omega⟩
    clear hd hI hn hk1e
    go_enter Tryd.func32, Tryd.ntmps32
    go_wp2_with fail
    rw [HWB.out]
    refine (csmall_ok kn rn a n c tb _ (HR.out.up HBX.out) HI.out h256).mono ?_; rintro e w2 ⟨rfl, hb2⟩
    have x0 := (hb2.cell (p := ⟨W.heap.size, 0, none⟩) HSZ.out).trans HX.out.1
    have x1 := (hb2.cell (p := ⟨W.heap.size, 1, none⟩) HSZ.out).trans HX.out.2.1
    have x2 := (hb2.cell (p := ⟨W.heap.size, 2, none⟩) HSZ.out).trans HX.out.2.2
    have hb2W := HBX.out.trans (hb2.mono HBX.out.size)
    have HB2 := Lib.hid hb2W
    have HB2b := Lib.hid hb2
    clear hb2W hb2
    go_wp2
    go_ret3
    exact ⟨none, 0, 0, _, rfl, wordU_nil _, rfl, HB2.out⟩
  · skip
    obtain ⟨kn, rn, rfl, rfl, hI, h256⟩ := faultD_none hd
    rw [← HL.out] at h256
    have HI := Lib.hid hI
    have hk4 := hI.k4
    have hk0 := hI.k1
    obtain ⟨mn, rfl⟩ : ∃ mn : Nat, m = (mn : Int) := ⟨m.toNat, by omega⟩
    have hke : ((kn : Int) == 1) = false := by rw [beq_eq_false_iff_ne]; omega
    have hkn2 : 2 ≤ kn := by omega
    simp only [Int.toNat_natCast] at *
    have HALL := Lib.hid hall
    clear hd hI hall hn hk1
    go_enter Tryd.func32, Tryd.ntmps32
    go_wp2_with fail
    rw [HWB.out]
    refine (csmall_ok kn rn a n c tb _ (HR.out.up HBX.out) HI.out h256).mono ?_; rintro e w2 ⟨rfl, hb2⟩
    have x0 := (hb2.cell (p := ⟨W.heap.size, 0, none⟩) HSZ.out).trans HX.out.1
    have x1 := (hb2.cell (p := ⟨W.heap.size, 1, none⟩) HSZ.out).trans HX.out.2.1
    have x2 := (hb2.cell (p := ⟨W.heap.size, 2, none⟩) HSZ.out).trans HX.out.2.2
    have hb2W := HBX.out.trans (hb2.mono HBX.out.size)
    have HB2 := Lib.hid hb2W
    have HB2b := Lib.hid hb2
    clear hb2W hb2
    go_wp2_with fail
    go_loop [8, 23] (fun ax ix => ∃ i p : Nat, i ≤ mn ∧ ix = .int .i64 i ∧ ax = .int .i64 p ∧ p ≤ 4096 ∧ Hid (p = kn ^ i)) (fun _ ix => mn - (intOf ix).toNat)
    case atStart => exact ⟨0, 1, by omega, rfl, rfl, by decide, (Nat.pow_zero kn).symm⟩
    case round =>
      obtain ⟨i, p, hi, rfl, rfl, hp, HP⟩ := hrel
      have hi12 : i ≤ 12 := pow12 hkn2 (by rw [← HP.out]; exact hp)
      by_cases hin : i < mn
      · have hpk : p * kn ≤ 4096 * 4 := Nat.mul_le_mul hp hk4
        have hNX : p * kn = kn ^ (i + 1) := by rw [HP.out, ← Nat.pow_succ]
        obtain ⟨q, hq⟩ : ∃ q, p * kn = q := ⟨_, rfl⟩
        have hqI : (p : Int) * (kn : Int) = (q : Int) := by rw [← hq]; simp
        rw [hq] at hpk hNX
        have HNX := Lib.hid hNX
        clear hNX hq
        by_cases hq2 : 4096 < q
        · have h1 : kn ^ (i + 1) ≤ kn ^ mn := Nat.pow_le_pow_right hk0 (by omega)
          exact absurd hsm (by have := HNX.out; omega)
        · go_wp2
          go_round
          case rel => exact ⟨i + 1, q, by omega, by go_num, by go_num, by omega, HNX⟩
          case measure => simp [intOf]; omega
      · obtain rfl : i = mn := by omega
        have hm12 := hi12
        have hnod := HI.out.nodes HL.out
        obtain ⟨N, hN⟩ : ∃ N, kn ^ (2 * rn) = N := ⟨_, rfl⟩
        rw [hN] at hnod
        have hN0 := hnod.2.1
        have hNn : n = N * kn := hnod.1
        have hNle : N ≤ 256 := by
          have : N * 1 ≤ N * kn := Nat.mul_le_mul_left _ hk0
          omega
        have hdiv : (n : Int) / (kn : Int) = (N : Int) := by rw [hNn, Int.natCast_mul]; exact Int.mul_ediv_cancel _ (by omega)
        have hw64 : IntKind.u64.wrap (N : Int) = (N : Int) := u64_same (by omega)
        have HNN := Lib.hid hN
        have HND := Lib.hid hNn
        rw [hN] at HALL
        clear hnod hN hNn
        have kp : (0 : Int) < (kn : Int) := by omega
        go_wp2_with fail
        refine (from_any N _ (by omega)).mono ?_; rintro e w3 ⟨n3, rfl, _, hv3, hb3⟩
        have HV3 := Lib.hid hv3
        have x0' := (hb3.cell (p := ⟨W.heap.size, 0, none⟩) (Nat.lt_of_lt_of_le HSZ.out HB2b.out.size)).trans x0
        have x1' := (hb3.cell (p := ⟨W.heap.size, 1, none⟩) (Nat.lt_of_lt_of_le HSZ.out HB2b.out.size)).trans x1
        have x2' := (hb3.cell (p := ⟨W.heap.size, 2, none⟩) (Nat.lt_of_lt_of_le HSZ.out HB2b.out.size)).trans x2
        have HX3 := Lib.hid (And.intro x0' (And.intro x1' x2'))
        have HB3 := Lib.hid (bstep HB2.out hb3)
        obtain ⟨gs, hgs⟩ : ∃ gs, w2.heap.size = gs := ⟨_, rfl⟩
        rw [hgs] at HV3
        simp only [hgs]
        clear hgs x0 x1 x2 x0' x1' x2' hv3 hb3
        go_wp2_with (first
          | (at_make; refine mk_full rfl _ _ _ rfl w3.heap.size et_int .i64 .i64 _ _ i rfl rfl rfl rfl (by omega) (by unfold maxLen; omega) (Nat.le_refl _) ?_; intro w4 hown4 hb4 hsz4; rw [made_i64'] at hown4; have HOW := Lib.hid hown4; have HB4 := Lib.hid hb4; clear hown4 hb4 hsz4))
        have h0 : WordAtU w4 (some ⟨w3.heap.size, 0, none⟩) i i (digsF kn i 0) := by
          rw [digsF_zero (by omega)]
          exact ⟨RK.of_own HOW.out, Nat.le_refl _, by unfold maxLen; omega, fun h => by cases h⟩
        have H0 := Lib.hid h0
        clear h0
        go_loopw [10, 44] (fun sx jx wr => ∃ (j : Nat) (aw : Option Addr) (nw cw : Nat), j ≤ p ∧ jx = .int .i64 j ∧ sx = .slice aw nw cw ∧ (j < p → WordAtU wr aw nw cw (digsF kn i j)) ∧ Below w3.heap.size w3 wr) (fun _ jx _ => p - (intOf jx).toNat)
        case atStart => exact ⟨0, _, _, _, by omega, rfl, rfl, fun _ => H0.out, HB4.out⟩
        case round =>
          clear H0 HB4 HOW
          obtain ⟨j, aw, nw, cw, hj, rfl, rfl, hw, hb⟩ := hrel
          generalize wr = wq at *
          have HBQ := Lib.hid hb
          have x0 := cp16 hb HX3.out.1
          have x1 := cp16 hb HX3.out.2.1
          have x2 := cp16 hb HX3.out.2.2
          have hbq := bstep HB3.out hb
          by_cases hjp : j < p
          · have hwj := hw hjp
            have hln := hwj.rk.len
            rw [digsF_len] at hln
            obtain rfl : i = nw := hln.symm
            have HW := Lib.hid hwj
            clear hw hb hwj
            go_wp2_with fail
            refine (words_any kn rn a aw n c i cw N tb (digsF kn i j) _ hk0 hk4 HND.out hN0 (by omega) hnc hcm (by omega) (HR.out.up hbq) HW.out.rk).mono ?_; rintro e w5 ⟨a5, n5, c5, rfl, ho5, hb5⟩
            obtain ⟨V, hV⟩ : ∃ V, wordsC kn N tb (digsF kn i j) = V := ⟨_, rfl⟩
            rw [hV] at ho5
            have HO5 := Lib.hid ho5
            have HVV := Lib.hid hV
            have HB5 := Lib.hid (HBQ.out.trans (hb5.mono HBQ.out.size))
            have hb5W := bstep HB3.out HB5.out
            have HV5 := Lib.hid (HV3.out.up HB5.out)
            have HW5 := Lib.hid (HW.out.up hb5)
            have y0 := cp16 hb5 x0
            have y1 := cp16 hb5 x1
            have y2 := cp16 hb5 x2
            have HB5W := Lib.hid hb5W
            clear ho5 hV hb5 x0 x1 x2 hb5W hbq
            go_wp2_with fail
            refine (natCmp_any a5 _ n5 n3 c5 2 _ _ _ HO5.out.ns.nr HV5.out.nr HO5.out.ns.le HV5.out.le HO5.out.ns.cm HV5.out.cm).mono ?_; rintro e w' ⟨rfl, q6, rfl⟩
            rw [val_limbs, val_limbs]
            obtain rfl : V = N := HVV.out.symm.trans (HALL.out j (by rw [← HP.out]; exact hjp))
            have hce := cmpN_eq V
            have HC6 := Lib.hid (HB5.out.trans ((bdrewN (bnil w5) q6).mono HB5.out.size))
            go_wp2_with fail
            refine (next_digsU kn i j aw i cw _ R (HG.out.up (bdrewN HB5W.out q6)) (HW5.out.up (bdrewN (bnil w5) q6)) hk0 hk4 hm12 (by rw [← HP.out]; exact hjp)).mono ?_; rintro e w7 ⟨a7, n7, c7, ev7, rfl, hn7, hb7⟩
            have HN7 := Lib.hid hn7
            have HB7 := Lib.hid (HC6.out.trans (hb7.mono HC6.out.size))
            clear hn7 hb7 hce
            go_wp2
            go_roundw
            case rel => exact ⟨j + 1, a7, n7, c7, by omega, by go_num, rfl, fun h => HN7.out (by rw [← HP.out]; exact h), HB7.out⟩
            case measure => simp [intOf]; omega
          · skip
            obtain rfl : j = p := by omega
            clear hw
            go_wp2
            go_ret3
            exact ⟨none, 0, 0, _, rfl, wordU_nil _, rfl, hbq⟩
  · skip
    obtain ⟨kn, rn, rfl, rfl, hI, h256⟩ := faultD_none hd
    rw [← HL.out] at h256
    have HI := Lib.hid hI
    have hk4 := hI.k4
    have hk0 := hI.k1
    obtain ⟨mn, rfl⟩ : ∃ mn : Nat, m = (mn : Int) := ⟨m.toNat, by omega⟩
    have hke : ((kn : Int) == 1) = false := by rw [beq_eq_false_iff_ne]; omega
    have hkn2 : 2 ≤ kn := by omega
    simp only [Int.toNat_natCast] at *
    have HALL := Lib.hid hall
    have HNE := Lib.hid hne
    have HI0 := Lib.hid hi0
    clear hd hI hall hn hk1 hne hi0
    go_enter Tryd.func32, Tryd.ntmps32
    go_wp2_with fail
    rw [HWB.out]
    refine (csmall_ok kn rn a n c tb _ (HR.out.up HBX.out) HI.out h256).mono ?_; rintro e w2 ⟨rfl, hb2⟩
    have x0 := (hb2.cell (p := ⟨W.heap.size, 0, none⟩) HSZ.out).trans HX.out.1
    have x1 := (hb2.cell (p := ⟨W.heap.size, 1, none⟩) HSZ.out).trans HX.out.2.1
    have x2 := (hb2.cell (p := ⟨W.heap.size, 2, none⟩) HSZ.out).trans HX.out.2.2
    have hb2W := HBX.out.trans (hb2.mono HBX.out.size)
    have HB2 := Lib.hid hb2W
    have HB2b := Lib.hid hb2
    clear hb2W hb2
    go_wp2_with fail
    go_loop [8, 23] (fun ax ix => ∃ i p : Nat, i ≤ mn ∧ ix = .int .i64 i ∧ ax = .int .i64 p ∧ p ≤ 4096 ∧ Hid (p = kn ^ i)) (fun _ ix => mn - (intOf ix).toNat)
    case atStart => exact ⟨0, 1, by omega, rfl, rfl, by decide, (Nat.pow_zero kn).symm⟩
    case round =>
      obtain ⟨i, p, hi, rfl, rfl, hp, HP⟩ := hrel
      have hi12 : i ≤ 12 := pow12 hkn2 (by rw [← HP.out]; exact hp)
      by_cases hin : i < mn
      · have hpk : p * kn ≤ 4096 * 4 := Nat.mul_le_mul hp hk4
        have hNX : p * kn = kn ^ (i + 1) := by rw [HP.out, ← Nat.pow_succ]
        obtain ⟨q, hq⟩ : ∃ q, p * kn = q := ⟨_, rfl⟩
        have hqI : (p : Int) * (kn : Int) = (q : Int) := by rw [← hq]; simp
        rw [hq] at hpk hNX
        have HNX := Lib.hid hNX
        clear hNX hq
        by_cases hq2 : 4096 < q
        · have h1 : kn ^ (i + 1) ≤ kn ^ mn := Nat.pow_le_pow_right hk0 (by omega)
          exact absurd hsm (by have := HNX.out; omega)
        · go_wp2
          go_round
          case rel => exact ⟨i + 1, q, by omega, by go_num, by go_num, by omega, HNX⟩
          case measure => simp [intOf]; omega
      · obtain rfl : i = mn := by omega
        have hm12 := hi12
        have hnod := HI.out.nodes HL.out
        obtain ⟨N, hN⟩ : ∃ N, kn ^ (2 * rn) = N := ⟨_, rfl⟩
        rw [hN] at hnod
        have hN0 := hnod.2.1
        have hNn : n = N * kn := hnod.1
        have hNle : N ≤ 256 := by
          have : N * 1 ≤ N * kn := Nat.mul_le_mul_left _ hk0
          omega
        have hdiv : (n : Int) / (kn : Int) = (N : Int) := by rw [hNn, Int.natCast_mul]; exact Int.mul_ediv_cancel _ (by omega)
        have hw64 : IntKind.u64.wrap (N : Int) = (N : Int) := u64_same (by omega)
        have HNN := Lib.hid hN
        have HND := Lib.hid hNn
        rw [hN] at HALL
        clear hnod hN hNn
        have kp : (0 : Int) < (kn : Int) := by omega
        go_wp2_with fail
        refine (from_any N _ (by omega)).mono ?_; rintro e w3 ⟨n3, rfl, _, hv3, hb3⟩
        have HV3 := Lib.hid hv3
        have x0' := (hb3.cell (p := ⟨W.heap.size, 0, none⟩) (Nat.lt_of_lt_of_le HSZ.out HB2b.out.size)).trans x0
        have x1' := (hb3.cell (p := ⟨W.heap.size, 1, none⟩) (Nat.lt_of_lt_of_le HSZ.out HB2b.out.size)).trans x1
        have x2' := (hb3.cell (p := ⟨W.heap.size, 2, none⟩) (Nat.lt_of_lt_of_le HSZ.out HB2b.out.size)).trans x2
        have HX3 := Lib.hid (And.intro x0' (And.intro x1' x2'))
        have HB3 := Lib.hid (bstep HB2.out hb3)
        obtain ⟨gs, hgs⟩ : ∃ gs, w2.heap.size = gs := ⟨_, rfl⟩
        rw [hgs] at HV3
        simp only [hgs]
        clear hgs x0 x1 x2 x0' x1' x2' hv3 hb3
        go_wp2_with (first
          | (at_make; refine mk_full rfl _ _ _ rfl w3.heap.size et_int .i64 .i64 _ _ i rfl rfl rfl rfl (by omega) (by unfold maxLen; omega) (Nat.le_refl _) ?_; intro w4 hown4 hb4 hsz4; rw [made_i64'] at hown4; have HOW := Lib.hid hown4; have HB4 := Lib.hid hb4; clear hown4 hb4 hsz4))
        have h0 : WordAtU w4 (some ⟨w3.heap.size, 0, none⟩) i i (digsF kn i 0) := by
          rw [digsF_zero (by omega)]
          exact ⟨RK.of_own HOW.out, Nat.le_refl _, by unfold maxLen; omega, fun h => by cases h⟩
        have H0 := Lib.hid h0
        clear h0
        go_loopw [10, 44] (fun sx jx wr => ∃ (j : Nat) (aw : Option Addr) (nw cw : Nat), j ≤ i0 ∧ jx = .int .i64 j ∧ sx = .slice aw nw cw ∧ (j < p → WordAtU wr aw nw cw (digsF kn i j)) ∧ Below w3.heap.size w3 wr) (fun _ jx _ => p - (intOf jx).toNat)
        case atStart => exact ⟨0, _, _, _, by omega, rfl, rfl, fun _ => H0.out, HB4.out⟩
        case round =>
          clear H0 HB4 HOW
          obtain ⟨j, aw, nw, cw, hj, rfl, rfl, hw, hb⟩ := hrel
          generalize wr = wq at *
          have HBQ := Lib.hid hb
          have x0 := cp16 hb HX3.out.1
          have x1 := cp16 hb HX3.out.2.1
          have x2 := cp16 hb HX3.out.2.2
          have hbq := bstep HB3.out hb
          by_cases hjp : j < p
          · have hwj := hw hjp
            have hln := hwj.rk.len
            rw [digsF_len] at hln
            obtain rfl : i = nw := hln.symm
            have HW := Lib.hid hwj
            clear hw hb hwj
            go_wp2_with fail
            refine (words_any kn rn a aw n c i cw N tb (digsF kn i j) _ hk0 hk4 HND.out hN0 (by omega) hnc hcm (by omega) (HR.out.up hbq) HW.out.rk).mono ?_; rintro e w5 ⟨a5, n5, c5, rfl, ho5, hb5⟩
            obtain ⟨V, hV⟩ : ∃ V, wordsC kn N tb (digsF kn i j) = V := ⟨_, rfl⟩
            rw [hV] at ho5
            have HO5 := Lib.hid ho5
            have HVV := Lib.hid hV
            have HB5 := Lib.hid (HBQ.out.trans (hb5.mono HBQ.out.size))
            have hb5W := bstep HB3.out HB5.out
            have HV5 := Lib.hid (HV3.out.up HB5.out)
            have HW5 := Lib.hid (HW.out.up hb5)
            have y0 := cp16 hb5 x0
            have y1 := cp16 hb5 x1
            have y2 := cp16 hb5 x2
            have HB5W := Lib.hid hb5W
            clear ho5 hV hb5 x0 x1 x2 hb5W hbq
            go_wp2_with fail
            refine (natCmp_any a5 _ n5 n3 c5 2 _ _ _ HO5.out.ns.nr HV5.out.nr HO5.out.ns.le HV5.out.le HO5.out.ns.cm HV5.out.cm).mono ?_; rintro e w' ⟨rfl, q6, rfl⟩
            rw [val_limbs, val_limbs]
            by_cases hji : j = i0
            · subst hji
              have hce : (cmpN V N != 0) = true := cmpN_ne (by rw [← HVV.out, ← HNN.out]; have := HNE.out; exact this)
              have HC6 := Lib.hid (bdrewN HB5W.out q6)
              have HW6 := Lib.hid (HW5.out.up (bdrewN (bnil w5) q6))
              go_wp2
              go_ret3
              exact ⟨_, _, _, _, rfl, HW6.out, rfl, HC6.out⟩
            obtain rfl : V = N := HVV.out.symm.trans (HALL.out j (by omega))
            have hce := cmpN_eq V
            have HC6 := Lib.hid (HB5.out.trans ((bdrewN (bnil w5) q6).mono HB5.out.size))
            go_wp2_with fail
            refine (next_digsU kn i j aw i cw _ R (HG.out.up (bdrewN HB5W.out q6)) (HW5.out.up (bdrewN (bnil w5) q6)) hk0 hk4 hm12 (by rw [← HP.out]; exact hjp)).mono ?_; rintro e w7 ⟨a7, n7, c7, ev7, rfl, hn7, hb7⟩
            have HN7 := Lib.hid hn7
            have HB7 := Lib.hid (HC6.out.trans (hb7.mono HC6.out.size))
            clear hn7 hb7 hce
            go_wp2
            go_roundw
            case rel => exact ⟨j + 1, a7, n7, c7, by omega, by go_num, rfl, fun h => HN7.out (by rw [← HP.out]; exact h), HB7.out⟩
            case measure => simp [intOf]; omega
          · skip
            exact absurd HI0.out (by rw [← HP.out]; omega)

set_option maxHeartbeats 16000000 in
theorem refFair_any (k r m : Int) (a : Option Addr) (T c : Nat) (tb : List Int) (W : World) (hT : RK .i64 W a T tb) (hm : T ≤ maxLen) (yes : Bool) (l : List Int) (f : ErrD) (hf : FairE k r tb m yes l f) :
    Calls Tryd.prog 33 #[ruleV k r a T c, .int .i64 m] W (RefF W yes l f) := by
  have HLT := Lib.hid hT.len
  have HM := Lib.hid hm
  clear hm
  obtain ⟨w0, hw0⟩ : ∃ w0, (W.alloc (.cells #[.int .i64 k, .int .i64 r, .slice a T c] 24)).alloc (.cells #[.int .i64 0, .slice none 0 0, .slice none 0 0] 53) = w0 := ⟨_, rfl⟩
  have HSZ : Hid (w0.heap.size = W.heap.size + 2) := by show _ = _; rw [← hw0]; simp
  have HY0 : Hid (w0.heap[W.heap.size + 1]? = some (.cells #[.int .i64 0, .slice none 0 0, .slice none 0 0] 53)) := by show _ = _; rw [← hw0]; have h := heap_alloc_new ((W.alloc (.cells #[.int .i64 k, .int .i64 r, .slice a T c] 24))) (.cells #[.int .i64 0, .slice none 0 0, .slice none 0 0] 53); simpa using h
  have HP0 : Hid (w0.heap[W.heap.size]? = some (.cells #[.int .i64 k, .int .i64 r, .slice a T c] 24)) := by
    show _ = _
    rw [← hw0]
    rw [heap_alloc_old _ _ (by simp)]
    have h := heap_alloc_new (W) (.cells #[.int .i64 k, .int .i64 r, .slice a T c] 24)
    simpa using h
  have HBX : Hid (Below W.heap.size W w0) := by show Below _ _ _; rw [← hw0]; exact balloc (balloc (bnil W) _) _
  have HB0 := Lib.hid (bnil w0)
  have HWB := Lib.hid hw0
  have HT := Lib.hid (hT.up HBX.out)
  clear hw0 hT
  have hcf := refFault_any opCount k r a T c tb w0 HT.out HM.out
  rcases hf with ⟨y, hd, rfl, rfl, rfl⟩ | ⟨hd, hn, rfl, rfl, rfl⟩ | ⟨hd, hn, hk1, hbig, rfl, rfl, rfl⟩ | ⟨hd, hn, hk1e, rfl, rfl, rfl⟩ | ⟨hd, hn, hk1, hsm, rfl, rfl, rfl, hall⟩ | ⟨hd, hn, hk1, hsm, rfl, rfl, i0, hi0, rfl, hall, hne⟩
  · rw [hd] at hcf
    have HCF := Lib.hid hcf
    clear hd hcf
    go_enter Tryd.func33, Tryd.ntmps33
    obtain ⟨⟨x0, x1, x2⟩, y0, y1, y2⟩ := cellsq HP0.out
    rw [← HWB.out] at x0 x1 x2 y0 y1 y2
    go_wp2_with fail
    rw [HWB.out]
    clear x0 x1 x2 y0 y1 y2
    refine (HCF.out).mono ?_; rintro e w1 ⟨vN, va1, vn1, vc1, va2, vn2, vc2, rfl, hw, hf1, hf2, hN, h0, hb⟩
    have HWv1 := Lib.hid hw
    have HFv : Hid (Fr (W.heap.size + 1 + 1) va1 ∧ Fr (W.heap.size + 1 + 1) va2) := ⟨hf1.base (by have := HSZ.out; have := HB0.out.size; omega), hf2.base (by have := HSZ.out; have := HB0.out.size; omega)⟩
    have HNv : Hid ((vN != 0) = true) := hN
    clear hw hf1 hf2 hN h0
    have HB1 := Lib.hid (HB0.out.trans (hb.mono HB0.out.size))
    clear hb
    go_wp2_with fail
    obtain ⟨g1, hg1⟩ : ∃ g1, w1.heap.size = g1 := ⟨_, rfl⟩
    obtain ⟨w2, hw⟩ : ∃ w2, w1.alloc (.cells #[.int .i64 vN, .slice va1 vn1 vc1, .slice va2 vn2 vc2] 53) = w2 := ⟨_, rfl⟩
    have hb : Below w1.heap.size w1 w2 := by rw [← hw]; exact balloc (bnil w1) _
    have HZ2 : Hid (w2.heap[g1]? = some (.cells #[.int .i64 vN, .slice va1 vn1 vc1, .slice va2 vn2 vc2] 53)) := by show _ = _; rw [← hw, ← hg1]; exact heap_alloc_new w1 _
    have HG1 : Hid (W.heap.size + 1 + 1 ≤ g1) := by show _ ≤ _; have := HSZ.out; have := HB1.out.size; omega
    rw [hw]
    simp only [hg1]
    clear hw hg1
    have HB2 := Lib.hid (HB1.out.trans (hb.mono HB1.out.size))
    have HWv2 := Lib.hid (HWv1.out.up hb)
    clear hb
    obtain ⟨⟨q0, q1, q2⟩, f0, f1, f2⟩ := cellsq HZ2.out
    go_wp2_with fail
    clear q0 q1 q2 f0 f1 f2
    refine (refBadq vN _ _ _ true HNv.out).mono ?_; rintro e w3 ⟨rfl, hb⟩
    have HB3 := Lib.hid (HB2.out.trans (hb.mono HB2.out.size))
    have HZ3 := Lib.hid ((hb.block _ (heap_ltQ HZ2.out)).trans HZ2.out)
    have HWv3 := Lib.hid (HWv2.out.up hb)
    clear hb
    obtain ⟨⟨q0, q1, q2⟩, f0, f1, f2⟩ := cellsq HZ3.out
    have hy := (HB3.out.block _ (by have := HSZ.out; omega)).trans HY0.out
    obtain ⟨⟨p0, p1, p2⟩, f3, f4, f5⟩ := cellsq hy
    obtain ⟨w9, e9, ⟨r0, r1, r2⟩, hk, hs, hbl, _⟩ := set3q hy (.int .i64 vN) (.slice va1 vn1 vc1) (.slice va2 vn2 vc2)
    have HE9 := Lib.hid e9
    have HR := Lib.hid (And.intro r0 (And.intro r1 r2))
    have HBE := Lib.hid (hbl W W.heap.size (by omega) (HBX.out.trans (HB3.out.mono HBX.out.size)))
    have HWC : Hid (WC w9 (.agg #[.int .i64 vN, .slice va1 vn1 vc1, .slice va2 vn2 vc2]) _) := Lib.hid (HWv3.out.other hk hs HFv.out.1 HFv.out.2)
    clear hy e9 r0 r1 r2 hk hs hbl
    go_wp2
    go_region
    all_goals
      go_wp2
      rw [HE9.out]
      have r0 : w9.drew.cell? _ = _ := HR.out.1
      have r1 : w9.drew.cell? _ = _ := HR.out.2.1
      have r2 : w9.drew.cell? _ = _ := HR.out.2.2
      refine bodyPost_ret (v := .tuple #[.bool false, .slice none 0 0, .agg #[.int .i64 vN, .slice va1 vn1 vc1, .slice va2 vn2 vc2]]) (by simp [results, Tryd.results33, go_sem, r0, r1, r2]) rfl ?_
      exact ⟨none, 0, 0, _, _, _, _, _, _, _, rfl, RK.nil, (HWC.out.up (bnil w9).drew), (HBE.out.drew)⟩
  · rw [hd] at hcf
    have HCF := Lib.hid hcf
    obtain ⟨kn, rn, rfl, rfl, hI, h256⟩ := faultD_none hd
    have HI := Lib.hid hI
    have HT256 : Hid (T ≤ 256) := by show _ ≤ _; rw [HLT.out]; exact h256
    clear hd hcf hI h256
    go_enter Tryd.func33, Tryd.ntmps33
    obtain ⟨⟨x0, x1, x2⟩, y0, y1, y2⟩ := cellsq HP0.out
    rw [← HWB.out] at x0 x1 x2 y0 y1 y2
    go_wp2_with fail
    rw [HWB.out]
    clear x0 x1 x2 y0 y1 y2
    refine (HCF.out).mono ?_; rintro e w1 ⟨zN, za1, zn1, zc1, za2, zn2, zc2, rfl, hw, hf1, hf2, hN, h0, hb⟩
    obtain ⟨rfl, rfl, rfl, rfl, rfl, rfl, rfl⟩ := h0 rfl
    clear hw hf1 hf2 hN h0
    have HB1 := Lib.hid (HB0.out.trans (hb.mono HB0.out.size))
    clear hb
    go_wp2_with fail
    obtain ⟨g1, hg1⟩ : ∃ g1, w1.heap.size = g1 := ⟨_, rfl⟩
    obtain ⟨w2, hw⟩ : ∃ w2, w1.alloc (.cells #[.int .i64 0, .slice none 0 0, .slice none 0 0] 53) = w2 := ⟨_, rfl⟩
    have hb : Below w1.heap.size w1 w2 := by rw [← hw]; exact balloc (bnil w1) _
    have HZ2 : Hid (w2.heap[g1]? = some (.cells #[.int .i64 0, .slice none 0 0, .slice none 0 0] 53)) := by show _ = _; rw [← hw, ← hg1]; exact heap_alloc_new w1 _
    have HG1 : Hid (W.heap.size + 1 + 1 ≤ g1) := by show _ ≤ _; have := HSZ.out; have := HB1.out.size; omega
    rw [hw]
    simp only [hg1]
    clear hw hg1
    have HB2 := Lib.hid (HB1.out.trans (hb.mono HB1.out.size))
    clear hb
    obtain ⟨⟨q0, q1, q2⟩, f0, f1, f2⟩ := cellsq HZ2.out
    go_wp2_with fail
    clear q0 q1 q2 f0 f1 f2
    refine (refBadq 0 _ _ _ false rfl).mono ?_; rintro e w3 ⟨rfl, hb⟩
    have HB3 := Lib.hid (HB2.out.trans (hb.mono HB2.out.size))
    have HZ3 := Lib.hid ((hb.block _ (heap_ltQ HZ2.out)).trans HZ2.out)
    clear hb
    go_wp2_with fail
    refine (rawNewq opCount _ _ _ rfl).mono ?_; rintro e w4 ⟨vN, va1, vn1, vc1, va2, vn2, vc2, rfl, hw, hf1, hf2, hN, h0, hb⟩
    have HWv4 := Lib.hid hw
    have HFv : Hid (Fr (W.heap.size + 1 + 1) va1 ∧ Fr (W.heap.size + 1 + 1) va2) := ⟨hf1.base (by have := HSZ.out; have := HB3.out.size; omega), hf2.base (by have := HSZ.out; have := HB3.out.size; omega)⟩
    have HNv : Hid ((vN != 0) = true) := hN
    have HGv : Hid (Fr (g1 + 1) va1 ∧ Fr (g1 + 1) va2) := ⟨hf1.base (heap_ltQ HZ3.out), hf2.base (heap_ltQ HZ3.out)⟩
    clear hw hf1 hf2 hN h0
    have HB4 := Lib.hid (HB3.out.trans (hb.mono HB3.out.size))
    have HZ4 := Lib.hid ((hb.block _ (heap_ltQ HZ3.out)).trans HZ3.out)
    clear hb
    have hy := (HB4.out.block _ (by have := HSZ.out; omega)).trans HY0.out
    obtain ⟨⟨p0, p1, p2⟩, f3, f4, f5⟩ := cellsq hy
    obtain ⟨w9, e9, ⟨r0, r1, r2⟩, hk, hs, hbl, _⟩ := set3q hy (.int .i64 vN) (.slice va1 vn1 vc1) (.slice va2 vn2 vc2)
    have HE9 := Lib.hid e9
    have HR := Lib.hid (And.intro r0 (And.intro r1 r2))
    have HBE := Lib.hid (hbl W W.heap.size (by omega) (HBX.out.trans (HB4.out.mono HBX.out.size)))
    have HWC : Hid (WC w9 (.agg #[.int .i64 vN, .slice va1 vn1 vc1, .slice va2 vn2 vc2]) _) := Lib.hid (HWv4.out.other hk hs HFv.out.1 HFv.out.2)
    clear hy e9 r0 r1 r2 hk hs hbl
    go_wp2
    rw [HE9.out]
    have r0 : w9.cell? _ = _ := HR.out.1
    have r1 : w9.cell? _ = _ := HR.out.2.1
    have r2 : w9.cell? _ = _ := HR.out.2.2
    refine bodyPost_ret (v := .tuple #[.bool false, .slice none 0 0, .agg #[.int .i64 vN, .slice va1 vn1 vc1, .slice va2 vn2 vc2]]) (by simp [results, Tryd.results33, go_sem, r0, r1, r2]) rfl ?_
    exact ⟨none, 0, 0, _, _, _, _, _, _, _, rfl, RK.nil, HWC.out, HBE.out⟩
  · rw [hd] at hcf
    have HCF := Lib.hid hcf
    obtain ⟨kn, rn, rfl, rfl, hI, h256⟩ := faultD_none hd
    have HI := Lib.hid hI
    have HT256 : Hid (T ≤ 256) := by show _ ≤ _; rw [HLT.out]; exact h256
    have hk4 := hI.k4
    have hk0 := hI.k1
    have hr3 := hI.r3
    obtain ⟨mn, rfl⟩ : ∃ mn : Nat, m = (mn : Int) := ⟨m.toNat, by omega⟩
    have hkg : (1 : Int) < (kn : Int) := by omega
    have hke : ((kn : Int) == 1) = false := by rw [beq_eq_false_iff_ne]; omega
    have hkn2 : 2 ≤ kn := by omega
    simp only [Int.toNat_natCast] at *
    clear hd hcf hI h256 hn hk1
    by_cases h12 : 12 < mn
    · skip
      clear hbig
      go_enter Tryd.func33, Tryd.ntmps33
      obtain ⟨⟨x0, x1, x2⟩, y0, y1, y2⟩ := cellsq HP0.out
      rw [← HWB.out] at x0 x1 x2 y0 y1 y2
      go_wp2_with fail
      rw [HWB.out]
      clear x0 x1 x2 y0 y1 y2
      refine (HCF.out).mono ?_; rintro e w1 ⟨zN, za1, zn1, zc1, za2, zn2, zc2, rfl, hw, hf1, hf2, hN, h0, hb⟩
      obtain ⟨rfl, rfl, rfl, rfl, rfl, rfl, rfl⟩ := h0 rfl
      clear hw hf1 hf2 hN h0
      have HB1 := Lib.hid (HB0.out.trans (hb.mono HB0.out.size))
      clear hb
      go_wp2_with fail
      obtain ⟨g1, hg1⟩ : ∃ g1, w1.heap.size = g1 := ⟨_, rfl⟩
      obtain ⟨w2, hw⟩ : ∃ w2, w1.alloc (.cells #[.int .i64 0, .slice none 0 0, .slice none 0 0] 53) = w2 := ⟨_, rfl⟩
      have hb : Below w1.heap.size w1 w2 := by rw [← hw]; exact balloc (bnil w1) _
      have HZ2 : Hid (w2.heap[g1]? = some (.cells #[.int .i64 0, .slice none 0 0, .slice none 0 0] 53)) := by show _ = _; rw [← hw, ← hg1]; exact heap_alloc_new w1 _
      have HG1 : Hid (W.heap.size + 1 + 1 ≤ g1) := by show _ ≤ _; have := HSZ.out; have := HB1.out.size; omega
      rw [hw]
      simp only [hg1]
      clear hw hg1
      have HB2 := Lib.hid (HB1.out.trans (hb.mono HB1.out.size))
      clear hb
      obtain ⟨⟨q0, q1, q2⟩, f0, f1, f2⟩ := cellsq HZ2.out
      go_wp2_with fail
      clear q0 q1 q2 f0 f1 f2
      refine (refBadq 0 _ _ _ false rfl).mono ?_; rintro e w3 ⟨rfl, hb⟩
      have HB3 := Lib.hid (HB2.out.trans (hb.mono HB2.out.size))
      have HZ3 := Lib.hid ((hb.block _ (heap_ltQ HZ2.out)).trans HZ2.out)
      clear hb
      obtain ⟨⟨x0, x1, x2⟩, y0, y1, y2⟩ := cellsq ((HB3.out.block _ (heap_ltQ HP0.out)).trans HP0.out)
      go_wp2_with fail
      clear x0 x1 x2 y0 y1 y2
      refine (rawNewq opCount _ _ _ rfl).mono ?_; rintro e w4 ⟨vN, va1, vn1, vc1, va2, vn2, vc2, rfl, hw, hf1, hf2, hN, h0, hb⟩
      have HWv4 := Lib.hid hw
      have HFv : Hid (Fr (W.heap.size + 1 + 1) va1 ∧ Fr (W.heap.size + 1 + 1) va2) := ⟨hf1.base (by have := HSZ.out; have := HB3.out.size; omega), hf2.base (by have := HSZ.out; have := HB3.out.size; omega)⟩
      have HNv : Hid ((vN != 0) = true) := hN
      have HGv : Hid (Fr (g1 + 1) va1 ∧ Fr (g1 + 1) va2) := ⟨hf1.base (heap_ltQ HZ3.out), hf2.base (heap_ltQ HZ3.out)⟩
      clear hw hf1 hf2 hN h0
      have HB4 := Lib.hid (HB3.out.trans (hb.mono HB3.out.size))
      have HZ4 := Lib.hid ((hb.block _ (heap_ltQ HZ3.out)).trans HZ3.out)
      clear hb
      have hy := (HB4.out.block _ (by have := HSZ.out; omega)).trans HY0.out
      obtain ⟨⟨p0, p1, p2⟩, f3, f4, f5⟩ := cellsq hy
      obtain ⟨w9, e9, ⟨r0, r1, r2⟩, hk, hs, hbl, _⟩ := set3q hy (.int .i64 vN) (.slice va1 vn1 vc1) (.slice va2 vn2 vc2)
      have HE9 := Lib.hid e9
      have HR := Lib.hid (And.intro r0 (And.intro r1 r2))
      have HBE := Lib.hid (hbl W W.heap.size (by omega) (HBX.out.trans (HB4.out.mono HBX.out.size)))
      have HWC : Hid (WC w9 (.agg #[.int .i64 vN, .slice va1 vn1 vc1, .slice va2 vn2 vc2]) _) := Lib.hid (HWv4.out.other hk hs HFv.out.1 HFv.out.2)
      clear hy e9 r0 r1 r2 hk hs hbl
      go_wp2
      rw [HE9.out]
      have r0 : w9.cell? _ = _ := HR.out.1
      have r1 : w9.cell? _ = _ := HR.out.2.1
      have r2 : w9.cell? _ = _ := HR.out.2.2
      refine bodyPost_ret (v := .tuple #[.bool false, .slice none 0 0, .agg #[.int .i64 vN, .slice va1 vn1 vc1, .slice va2 vn2 vc2]]) (by simp [results, Tryd.results33, go_sem, r0, r1, r2]) rfl ?_
      exact ⟨none, 0, 0, _, _, _, _, _, _, _, rfl, RK.nil, HWC.out, HBE.out⟩
    · have hm12 : mn ≤ 12 := by omega
      have hPb : kn ^ mn ≤ 1000000000000 := Nat.le_trans (Nat.pow_le_pow_left hk4 mn) (Nat.le_trans (Nat.pow_le_pow_right (by decide) hm12) (by decide))
      have hPW := fun V => refPower_any kn mn (mn : Int) V rfl hk0 (by omega) (by omega) hPb
      obtain ⟨P, hP⟩ : ∃ P, kn ^ mn = P := ⟨_, rfl⟩
      simp only [hP] at *
      have HPE := Lib.hid hP
      have HPW := Lib.hid hPW
      clear hPW hP
      go_enter Tryd.func33, Tryd.ntmps33
      obtain ⟨⟨x0, x1, x2⟩, y0, y1, y2⟩ := cellsq HP0.out
      rw [← HWB.out] at x0 x1 x2 y0 y1 y2
      go_wp2_with fail
      rw [HWB.out]
      clear x0 x1 x2 y0 y1 y2
      refine (HCF.out).mono ?_; rintro e w1 ⟨zN, za1, zn1, zc1, za2, zn2, zc2, rfl, hw, hf1, hf2, hN, h0, hb⟩
      obtain ⟨rfl, rfl, rfl, rfl, rfl, rfl, rfl⟩ := h0 rfl
      clear hw hf1 hf2 hN h0
      have HB1 := Lib.hid (HB0.out.trans (hb.mono HB0.out.size))
      clear hb
      go_wp2_with fail
      obtain ⟨g1, hg1⟩ : ∃ g1, w1.heap.size = g1 := ⟨_, rfl⟩
      obtain ⟨w2, hw⟩ : ∃ w2, w1.alloc (.cells #[.int .i64 0, .slice none 0 0, .slice none 0 0] 53) = w2 := ⟨_, rfl⟩
      have hb : Below w1.heap.size w1 w2 := by rw [← hw]; exact balloc (bnil w1) _
      have HZ2 : Hid (w2.heap[g1]? = some (.cells #[.int .i64 0, .slice none 0 0, .slice none 0 0] 53)) := by show _ = _; rw [← hw, ← hg1]; exact heap_alloc_new w1 _
      have HG1 : Hid (W.heap.size + 1 + 1 ≤ g1) := by show _ ≤ _; have := HSZ.out; have := HB1.out.size; omega
      rw [hw]
      simp only [hg1]
      clear hw hg1
      have HB2 := Lib.hid (HB1.out.trans (hb.mono HB1.out.size))
      clear hb
      obtain ⟨⟨q0, q1, q2⟩, f0, f1, f2⟩ := cellsq HZ2.out
      go_wp2_with fail
      clear q0 q1 q2 f0 f1 f2
      refine (refBadq 0 _ _ _ false rfl).mono ?_; rintro e w3 ⟨rfl, hb⟩
      have HB3 := Lib.hid (HB2.out.trans (hb.mono HB2.out.size))
      have HZ3 := Lib.hid ((hb.block _ (heap_ltQ HZ2.out)).trans HZ2.out)
      clear hb
      obtain ⟨⟨x0, x1, x2⟩, y0, y1, y2⟩ := cellsq ((HB3.out.block _ (heap_ltQ HP0.out)).trans HP0.out)
      go_wp2_with fail
      clear x0 x1 x2 y0 y1 y2
      refine (HPW.out _).mono ?_; rintro e w' ⟨rfl, rfl⟩
      go_wp2_with fail
      refine (rawNewq opCount _ _ _ rfl).mono ?_; rintro e w4 ⟨vN, va1, vn1, vc1, va2, vn2, vc2, rfl, hw, hf1, hf2, hN, h0, hb⟩
      have HWv4 := Lib.hid hw
      have HFv : Hid (Fr (W.heap.size + 1 + 1) va1 ∧ Fr (W.heap.size + 1 + 1) va2) := ⟨hf1.base (by have := HSZ.out; have := HB3.out.size; omega), hf2.base (by have := HSZ.out; have := HB3.out.size; omega)⟩
      have HNv : Hid ((vN != 0) = true) := hN
      have HGv : Hid (Fr (g1 + 1) va1 ∧ Fr (g1 + 1) va2) := ⟨hf1.base (heap_ltQ HZ3.out), hf2.base (heap_ltQ HZ3.out)⟩
      clear hw hf1 hf2 hN h0
      have HB4 := Lib.hid (HB3.out.trans (hb.mono HB3.out.size))
      have HZ4 := Lib.hid ((hb.block _ (heap_ltQ HZ3.out)).trans HZ3.out)
      clear hb
      have hy := (HB4.out.block _ (by have := HSZ.out; omega)).trans HY0.out
      obtain ⟨⟨p0, p1, p2⟩, f3, f4, f5⟩ := cellsq hy
      obtain ⟨w9, e9, ⟨r0, r1, r2⟩, hk, hs, hbl, _⟩ := set3q hy (.int .i64 vN) (.slice va1 vn1 vc1) (.slice va2 vn2 vc2)
      have HE9 := Lib.hid e9
      have HR := Lib.hid (And.intro r0 (And.intro r1 r2))
      have HBE := Lib.hid (hbl W W.heap.size (by omega) (HBX.out.trans (HB4.out.mono HBX.out.size)))
      have HWC : Hid (WC w9 (.agg #[.int .i64 vN, .slice va1 vn1 vc1, .slice va2 vn2 vc2]) _) := Lib.hid (HWv4.out.other hk hs HFv.out.1 HFv.out.2)
      clear hy e9 r0 r1 r2 hk hs hbl
      go_wp2
      rw [HE9.out]
      have r0 : w9.cell? _ = _ := HR.out.1
      have r1 : w9.cell? _ = _ := HR.out.2.1
      have r2 : w9.cell? _ = _ := HR.out.2.2
      refine bodyPost_ret (v := .tuple #[.bool false, .slice none 0 0, .agg #[.int .i64 vN, .slice va1 vn1 vc1, .slice va2 vn2 vc2]]) (by simp [results, Tryd.results33, go_sem, r0, r1, r2]) rfl ?_
      exact ⟨none, 0, 0, _, _, _, _, _, _, _, rfl, RK.nil, HWC.out, HBE.out⟩
  · rw [hd] at hcf
    have HCF := Lib.hid hcf
    obtain ⟨kn, rn, rfl, rfl, hI, h256⟩ := faultD_none hd
    have HI := Lib.hid hI
    have HT256 : Hid (T ≤ 256) := by show _ ≤ _; rw [HLT.out]; exact h256
    have hke : ((kn : Int) == 1) = true := by rw [hk1e]; rfl
    have hkg : ¬ (1 : Int) < (kn : Int) := by omega
    obtain ⟨mn, rfl⟩ : ∃ mn : Nat, m = (mn : Int) := ⟨m.toNat, by omega⟩
    clear hd hcf hI h256 hn hk1e
    go_enter Tryd.func33, Tryd.ntmps33
    obtain ⟨⟨x0, x1, x2⟩, y0, y1, y2⟩ := cellsq HP0.out
    rw [← HWB.out] at x0 x1 x2 y0 y1 y2
    go_wp2_with fail
    rw [HWB.out]
    clear x0 x1 x2 y0 y1 y2
    refine (HCF.out).mono ?_; rintro e w1 ⟨zN, za1, zn1, zc1, za2, zn2, zc2, rfl, hw, hf1, hf2, hN, h0, hb⟩
    obtain ⟨rfl, rfl, rfl, rfl, rfl, rfl, rfl⟩ := h0 rfl
    clear hw hf1 hf2 hN h0
    have HB1 := Lib.hid (HB0.out.trans (hb.mono HB0.out.size))
    clear hb
    go_wp2_with fail
    obtain ⟨g1, hg1⟩ : ∃ g1, w1.heap.size = g1 := ⟨_, rfl⟩
    obtain ⟨w2, hw⟩ : ∃ w2, w1.alloc (.cells #[.int .i64 0, .slice none 0 0, .slice none 0 0] 53) = w2 := ⟨_, rfl⟩
    have hb : Below w1.heap.size w1 w2 := by rw [← hw]; exact balloc (bnil w1) _
    have HZ2 : Hid (w2.heap[g1]? = some (.cells #[.int .i64 0, .slice none 0 0, .slice none 0 0] 53)) := by show _ = _; rw [← hw, ← hg1]; exact heap_alloc_new w1 _
    have HG1 : Hid (W.heap.size + 1 + 1 ≤ g1) := by show _ ≤ _; have := HSZ.out; have := HB1.out.size; omega
    rw [hw]
    simp only [hg1]
    clear hw hg1
    have HB2 := Lib.hid (HB1.out.trans (hb.mono HB1.out.size))
    clear hb
    obtain ⟨⟨q0, q1, q2⟩, f0, f1, f2⟩ := cellsq HZ2.out
    go_wp2_with fail
    clear q0 q1 q2 f0 f1 f2
    refine (refBadq 0 _ _ _ false rfl).mono ?_; rintro e w3 ⟨rfl, hb⟩
    have HB3 := Lib.hid (HB2.out.trans (hb.mono HB2.out.size))
    have HZ3 := Lib.hid ((hb.block _ (heap_ltQ HZ2.out)).trans HZ2.out)
    clear hb
    obtain ⟨⟨x0, x1, x2⟩, y0, y1, y2⟩ := cellsq ((HB3.out.block _ (heap_ltQ HP0.out)).trans HP0.out)
    have hy := (HB3.out.block _ (by have := HSZ.out; omega)).trans HY0.out
    obtain ⟨⟨p0, p1, p2⟩, f3, f4, f5⟩ := cellsq hy
    obtain ⟨w9, e9, ⟨r0, r1, r2⟩, hk, hs, hbl, _⟩ := set3q hy (.int .i64 0) (.slice none 0 0) (.slice none 0 0)
    have HE9 := Lib.hid e9
    have HR := Lib.hid (And.intro r0 (And.intro r1 r2))
    have HBE := Lib.hid (hbl W W.heap.size (by omega) (HBX.out.trans (HB3.out.mono HBX.out.size)))
    have HWC := Lib.hid (wc_none w9)
    clear hy e9 r0 r1 r2 hk hs hbl
    go_wp2
    rw [HE9.out]
    have r0 : w9.cell? _ = _ := HR.out.1
    have r1 : w9.cell? _ = _ := HR.out.2.1
    have r2 : w9.cell? _ = _ := HR.out.2.2
    refine bodyPost_ret (v := .tuple #[.bool true, .slice none 0 0, .agg #[.int .i64 0, .slice none 0 0, .slice none 0 0]]) (by simp [results, Tryd.results33, go_sem, r0, r1, r2]) rfl ?_
    exact ⟨none, 0, 0, _, _, _, _, _, _, _, rfl, RK.nil, HWC.out, HBE.out⟩
  · rw [hd] at hcf
    have HCF := Lib.hid hcf
    obtain ⟨kn, rn, rfl, rfl, hI, h256⟩ := faultD_none hd
    have HI := Lib.hid hI
    have HT256 : Hid (T ≤ 256) := by show _ ≤ _; rw [HLT.out]; exact h256
    have hk4 := hI.k4
    have hk0 := hI.k1
    have hr3 := hI.r3
    obtain ⟨mn, rfl⟩ : ∃ mn : Nat, m = (mn : Int) := ⟨m.toNat, by omega⟩
    have hkg : (1 : Int) < (kn : Int) := by omega
    have hke : ((kn : Int) == 1) = false := by rw [beq_eq_false_iff_ne]; omega
    have hkn2 : 2 ≤ kn := by omega
    simp only [Int.toNat_natCast] at *
    have hm12 : mn ≤ 12 := pow12 hkn2 hsm
    have HALL := Lib.hid hall
    clear hd hcf h256 hn hk1 hall
    have hPb : kn ^ mn ≤ 1000000000000 := by omega
    have hPW := fun V => refPower_any kn mn (mn : Int) V rfl hk0 (by omega) (by omega) hPb
    obtain ⟨P, hP⟩ : ∃ P, kn ^ mn = P := ⟨_, rfl⟩
    have HPE := Lib.hid hP
    rw [hP] at hPW hsm hPb HALL
    have HPW := Lib.hid hPW
    obtain ⟨N, hN⟩ : ∃ N, kn ^ (2 * rn) = N := ⟨_, rfl⟩
    have hnod := hI.nodes HLT.out
    have hCN := fun V => refCount_any kn rn a T c V hk0 hk4 hr3
    rw [hN] at hnod hCN HALL
    have HNN := Lib.hid hN
    have HND := Lib.hid hnod
    have HCN := Lib.hid hCN
    have hN256 : N ≤ 256 := by have h1 : N * 1 ≤ N * kn := Nat.mul_le_mul_left _ hk0; have h2 := hnod.1; have h3 := HT256.out; omega
    have hw64 : IntKind.u64.wrap (N : Int) = (N : Int) := u64_same (by omega)
    clear hPW hP hN hnod hCN hI
    go_enter Tryd.func33, Tryd.ntmps33
    obtain ⟨⟨x0, x1, x2⟩, y0, y1, y2⟩ := cellsq HP0.out
    rw [← HWB.out] at x0 x1 x2 y0 y1 y2
    go_wp2_with fail
    rw [HWB.out]
    clear x0 x1 x2 y0 y1 y2
    refine (HCF.out).mono ?_; rintro e w1 ⟨zN, za1, zn1, zc1, za2, zn2, zc2, rfl, hw, hf1, hf2, hN, h0, hb⟩
    obtain ⟨rfl, rfl, rfl, rfl, rfl, rfl, rfl⟩ := h0 rfl
    clear hw hf1 hf2 hN h0
    have HB1 := Lib.hid (HB0.out.trans (hb.mono HB0.out.size))
    clear hb
    go_wp2_with fail
    obtain ⟨g1, hg1⟩ : ∃ g1, w1.heap.size = g1 := ⟨_, rfl⟩
    obtain ⟨w2, hw⟩ : ∃ w2, w1.alloc (.cells #[.int .i64 0, .slice none 0 0, .slice none 0 0] 53) = w2 := ⟨_, rfl⟩
    have hb : Below w1.heap.size w1 w2 := by rw [← hw]; exact balloc (bnil w1) _
    have HZ2 : Hid (w2.heap[g1]? = some (.cells #[.int .i64 0, .slice none 0 0, .slice none 0 0] 53)) := by show _ = _; rw [← hw, ← hg1]; exact heap_alloc_new w1 _
    have HG1 : Hid (W.heap.size + 1 + 1 ≤ g1) := by show _ ≤ _; have := HSZ.out; have := HB1.out.size; omega
    rw [hw]
    simp only [hg1]
    clear hw hg1
    have HB2 := Lib.hid (HB1.out.trans (hb.mono HB1.out.size))
    clear hb
    obtain ⟨⟨q0, q1, q2⟩, f0, f1, f2⟩ := cellsq HZ2.out
    go_wp2_with fail
    clear q0 q1 q2 f0 f1 f2
    refine (refBadq 0 _ _ _ false rfl).mono ?_; rintro e w3 ⟨rfl, hb⟩
    have HB3 := Lib.hid (HB2.out.trans (hb.mono HB2.out.size))
    have HZ3 := Lib.hid ((hb.block _ (heap_ltQ HZ2.out)).trans HZ2.out)
    clear hb
    obtain ⟨⟨x0, x1, x2⟩, y0, y1, y2⟩ := cellsq ((HB3.out.block _ (heap_ltQ HP0.out)).trans HP0.out)
    go_wp2_with fail
    clear x0 x1 x2 y0 y1 y2
    refine (HPW.out _).mono ?_; rintro e w' ⟨rfl, rfl⟩
    obtain ⟨⟨x0, x1, x2⟩, y0, y1, y2⟩ := cellsq ((HB3.out.block _ (heap_ltQ HP0.out)).trans HP0.out)
    go_wp2_with fail
    clear x0 x1 x2 y0 y1 y2
    refine (HCN.out _).mono ?_; rintro e w4 ⟨rfl, hb⟩
    have HB4 := Lib.hid (HB3.out.trans (hb.mono HB3.out.size))
    have HZ4 := Lib.hid ((hb.block _ (heap_ltQ HZ3.out)).trans HZ3.out)
    clear hb
    go_wp2_with fail
    refine (from16 N _ (by omega)).mono ?_; rintro e w5 ⟨ash, nsh, csh, rfl, ho, hb⟩
    have hns := nr_of_own ho
    have hnm := (owns_slice ho).choose_spec
    have hnsm : nsh ≤ maxLen := by obtain ⟨_, _, e, h1, h2⟩ := owns_slice ho; cases e; exact Nat.le_trans h1 h2
    have HSH := Lib.hid hns
    clear ho hns hnm
    have HB5 := Lib.hid (HB4.out.trans (hb.mono HB4.out.size))
    have HZ5 := Lib.hid ((hb.block _ (heap_ltQ HZ4.out)).trans HZ4.out)
    clear hb
    go_wp2_with fail
    go_loopw [9] (fun xx wr => ∃ x : Nat, x ≤ P ∧ xx = .int .i64 x ∧ Below w0.heap.size w0 wr ∧ NR wr ash nsh (limbs N)) (fun xx _ => P - (intOf xx).toNat)
    case atStart => exact ⟨0, by omega, rfl, HB5.out, HSH.out⟩
    case round =>
      clear HSH
      obtain ⟨x, hx, rfl, hb, hsh⟩ := hrel
      generalize wr = w6 at *
      have HB6 := Lib.hid hb
      have HSH := Lib.hid hsh
      clear hb hsh
      obtain ⟨⟨x0, x1, x2⟩, y0, y1, y2⟩ := cellsq ((HB6.out.block _ (heap_ltQ HP0.out)).trans HP0.out)
      by_cases hxp : x < P
      · go_wp2_with fail
        refine (HPW.out _).mono ?_; rintro e w' ⟨rfl, rfl⟩
        go_wp2_with fail
        refine (refDigits_any kn mn x _ w6 rfl hk0 hk4 (by omega) (by omega) (by rw [HPE.out]; exact hxp)).mono ?_; rintro e w7 ⟨rfl, ho, hb⟩
        have HDW : Hid (RK .i64 w7 (some ⟨w6.heap.size, 0, none⟩) mn (digsF kn mn x)) := RK.of_own ho
        have HS7 := Lib.hid (HSH.out.up hb)
        clear ho
        clear x0 x1 x2 y0 y1 y2
        have HB7 := Lib.hid (HB6.out.trans (hb.mono HB6.out.size))
        clear hb
        obtain ⟨⟨x0, x1, x2⟩, y0, y1, y2⟩ := cellsq ((HB7.out.block _ (heap_ltQ HP0.out)).trans HP0.out)
        go_wp2_with fail
        clear x0 x1 x2 y0 y1 y2
        refine (of_any kn rn N a _ T c mn _ tb (digsF kn mn x) w7 (HT.out.up HB7.out) HI.out HT256.out HNN.out.symm HDW.out (by omega)).mono ?_; rintro e w8 ⟨a7, n7, c7, rfl, ho, hb⟩
        have hsd : sumTo N (fwd kn N (pL kn rn tb (digsF kn mn x)) (fun _ => 1) mn) = wordsC kn N tb (digsF kn mn x) := by
          rw [pL_word fun z hz => (digsF_mem hk0 mn x (by rw [HPE.out]; exact hxp) z hz).1]
          have q := fwd_words (k := kn) (N := N) (by omega) HND.out.2.1 tb (digsF kn mn x)
          rwa [digsF_len] at q
        rw [hsd] at ho
        obtain ⟨V, hV⟩ : ∃ V, wordsC kn N tb (digsF kn mn x) = V := ⟨_, rfl⟩
        rw [hV] at ho
        have HVV := Lib.hid hV
        have h7 := nr_of_own ho
        have hn7 : n7 ≤ maxLen := by obtain ⟨_, _, e, h1, h2⟩ := owns_slice ho; cases e; exact Nat.le_trans h1 h2
        have H7 := Lib.hid h7
        have HS8 := Lib.hid (HS7.out.up hb)
        have HDW := Lib.hid (HDW.out.up hb)
        clear ho hsd hV h7
        have HB8 := Lib.hid (HB7.out.trans (hb.mono HB7.out.size))
        clear hb
        go_wp2_with fail
        refine (natsD_any a7 ash n7 nsh c7 csh V N w8 H7.out HS8.out hn7 hnsm).mono ?_; rintro e w9 ⟨rfl, hb⟩
        have HS9 := Lib.hid (HS8.out.up hb)
        have HDW := Lib.hid (HDW.out.up hb)
        have HB9 := Lib.hid (HB8.out.trans (hb.mono HB8.out.size))
        clear hb
        have hde : decide (V = N) = true := decide_eq_true (HVV.out.symm.trans (HALL.out x (by exact hxp)))
        simp only [hde]
        go_wp2
        go_roundw
        case rel => exact ⟨x + 1, by omega, by go_num, HB9.out, HS9.out⟩
        case measure => simp [intOf]; omega
      · obtain rfl : x = P := by omega
        go_wp2_with fail
        refine (HPW.out _).mono ?_; rintro e w' ⟨rfl, rfl⟩
        have hy := (HB6.out.block _ (by have := HSZ.out; omega)).trans HY0.out
        obtain ⟨⟨p0, p1, p2⟩, f3, f4, f5⟩ := cellsq hy
        obtain ⟨w9, e9, ⟨r0, r1, r2⟩, hk, hs, hbl, _⟩ := set3q hy (.int .i64 0) (.slice none 0 0) (.slice none 0 0)
        have HE9 := Lib.hid e9
        have HR := Lib.hid (And.intro r0 (And.intro r1 r2))
        have HBE := Lib.hid (hbl W W.heap.size (by omega) (HBX.out.trans (HB6.out.mono HBX.out.size)))
        have HWC := Lib.hid (wc_none w9)
        clear hy e9 r0 r1 r2 hk hs hbl
        go_wp2
        rw [HE9.out]
        have r0 : w9.cell? _ = _ := HR.out.1
        have r1 : w9.cell? _ = _ := HR.out.2.1
        have r2 : w9.cell? _ = _ := HR.out.2.2
        refine bodyPost_ret (v := .tuple #[.bool true, .slice none 0 0, .agg #[.int .i64 0, .slice none 0 0, .slice none 0 0]]) (by simp [results, Tryd.results33, go_sem, r0, r1, r2]) rfl ?_
        exact ⟨none, 0, 0, _, _, _, _, _, _, _, rfl, RK.nil, HWC.out, HBE.out⟩
  · rw [hd] at hcf
    have HCF := Lib.hid hcf
    obtain ⟨kn, rn, rfl, rfl, hI, h256⟩ := faultD_none hd
    have HI := Lib.hid hI
    have HT256 : Hid (T ≤ 256) := by show _ ≤ _; rw [HLT.out]; exact h256
    have hk4 := hI.k4
    have hk0 := hI.k1
    have hr3 := hI.r3
    obtain ⟨mn, rfl⟩ : ∃ mn : Nat, m = (mn : Int) := ⟨m.toNat, by omega⟩
    have hkg : (1 : Int) < (kn : Int) := by omega
    have hke : ((kn : Int) == 1) = false := by rw [beq_eq_false_iff_ne]; omega
    have hkn2 : 2 ≤ kn := by omega
    simp only [Int.toNat_natCast] at *
    have hm12 : mn ≤ 12 := pow12 hkn2 hsm
    have HALL := Lib.hid hall
    have HNE := Lib.hid hne
    have HI0 := Lib.hid hi0
    clear hd hcf h256 hn hk1 hall hne hi0
    have hPb : kn ^ mn ≤ 1000000000000 := by omega
    have hPW := fun V => refPower_any kn mn (mn : Int) V rfl hk0 (by omega) (by omega) hPb
    obtain ⟨P, hP⟩ : ∃ P, kn ^ mn = P := ⟨_, rfl⟩
    have HPE := Lib.hid hP
    rw [hP] at hPW hsm hPb HI0
    have HPW := Lib.hid hPW
    obtain ⟨N, hN⟩ : ∃ N, kn ^ (2 * rn) = N := ⟨_, rfl⟩
    have hnod := hI.nodes HLT.out
    have hCN := fun V => refCount_any kn rn a T c V hk0 hk4 hr3
    rw [hN] at hnod hCN HALL HNE
    have HNN := Lib.hid hN
    have HND := Lib.hid hnod
    have HCN := Lib.hid hCN
    have hN256 : N ≤ 256 := by have h1 : N * 1 ≤ N * kn := Nat.mul_le_mul_left _ hk0; have h2 := hnod.1; have h3 := HT256.out; omega
    have hw64 : IntKind.u64.wrap (N : Int) = (N : Int) := u64_same (by omega)
    clear hPW hP hN hnod hCN hI
    go_enter Tryd.func33, Tryd.ntmps33
    obtain ⟨⟨x0, x1, x2⟩, y0, y1, y2⟩ := cellsq HP0.out
    rw [← HWB.out] at x0 x1 x2 y0 y1 y2
    go_wp2_with fail
    rw [HWB.out]
    clear x0 x1 x2 y0 y1 y2
    refine (HCF.out).mono ?_; rintro e w1 ⟨zN, za1, zn1, zc1, za2, zn2, zc2, rfl, hw, hf1, hf2, hN, h0, hb⟩
    obtain ⟨rfl, rfl, rfl, rfl, rfl, rfl, rfl⟩ := h0 rfl
    clear hw hf1 hf2 hN h0
    have HB1 := Lib.hid (HB0.out.trans (hb.mono HB0.out.size))
    clear hb
    go_wp2_with fail
    obtain ⟨g1, hg1⟩ : ∃ g1, w1.heap.size = g1 := ⟨_, rfl⟩
    obtain ⟨w2, hw⟩ : ∃ w2, w1.alloc (.cells #[.int .i64 0, .slice none 0 0, .slice none 0 0] 53) = w2 := ⟨_, rfl⟩
    have hb : Below w1.heap.size w1 w2 := by rw [← hw]; exact balloc (bnil w1) _
    have HZ2 : Hid (w2.heap[g1]? = some (.cells #[.int .i64 0, .slice none 0 0, .slice none 0 0] 53)) := by show _ = _; rw [← hw, ← hg1]; exact heap_alloc_new w1 _
    have HG1 : Hid (W.heap.size + 1 + 1 ≤ g1) := by show _ ≤ _; have := HSZ.out; have := HB1.out.size; omega
    rw [hw]
    simp only [hg1]
    clear hw hg1
    have HB2 := Lib.hid (HB1.out.trans (hb.mono HB1.out.size))
    clear hb
    obtain ⟨⟨q0, q1, q2⟩, f0, f1, f2⟩ := cellsq HZ2.out
    go_wp2_with fail
    clear q0 q1 q2 f0 f1 f2
    refine (refBadq 0 _ _ _ false rfl).mono ?_; rintro e w3 ⟨rfl, hb⟩
    have HB3 := Lib.hid (HB2.out.trans (hb.mono HB2.out.size))
    have HZ3 := Lib.hid ((hb.block _ (heap_ltQ HZ2.out)).trans HZ2.out)
    clear hb
    obtain ⟨⟨x0, x1, x2⟩, y0, y1, y2⟩ := cellsq ((HB3.out.block _ (heap_ltQ HP0.out)).trans HP0.out)
    go_wp2_with fail
    clear x0 x1 x2 y0 y1 y2
    refine (HPW.out _).mono ?_; rintro e w' ⟨rfl, rfl⟩
    obtain ⟨⟨x0, x1, x2⟩, y0, y1, y2⟩ := cellsq ((HB3.out.block _ (heap_ltQ HP0.out)).trans HP0.out)
    go_wp2_with fail
    clear x0 x1 x2 y0 y1 y2
    refine (HCN.out _).mono ?_; rintro e w4 ⟨rfl, hb⟩
    have HB4 := Lib.hid (HB3.out.trans (hb.mono HB3.out.size))
    have HZ4 := Lib.hid ((hb.block _ (heap_ltQ HZ3.out)).trans HZ3.out)
    clear hb
    go_wp2_with fail
    refine (from16 N _ (by omega)).mono ?_; rintro e w5 ⟨ash, nsh, csh, rfl, ho, hb⟩
    have hns := nr_of_own ho
    have hnm := (owns_slice ho).choose_spec
    have hnsm : nsh ≤ maxLen := by obtain ⟨_, _, e, h1, h2⟩ := owns_slice ho; cases e; exact Nat.le_trans h1 h2
    have HSH := Lib.hid hns
    clear ho hns hnm
    have HB5 := Lib.hid (HB4.out.trans (hb.mono HB4.out.size))
    have HZ5 := Lib.hid ((hb.block _ (heap_ltQ HZ4.out)).trans HZ4.out)
    clear hb
    go_wp2_with fail
    go_loopw [9] (fun xx wr => ∃ x : Nat, x ≤ i0 ∧ xx = .int .i64 x ∧ Below w0.heap.size w0 wr ∧ NR wr ash nsh (limbs N)) (fun xx _ => P - (intOf xx).toNat)
    case atStart => exact ⟨0, by omega, rfl, HB5.out, HSH.out⟩
    case round =>
      clear HSH
      obtain ⟨x, hx, rfl, hb, hsh⟩ := hrel
      generalize wr = w6 at *
      have HB6 := Lib.hid hb
      have HSH := Lib.hid hsh
      clear hb hsh
      obtain ⟨⟨x0, x1, x2⟩, y0, y1, y2⟩ := cellsq ((HB6.out.block _ (heap_ltQ HP0.out)).trans HP0.out)
      by_cases hxp : x < P
      · go_wp2_with fail
        refine (HPW.out _).mono ?_; rintro e w' ⟨rfl, rfl⟩
        go_wp2_with fail
        refine (refDigits_any kn mn x _ w6 rfl hk0 hk4 (by omega) (by omega) (by rw [HPE.out]; exact hxp)).mono ?_; rintro e w7 ⟨rfl, ho, hb⟩
        have HDW : Hid (RK .i64 w7 (some ⟨w6.heap.size, 0, none⟩) mn (digsF kn mn x)) := RK.of_own ho
        have HS7 := Lib.hid (HSH.out.up hb)
        clear ho
        clear x0 x1 x2 y0 y1 y2
        have HB7 := Lib.hid (HB6.out.trans (hb.mono HB6.out.size))
        clear hb
        obtain ⟨⟨x0, x1, x2⟩, y0, y1, y2⟩ := cellsq ((HB7.out.block _ (heap_ltQ HP0.out)).trans HP0.out)
        go_wp2_with fail
        clear x0 x1 x2 y0 y1 y2
        refine (of_any kn rn N a _ T c mn _ tb (digsF kn mn x) w7 (HT.out.up HB7.out) HI.out HT256.out HNN.out.symm HDW.out (by omega)).mono ?_; rintro e w8 ⟨a7, n7, c7, rfl, ho, hb⟩
        have hsd : sumTo N (fwd kn N (pL kn rn tb (digsF kn mn x)) (fun _ => 1) mn) = wordsC kn N tb (digsF kn mn x) := by
          rw [pL_word fun z hz => (digsF_mem hk0 mn x (by rw [HPE.out]; exact hxp) z hz).1]
          have q := fwd_words (k := kn) (N := N) (by omega) HND.out.2.1 tb (digsF kn mn x)
          rwa [digsF_len] at q
        rw [hsd] at ho
        obtain ⟨V, hV⟩ : ∃ V, wordsC kn N tb (digsF kn mn x) = V := ⟨_, rfl⟩
        rw [hV] at ho
        have HVV := Lib.hid hV
        have h7 := nr_of_own ho
        have hn7 : n7 ≤ maxLen := by obtain ⟨_, _, e, h1, h2⟩ := owns_slice ho; cases e; exact Nat.le_trans h1 h2
        have H7 := Lib.hid h7
        have HS8 := Lib.hid (HS7.out.up hb)
        have HDW := Lib.hid (HDW.out.up hb)
        clear ho hsd hV h7
        have HB8 := Lib.hid (HB7.out.trans (hb.mono HB7.out.size))
        clear hb
        go_wp2_with fail
        refine (natsD_any a7 ash n7 nsh c7 csh V N w8 H7.out HS8.out hn7 hnsm).mono ?_; rintro e w9 ⟨rfl, hb⟩
        have HS9 := Lib.hid (HS8.out.up hb)
        have HDW := Lib.hid (HDW.out.up hb)
        have HB9 := Lib.hid (HB8.out.trans (hb.mono HB8.out.size))
        clear hb
        by_cases hxi : x = i0
        · subst hxi
          have hde : decide (V = N) = false := decide_eq_false (by rw [← HVV.out]; exact HNE.out)
          simp only [hde]
          have hy := (HB9.out.block _ (by have := HSZ.out; omega)).trans HY0.out
          obtain ⟨⟨p0, p1, p2⟩, f3, f4, f5⟩ := cellsq hy
          obtain ⟨w9, e9, ⟨r0, r1, r2⟩, hk, hs, hbl, _⟩ := set3q hy (.int .i64 0) (.slice none 0 0) (.slice none 0 0)
          have HE9 := Lib.hid e9
          have HR := Lib.hid (And.intro r0 (And.intro r1 r2))
          have HBE := Lib.hid (hbl W W.heap.size (by omega) (HBX.out.trans (HB9.out.mono HBX.out.size)))
          have HWC := Lib.hid (wc_none w9)
          have HDF := Lib.hid (rk_of_heap HDW.out (hk _ (by have := HSZ.out; have := HB6.out.size; omega)) (by omega))
          clear hy e9 r0 r1 r2 hk hs hbl
          go_wp2
          rw [HE9.out]
          have r0 : w9.cell? _ = _ := HR.out.1
          have r1 : w9.cell? _ = _ := HR.out.2.1
          have r2 : w9.cell? _ = _ := HR.out.2.2
          refine bodyPost_ret (v := .tuple #[.bool false, .slice (some ⟨w6.heap.size, 0, none⟩) mn mn, .agg #[.int .i64 0, .slice none 0 0, .slice none 0 0]]) (by simp [results, Tryd.results33, go_sem, r0, r1, r2]) rfl ?_
          exact ⟨_, _, _, 0, none, 0, 0, none, 0, 0, rfl, HDF.out, HWC.out, HBE.out⟩
        · skip
          have hde : decide (V = N) = true := decide_eq_true (HVV.out.symm.trans (HALL.out x (by omega)))
          simp only [hde]
          go_wp2
          go_roundw
          case rel => exact ⟨x + 1, by omega, by go_num, HB9.out, HS9.out⟩
          case measure => simp [intOf]; omega
      · exact absurd HI0.out (by omega)
end Go.Proofs.YteneiianpghalaaDoor
namespace Go.Proofs.YteneiianpghalaaDoor
open Go.RowKit
set_option linter.unusedVariables false
set_option maxRecDepth 100000

instance monoEnvV {R : Nat → Addr} : Mono (fun w => Env w R) := ⟨⟨fun hb h => h.up hb⟩⟩
instance monoECV {R : Nat → Addr} {v : Value} {f : ErrD} : Mono (fun w => EC R w v f) := ⟨⟨fun hb h => h.up hb⟩⟩
instance monoWCV {x : Value} {f : ErrD} : Mono (fun w => WC w x f) := ⟨⟨fun hb h => h.up hb⟩⟩
instance monoNRV {a : Option Addr} {n : Nat} {l : List Nat} : Mono (fun w => NR w a n l) := ⟨⟨fun hb h => h.up hb⟩⟩
instance monoRKV {k : IntKind} {a : Option Addr} {n : Nat} {l : List Int} : Mono (fun w => RK k w a n l) := ⟨⟨fun hb h => h.up hb⟩⟩
instance monoWUV {a : Option Addr} {n c : Nat} {l : List Int} : Mono (fun w => WordAtU w a n c l) := ⟨⟨fun hb h => h.up hb⟩⟩
instance monoOwNV {b : Nat} {p : It} {l : List Nat} : Mono (fun w => OwN w b p l) := ⟨⟨fun hb h => h.up hb⟩⟩
instance monoNVV {a : Option Addr} {n c x : Nat} : Mono (fun w => NV w a n c x) := ⟨⟨fun hb h => h.up hb⟩⟩
theorem cnw {w : World} {g j : Nat} {cs : Array Value} {t : TypeId} {v : Value} (hg : g = w.heap.size) (hv : cs[j]? = some v) : (w.alloc (.cells cs t)).cell? ⟨g, j, none⟩ = some v := cell_at_new rfl hg hv
theorem al000 {w : World} {a : Addr} {v : Value} {o : Obj} (h : w.cell? a = some v) : (w.alloc o).cell? a = some v := al16 h
theorem fair_len {k r m : Int} {tb l : List Int} {yes : Bool} {f : ErrD} (h : FairE k r tb m yes l f) : l.length ≤ 12 := by
  rcases h with ⟨y, _, _, _, rfl⟩ | ⟨_, _, _, _, rfl⟩ | ⟨_, _, _, _, _, _, rfl⟩ | ⟨_, _, _, _, _, rfl⟩ | ⟨_, _, _, _, _, _, rfl, _⟩ | ⟨hd, hn, hk1, hsm, _, _, i, _, rfl, _⟩
  · exact Nat.zero_le _
  · exact Nat.zero_le _
  · exact Nat.zero_le _
  · exact Nat.zero_le _
  · exact Nat.zero_le _
  · rw [digsF_len]
    obtain ⟨kn, rn, rfl, rfl, hI, _⟩ := faultD_none hd
    have := hI.k1
    exact pow12 (by simp only [Int.toNat_natCast]; omega) hsm
theorem fair_more {k r m : Int} {tb : List Int} {l : List Int} {f : ErrD} (hd : faultD opCount k r tb = none) (hn : 0 < m) (hk1 : k ≠ 1) (hsm : k.toNat ^ m.toNat ≤ 4096) (hall : FairTo k.toNat (k.toNat ^ (2 * r.toNat)) tb m.toNat (k.toNat ^ m.toNat)) : FairE k r tb (m - 1) true [] none := by
  obtain ⟨kn, rn, rfl, rfl, hI, _⟩ := faultD_none hd
  have k1 := hI.k1
  simp only [Int.toNat_natCast] at *
  obtain ⟨j, hj⟩ : ∃ j : Nat, m.toNat = j + 1 := ⟨m.toNat - 1, by omega⟩
  have hj2 : (m - 1).toNat = j := by omega
  have hN : 0 < kn ^ (2 * rn) := Nat.pow_pos k1
  refine .inr (.inr (.inr (.inr (.inl ⟨hd, by omega, hk1, ?_, rfl, rfl, rfl, ?_⟩))))
  · rw [hj2, Int.toNat_natCast]
    rw [hj] at hsm
    exact Nat.le_trans (Nat.pow_le_pow_right k1 (Nat.le_succ j)) hsm
  · rw [hj2, Int.toNat_natCast, Int.toNat_natCast]
    rw [hj] at hall
    refine fair_less k1 hN (fun w hw => ?_) hall
    have hl : tb.length = kn ^ (2 * rn) * kn := by rw [hI.len, Nat.pow_succ]
    have := hI.sym (tb.getD w 0) (by simp [show w < tb.length by omega])
    exact this

set_option maxHeartbeats 16000000 in
theorem count_fairs (k r m0 : Int) (a : Option Addr) (n c : Nat) (l0 : List Int) (W : World) (R : Nat → Addr) (hE : Env W R) (hR : RK .i64 W a n l0) (hnc : n ≤ c) (hcm : c ≤ maxLen) :
    Calls Tryd.prog 7 #[ruleV k r a n c, .int .i64 m0] W (TrueBelow W) := by
  have hnm : n ≤ maxLen := Nat.le_trans hnc hcm
  have hnm' : n ≤ 9223372036854775807 := hnm
  have HLEN := Lib.hid hR.len
  have T0 := Tk.nil W
  have T1 := T0.add (fun wv => Below W.heap.size W wv) (bnil W)
  clear T0
  have T2 := T1.add (fun wv => Env wv R) (hE)
  clear T1
  have T3 := T2.add (fun wv => RK .i64 wv a n l0) (hR)
  clear T2
  clear hE hR
  obtain ⟨Wb, hWb⟩ : ∃ Wb, W.alloc (.cells #[.int .i64 k, .int .i64 r, .slice a n c] 24) = Wb := ⟨_, rfl⟩
  have hbWb : Below W.heap.size W Wb := by rw [← hWb]; exact balloc (bnil W) _
  have T4 := T3.up hbWb
  clear T3
  have T5 := T4.add (fun wv => wv.cell? ⟨W.heap.size, 0, none⟩ = some (.int .i64 k) ∧ wv.cell? ⟨W.heap.size, 1, none⟩ = some (.int .i64 r) ∧ wv.cell? ⟨W.heap.size, 2, none⟩ = some (.slice a n c)) (by rw [← hWb]; exact ⟨cnw (by simp) rfl, cnw (by simp) rfl, cnw (by simp) rfl⟩)
  clear T4
  have HWb := Lib.hid hWb
  clear hWb hbWb
  go_enter Tryd.func7, Tryd.ntmps7
  go_wp2_with fail
  rw [HWb.out]
  refine (awake17 Wb R (T5.out.1.1.2).sent.glob).mono ?_; rintro e w0 ⟨rfl, hbw0⟩
  have T6 := T5.up hbw0
  clear T5
  have v_p0 : w0.cell? ⟨W.heap.size, 0, none⟩ = some (.int .i64 k) := T6.out.2.1
  have v_p1 : w0.cell? ⟨W.heap.size, 1, none⟩ = some (.int .i64 r) := T6.out.2.2.1
  have v_p2 : w0.cell? ⟨W.heap.size, 2, none⟩ = some (.slice a n c) := T6.out.2.2.2
  go_upto_region 3 with (fail)
  go_cut [31] from 18 (fun s31 wx => (∃ b : Bool, s31 = .bool b) ∧ wx = w0)
  case first =>
    by_cases h6 : 6 < m0
    · by_cases h13 : m0 < 13
      · by_cases h32 : (32 : Nat) < n
        · have h32I : (32 : Int) < (n : Int) := by omega
          go_wp2
          go_meet
          exact ⟨⟨_, rfl⟩, rfl⟩
        · have h32I : ¬ (32 : Int) < (n : Int) := by omega
          go_wp2
          go_meet
          exact ⟨⟨_, rfl⟩, rfl⟩
      · go_wp2
        go_meet
        exact ⟨⟨_, rfl⟩, rfl⟩
    · go_wp2
      go_meet
      exact ⟨⟨_, rfl⟩, rfl⟩
  case rest =>
    obtain ⟨⟨b31, rfl⟩, rfl⟩ := hcut
    clear v_p0 v_p1 v_p2
    generalize wc = w0 at *
    go_upto_if 31 with (fail)
    go_cut [1] from 18 (fun s1 wx => (∃ m : Int, s1 = .int .i64 m) ∧ wx = w0)
    case first =>
      cases b31
      · go_wp2
        go_meet
        exact ⟨⟨_, rfl⟩, rfl⟩
      · go_wp2
        go_meet
        exact ⟨⟨_, rfl⟩, rfl⟩
    case rest =>
      obtain ⟨⟨m, rfl⟩, rfl⟩ := hcut
      skip
      obtain ⟨yes, l, f, hf⟩ := fairE_or k r l0 m
      have HF := Lib.hid hf
      have hl12 := fair_len hf
      clear hf
      have v_p0 : wc.cell? ⟨W.heap.size, 0, none⟩ = some (.int .i64 k) := T6.out.2.1
      have v_p1 : wc.cell? ⟨W.heap.size, 1, none⟩ = some (.int .i64 r) := T6.out.2.2.1
      have v_p2 : wc.cell? ⟨W.heap.size, 2, none⟩ = some (.slice a n c) := T6.out.2.2.2
      go_wp2_with fail
      refine (pcFair k r m a n c l0 wc R (T6.out.1.1.2).sent (T6.out.1.1.2).sent.glob T6.out.1.2 hnc hcm yes l f HF.out).mono ?_; rintro e w1 ⟨a1, n1, c1, ev, rfl, hw1, he1, hbw1⟩
      clear v_p0 v_p1 v_p2
      have T7 := T6.up hbw1
      clear T6
      have T8 := T7.add (fun wv => WordAtU wv a1 n1 c1 l) (hw1)
      clear T7
      have T9 := T8.add (fun wv => EC R wv ev f) (he1)
      clear T8
      clear hw1 he1
      have v_p0 : w1.cell? ⟨W.heap.size, 0, none⟩ = some (.int .i64 k) := T9.out.1.1.2.1
      have v_p1 : w1.cell? ⟨W.heap.size, 1, none⟩ = some (.int .i64 r) := T9.out.1.1.2.2.1
      have v_p2 : w1.cell? ⟨W.heap.size, 2, none⟩ = some (.slice a n c) := T9.out.1.1.2.2.2
      go_wp2_with fail
      refine (refFair_any k r m a n c l0 w1 T9.out.1.1.1.2 hnm yes l f HF.out).mono ?_; rintro e w2 ⟨b1, m1, d1, N1, x1, u1, y1, x1', u1', y1', rfl, hl1, hv1, hbw2⟩
      clear v_p0 v_p1 v_p2
      have T10 := T9.up hbw2
      clear T9
      have T11 := T10.add (fun wv => RK .i64 wv b1 m1 l) (hl1)
      clear T10
      have T12 := T11.add (fun wv => WC wv (.agg #[.int .i64 N1, .slice x1 u1 y1, .slice x1' u1' y1']) f) (hv1)
      clear T11
      clear hl1 hv1
      obtain ⟨we, hwe⟩ : ∃ we, w2.alloc (.cells #[.int .i64 N1, .slice x1 u1 y1, .slice x1' u1' y1'] 53) = we := ⟨_, rfl⟩
      have hbwe : Below w2.heap.size w2 we := by rw [← hwe]; exact balloc (bnil w2) _
      have T13 := T12.up hbwe
      clear T12
      have T14 := T13.add (fun wv => wv.cell? ⟨w2.heap.size, 0, none⟩ = some (.int .i64 N1) ∧ wv.cell? ⟨w2.heap.size, 1, none⟩ = some (.slice x1 u1 y1) ∧ wv.cell? ⟨w2.heap.size, 2, none⟩ = some (.slice x1' u1' y1')) (by rw [← hwe]; exact ⟨cnw (by simp) rfl, cnw (by simp) rfl, cnw (by simp) rfl⟩)
      clear T13
      have Hwe := Lib.hid hwe
      clear hwe hbwe
      go_wp2_with fail
      rw [Hwe.out]
      refine (ints_eqB a1 b1 n1 m1 c1 d1 l we (T14.out.1.1.1.1.2).rk T14.out.1.1.2 (by unfold maxLen; omega)).mono ?_; rintro e wi ⟨rfl, hbwi⟩
      have T15 := T14.up hbwi
      clear T14
      have v_ex0 : wi.cell? ⟨w2.heap.size, 0, none⟩ = some (.int .i64 N1) := T15.out.2.1
      have v_ex1 : wi.cell? ⟨w2.heap.size, 1, none⟩ = some (.slice x1 u1 y1) := T15.out.2.2.1
      have v_ex2 : wi.cell? ⟨w2.heap.size, 2, none⟩ = some (.slice x1' u1' y1') := T15.out.2.2.2
      go_wp2_with fail
      refine (rawIs_ch ev _ f wi R T15.out.1.1.1.1.1.1.1.2 T15.out.1.1.1.2 T15.out.1.2).mono ?_; rintro e wj ⟨rfl, hbwj⟩
      clear v_ex0 v_ex1 v_ex2
      have T16 := T15.up hbwj
      clear T15
      have HC := Lib.hid (T16.out.1.1.1.2)
      rcases HF.out with ⟨y, hd, rfl, rfl, rfl⟩ | ⟨hd, hn, rfl, rfl, rfl⟩ | ⟨hd, hn, hk1, hbig, rfl, rfl, rfl⟩ | ⟨hd, hn, hk1e, rfl, rfl, rfl⟩ | ⟨hd, hn, hk1, hsm, rfl, rfl, rfl, hall⟩ | ⟨hd, hn, hk1, hsm, rfl, rfl, i0, hi0, rfl, hall, hne⟩
      · skip
        obtain ⟨t9, p9, rfl⟩ := Chain.iface HC.out
        clear HF hd
        go_wp2
        go_ret
        exact ⟨rfl, T16.out.1.1.1.1.1.1.1.1.2⟩
      · skip
        obtain ⟨t9, p9, rfl⟩ := Chain.iface HC.out
        clear HF hd hn
        go_wp2
        go_ret
        exact ⟨rfl, T16.out.1.1.1.1.1.1.1.1.2⟩
      · skip
        obtain ⟨t9, p9, rfl⟩ := Chain.iface HC.out
        clear HF hd hn hk1 hbig
        go_wp2
        go_ret
        exact ⟨rfl, T16.out.1.1.1.1.1.1.1.1.2⟩
      · skip
        obtain rfl : ev = .nilIface := HC.out
        obtain ⟨kn, rn, rfl, rfl, hI, h256⟩ := faultD_none hd
        rw [← HLEN.out] at h256
        have HI := Lib.hid hI
        have hnod := hI.nodes HLEN.out
        obtain ⟨N, hN⟩ : ∃ N, kn ^ (2 * rn) = N := ⟨_, rfl⟩
        rw [hN] at hnod
        have HNK := Lib.hid hnod.1
        have hk0 := hI.k1
        have hk4 := hI.k4
        have hN0 := hnod.2.1
        have hNle : N ≤ 256 := by
          have h1 : N * 1 ≤ N * kn := Nat.mul_le_mul_left _ hk0
          have h2 := hnod.1
          omega
        have HNN := Lib.hid hN
        clear hnod hI hN
        have hke : ((kn : Int) == 1) = true := by rw [hk1e]; rfl
        clear HF hd hn hk1e
        have v_p0 : wj.cell? ⟨W.heap.size, 0, none⟩ = some (.int .i64 (kn : Int)) := T16.out.1.1.1.1.1.2.1
        have v_p1 : wj.cell? ⟨W.heap.size, 1, none⟩ = some (.int .i64 (rn : Int)) := T16.out.1.1.1.1.1.2.2.1
        have v_p2 : wj.cell? ⟨W.heap.size, 2, none⟩ = some (.slice a n c) := T16.out.1.1.1.1.1.2.2.2
        go_wp2_with fail
        refine (Nodes_ok kn rn N a n c l0 wj T16.out.1.1.1.1.1.1.2 HI.out h256 HNK.out).mono ?_; rintro e wn ⟨rfl, hbwn⟩
        clear v_p0 v_p1 v_p2
        have T17 := T16.up hbwn
        clear T16
        have v_p0 : wn.cell? ⟨W.heap.size, 0, none⟩ = some (.int .i64 (kn : Int)) := T17.out.1.1.1.1.1.2.1
        have v_p1 : wn.cell? ⟨W.heap.size, 1, none⟩ = some (.int .i64 (rn : Int)) := T17.out.1.1.1.1.1.2.2.1
        have v_p2 : wn.cell? ⟨W.heap.size, 2, none⟩ = some (.slice a n c) := T17.out.1.1.1.1.1.2.2.2
        by_cases hm0 : m = 0
        · skip
          subst hm0
          go_wp2
          go_ret
          exact ⟨rfl, T17.out.1.1.1.1.1.1.1.1.2⟩
        · skip
          have hmz : (m == 0) = false := by simpa using hm0
          go_wp2
          go_ret
          exact ⟨rfl, T17.out.1.1.1.1.1.1.1.1.2⟩
      · skip
        obtain rfl : ev = .nilIface := HC.out
        obtain ⟨kn, rn, rfl, rfl, hI, h256⟩ := faultD_none hd
        rw [← HLEN.out] at h256
        have HI := Lib.hid hI
        have hnod := hI.nodes HLEN.out
        obtain ⟨N, hN⟩ : ∃ N, kn ^ (2 * rn) = N := ⟨_, rfl⟩
        rw [hN] at hnod
        have HNK := Lib.hid hnod.1
        have hk0 := hI.k1
        have hk4 := hI.k4
        have hN0 := hnod.2.1
        have hNle : N ≤ 256 := by
          have h1 : N * 1 ≤ N * kn := Nat.mul_le_mul_left _ hk0
          have h2 := hnod.1
          omega
        have HNN := Lib.hid hN
        clear hnod hI hN
        have hke : ((kn : Int) == 1) = false := by rw [beq_eq_false_iff_ne]; omega
        have hm12 : m ≤ 12 := by
          have := pow12 (k := (kn : Int).toNat) (by rw [Int.toNat_natCast]; omega) hsm
          omega
        have HFM : Hid (0 < m → FairE kn rn l0 (m - 1) true [] none) := fun h => fair_more (l := []) (f := none) hd h hk1 hsm hall
        clear HF hd hk1 hsm hall
        have v_p0 : wj.cell? ⟨W.heap.size, 0, none⟩ = some (.int .i64 (kn : Int)) := T16.out.1.1.1.1.1.2.1
        have v_p1 : wj.cell? ⟨W.heap.size, 1, none⟩ = some (.int .i64 (rn : Int)) := T16.out.1.1.1.1.1.2.2.1
        have v_p2 : wj.cell? ⟨W.heap.size, 2, none⟩ = some (.slice a n c) := T16.out.1.1.1.1.1.2.2.2
        go_wp2_with fail
        refine (Nodes_ok kn rn N a n c l0 wj T16.out.1.1.1.1.1.1.2 HI.out h256 HNK.out).mono ?_; rintro e wn ⟨rfl, hbwn⟩
        clear v_p0 v_p1 v_p2
        have T17 := T16.up hbwn
        clear T16
        have v_p0 : wn.cell? ⟨W.heap.size, 0, none⟩ = some (.int .i64 (kn : Int)) := T17.out.1.1.1.1.1.2.1
        have v_p1 : wn.cell? ⟨W.heap.size, 1, none⟩ = some (.int .i64 (rn : Int)) := T17.out.1.1.1.1.1.2.2.1
        have v_p2 : wn.cell? ⟨W.heap.size, 2, none⟩ = some (.slice a n c) := T17.out.1.1.1.1.1.2.2.2
        by_cases hm0 : m = 0
        · skip
          subst hm0
          go_wp2
          go_ret
          exact ⟨rfl, T17.out.1.1.1.1.1.1.1.1.2⟩
        · skip
          have hmz : (m == 0) = false := by simpa using hm0
          have hm1 : 1 ≤ m := by omega
          go_wp2_with fail
          refine (pcFair kn rn (m - 1) a n c l0 wn R (T17.out.1.1.1.1.1.1.1.2).sent (T17.out.1.1.1.1.1.1.1.2).sent.glob T17.out.1.1.1.1.1.1.2 hnc hcm true [] none (HFM.out (by omega))).mono ?_; rintro e wf ⟨a2, n2, c2, ev2, rfl, hw2, he2, hbwf⟩
          clear v_p0 v_p1 v_p2
          have T18 := T17.up hbwf
          clear T17
          obtain rfl : ev2 = .nilIface := he2
          clear hw2
          go_wp2
          go_ret
          exact ⟨rfl, T18.out.1.1.1.1.1.1.1.1.2⟩
      · skip
        obtain rfl : ev = .nilIface := HC.out
        obtain ⟨kn, rn, rfl, rfl, hI, h256⟩ := faultD_none hd
        rw [← HLEN.out] at h256
        have HI := Lib.hid hI
        have hnod := hI.nodes HLEN.out
        obtain ⟨N, hN⟩ : ∃ N, kn ^ (2 * rn) = N := ⟨_, rfl⟩
        rw [hN] at hnod
        have HNK := Lib.hid hnod.1
        have hk0 := hI.k1
        have hk4 := hI.k4
        have hN0 := hnod.2.1
        have hNle : N ≤ 256 := by
          have h1 : N * 1 ≤ N * kn := Nat.mul_le_mul_left _ hk0
          have h2 := hnod.1
          omega
        have HNN := Lib.hid hN
        clear hnod hI hN
        have hm12 : m ≤ 12 := by
          have := pow12 (k := (kn : Int).toNat) (by rw [Int.toNat_natCast]; omega) hsm
          omega
        obtain ⟨mn, rfl⟩ : ∃ mn : Nat, m = (mn : Int) := ⟨m.toNat, by omega⟩
        simp only [Int.toNat_natCast] at *
        have HNE : Hid (wordsC kn N l0 (digsF kn mn i0) ≠ N) := by rw [HNN.out] at hne; exact hne
        have HSY : Hid (∀ x ∈ digsF kn mn i0, 0 ≤ x ∧ x < (kn : Int)) := digsF_mem hk0 mn i0 hi0
        have hw64 : IntKind.u64.wrap (N : Int) = (N : Int) := u64_same (by omega)
        have hn1 := (T16.out.1.1.1.1.2).rk.len
        rw [digsF_len] at hn1
        obtain rfl : mn = n1 := hn1.symm
        clear HF hd hk1 hsm hall hne hi0
        have v_p0 : wj.cell? ⟨W.heap.size, 0, none⟩ = some (.int .i64 (kn : Int)) := T16.out.1.1.1.1.1.2.1
        have v_p1 : wj.cell? ⟨W.heap.size, 1, none⟩ = some (.int .i64 (rn : Int)) := T16.out.1.1.1.1.1.2.2.1
        have v_p2 : wj.cell? ⟨W.heap.size, 2, none⟩ = some (.slice a n c) := T16.out.1.1.1.1.1.2.2.2
        go_wp2_with fail
        refine (Nodes_ok kn rn N a n c l0 wj T16.out.1.1.1.1.1.1.2 HI.out h256 HNK.out).mono ?_; rintro e wn ⟨rfl, hbwn⟩
        clear v_p0 v_p1 v_p2
        have T17 := T16.up hbwn
        clear T16
        have v_p0 : wn.cell? ⟨W.heap.size, 0, none⟩ = some (.int .i64 (kn : Int)) := T17.out.1.1.1.1.1.2.1
        have v_p1 : wn.cell? ⟨W.heap.size, 1, none⟩ = some (.int .i64 (rn : Int)) := T17.out.1.1.1.1.1.2.2.1
        have v_p2 : wn.cell? ⟨W.heap.size, 2, none⟩ = some (.slice a n c) := T17.out.1.1.1.1.1.2.2.2
        go_wp2_with fail
        refine (countWords_ok kn rn a a1 n c mn c1 l0 (digsF kn mn i0) wn R (T17.out.1.1.1.1.1.1.1.2).sent.glob T17.out.1.1.1.1.1.1.2 (T17.out.1.1.1.1.2).rk HI.out h256 hnc hcm (by omega) HSY.out).mono ?_; rintro e wu ⟨a3, n3, c3, rfl, ho3, hbwu⟩
        clear v_p0 v_p1 v_p2
        have T18 := T17.up hbwu
        clear T17
        rw [HNN.out] at ho3
        obtain ⟨V, hV⟩ : ∃ V, wordsC kn N l0 (digsF kn mn i0) = V := ⟨_, rfl⟩
        rw [hV] at ho3 HNE
        clear hV
        have T19 := T18.add (fun wv => OwN wv wn.heap.size (a3, n3, c3) (limbs V)) (ho3)
        clear T18
        clear ho3
        go_wp2_with fail
        refine (from_any N wu (by omega)).mono ?_; rintro e wx ⟨n4, rfl, _, hv4, hbwx⟩
        have T20 := T19.up hbwx
        clear T19
        have T21 := T20.add (fun wv => NV wv (some ⟨wu.heap.size, 0, none⟩) n4 2 N) (hv4)
        clear T20
        clear hv4
        go_wp2_with fail
        refine (natCmp_any a3 _ n3 n4 c3 2 _ _ wx (T21.out.1.2).ns.nr (T21.out.2).nr (T21.out.1.2).ns.le (T21.out.2).le (T21.out.1.2).ns.cm (T21.out.2).cm).mono ?_; rintro e wx' ⟨rfl, q6, rfl⟩
        rw [val_limbs, val_limbs]
        have hcn := cmpN_ne HNE.out
        go_wp2
        go_ret
        exact ⟨rfl, bdrewN T21.out.1.1.1.1.1.1.1.1.1.1.2 q6⟩
theorem count_fairs_row (k r : Int) (a : Option Addr) (n c : Nat) (l : List Int) (m : Int) (W : World) (R : Nat → Addr) (hE : Env W R) (hM : SlI W a n c l) :
    Calls Tryd.prog 7 #[ruleV k r a n c, .int .i64 m] W (TrueBelow W) :=
  count_fairs k r m a n c l W R hE hM.rk hM.le hM.mx
end Go.Proofs.YteneiianpghalaaDoor
