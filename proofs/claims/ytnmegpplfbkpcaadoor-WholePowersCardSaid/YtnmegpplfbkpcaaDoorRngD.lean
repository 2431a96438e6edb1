/- The contracts of ring.check, Step, walk, After, Trace for all arguments: the list and the error's chain. -/
import Derived.Test.YtnmegpplfbkpcaaDoorRngW
import Derived.Test.YtnmegpplfbkpcaaDoorUnder
import Derived.Test.YtnmegpplfbkpcaaDoorErrB
import Derived.WalkKit
import Derived.Lib.Hide
namespace Go.Proofs.YtnmegpplfbkpcaaDoor
open Go.RowKit
set_option linter.unusedVariables false
set_option maxRecDepth 100000

/-- a ring's fault: place and number -/
def ringE (k : Int) (wl : List Int) : Option (Int × Int) := if wl.length = 0 then some (0, 3) else if 4096 < wl.length then some (0, 4) else if 0 ≤ idxI (badB k) wl then some (idxI (badB k) wl, 2) else none
/-- the rule's fault, the ring's fault -/
def ringD (k r : Int) (tb wl : List Int) : ErrD := match ruleErr k r tb with
  | some a => some ([(opRing, 0), (opRule, a)], 1)
  | none => (ringE k wl).map fun x => ([(opRing, x.1)], x.2)
theorem ringD_none {k r : Int} {tb wl : List Int} (h : ringD k r tb wl = none) : ∃ kn rn : Nat, k = kn ∧ r = rn ∧ IsRule kn rn tb ∧ IsRing kn wl := by
  unfold ringD at h
  split at h
  · cases h
  · rename_i he
    obtain ⟨kn, rn, rfl, rfl, hI⟩ := ruleErr_none he
    refine ⟨kn, rn, rfl, rfl, hI, ?_⟩
    have h2 : ringE (kn : Int) wl = none := by simpa using h
    unfold ringE at h2
    split at h2
    · cases h2
    split at h2
    · cases h2
    split at h2
    · cases h2
    rename_i h3 h4 h5
    exact ⟨by omega, by omega, fun x hx => badB_false.1 (idxI_neg h5 x hx)⟩
theorem idxI_none {p : Int → Bool} {l : List Int} (h : ∀ x ∈ l, p x = false) : idxI p l = -1 := by
  unfold idxI
  rw [List.findIdx?_eq_none_iff.2 h]
theorem ruleErr_is {k r : Nat} {l : List Int} (h : IsRule k r l) : ruleErr (k : Int) (r : Int) l = none := by
  have h1 := h.k1; have h2 := h.k4; have h3 := h.r3
  unfold ruleErr
  rw [if_neg (by omega), if_neg (by omega), if_neg (by simpa using h.len), if_neg]
  have := idxI_none (p := badB (k : Int)) (l := l) (fun x hx => badB_false.2 (h.sym x hx))
  omega
theorem ringE_is {k : Nat} {wl : List Int} (h : IsRing k wl) : ringE (k : Int) wl = none := by
  have h1 := h.l1; have h2 := h.l2
  unfold ringE
  rw [if_neg (by omega), if_neg (by omega), if_neg]
  have := idxI_none (p := badB (k : Int)) (l := wl) (fun x hx => badB_false.2 (h.sym x hx))
  omega
theorem ringD_is {k r : Nat} {tb wl : List Int} (h : IsRule k r tb) (hw : IsRing k wl) : ringD (k : Int) (r : Int) tb wl = none := by
  unfold ringD
  rw [ruleErr_is h, ringE_is hw]
  rfl
set_option maxHeartbeats 4000000 in
theorem ringcheck_errE (k r : Int) (a : Option Addr) (n c : Nat) (l : List Int) (aw : Option Addr) (nw cw : Nat) (wl : List Int) (W : World) (R : Nat → Addr) (hS : Sent W R) (hR : RK .i64 W a n l) (hm : n ≤ maxLen) (hW : RK .i64 W aw nw wl) (hmw : nw ≤ maxLen) (h : ringD k r l wl ≠ none) :
    Calls Tryd.prog 28 #[ruleV k r a n c, .slice aw nw cw] W fun e w' => ∃ g, e = .returned (.iface 100 (.pointer (some ⟨g, 0, none⟩))) ∧ EC R w' (.iface 100 (.pointer (some ⟨g, 0, none⟩))) (ringD k r l wl) ∧ Below W.heap.size W w' := by
  have hmw' : nw ≤ 9223372036854775807 := hmw
  have HH := Lib.hid h; clear h
  have hG := hS.glob
  have HSN := Lib.hid hS; clear hS
  have HG := Lib.hid hG; clear hG
  have HWL := Lib.hid hW.len
  have HR := Lib.hid hR; clear hR
  have HW := Lib.hid hW; clear hW
  obtain ⟨Wb, hWb⟩ : ∃ Wb, W.alloc (.cells #[.int .i64 k, .int .i64 r, .slice a n c] 24) = Wb := ⟨_, rfl⟩
  have HX : Hid (Wb.cell? ⟨W.heap.size, 0, none⟩ = some (.int .i64 k)) := by show _ = _; rw [← hWb]; simp
  have HSZ : Hid (W.heap.size < Wb.heap.size) := by show _ < _; rw [← hWb]; simp
  have HBX : Hid (Below W.heap.size W Wb) := by rw [← hWb]; exact balloc (bnil W) _
  have HWB := Lib.hid hWb; clear hWb
  cases he : ruleErr k r l with
  | some at_ =>
    have hd : ringD k r l wl = some ([(opRing, 0), (opRule, at_)], 1) := by unfold ringD; rw [he]
    have HD := Lib.hid hd; clear hd
    have HE := Lib.hid he; clear he
    go_enter Tryd.func28, Tryd.ntmps28
    go_wp2_with fail
    rw [HWB.out]
    refine (rcheck_err k r a n c l _ R (HG.out.up HBX.out) (HR.out.up HBX.out) hm at_ HE.out).mono ?_; rintro e w1 ⟨g1, rfl, he1, hb1⟩
    have HB1 := Lib.hid (HBX.out.trans (hb1.mono HBX.out.size))
    have hec := ec_under opRing 0 (ec_err (HSN.out.up HB1.out) he1)
    have HEC := Lib.hid hec
    clear he1 hb1 hec
    go_wp2_with fail
    refine (undr_some _ _ _ _ _).mono ?_; rintro e w2 ⟨rfl, rfl⟩
    go_wp2
    go_ret
    rw [HD.out]
    exact ⟨_, rfl, HEC.out, balloc HB1.out _⟩
  | none =>
    obtain ⟨kn, rn, rfl, rfl, hI⟩ := ruleErr_none he
    have hd0 : ringD (kn : Int) (rn : Int) l wl = (ringE (kn : Int) wl).map fun x => ([(opRing, x.1)], x.2) := by unfold ringD; rw [he]
    have HD0 := Lib.hid hd0
    clear hd0
    have HI := Lib.hid hI; clear hI he
    by_cases h0 : nw = 0
    · subst h0
      have hd : ringE (kn : Int) wl = some (0, 3) := by unfold ringE; rw [if_pos HWL.out.symm]
      have HD := Lib.hid hd; clear hd
      go_enter Tryd.func28, Tryd.ntmps28
      go_wp2_with fail
      rw [HWB.out]
      refine (rcheck_ok kn rn a n c l _ (HR.out.up HBX.out) HI.out).mono ?_; rintro e w1 ⟨rfl, hb1⟩
      have HB1 := Lib.hid (HBX.out.trans (hb1.mono HBX.out.size))
      clear hb1
      go_wp2_with fail
      refine (ring_wrong _ _ _ R (HG.out.up HB1.out) (by rfl)).mono ?_; rintro e w' ⟨rfl, rfl⟩
      go_wp2
      go_ret
      rw [HD0.out, HD.out]
      exact ⟨_, rfl, ec_err (HSN.out.up (balloc HB1.out _)) (isErr_new (Nat.le_refl _)), balloc HB1.out _⟩
    · have hnz : ((nw : Int) == 0) = false := by rw [beq_eq_false_iff_ne]; omega
      by_cases hbig : 4096 < nw
      · have hd : ringE (kn : Int) wl = some (0, 4) := by unfold ringE; rw [if_neg (by have := HWL.out; omega), if_pos (by have := HWL.out; omega)]
        have HD := Lib.hid hd; clear hd
        go_enter Tryd.func28, Tryd.ntmps28
        go_wp2_with fail
        rw [HWB.out]
        refine (rcheck_ok kn rn a n c l _ (HR.out.up HBX.out) HI.out).mono ?_; rintro e w1 ⟨rfl, hb1⟩
        have HB1 := Lib.hid (HBX.out.trans (hb1.mono HBX.out.size))
        clear hb1
        go_wp2_with fail
        refine (ring_wrong _ _ _ R (HG.out.up HB1.out) (by rfl)).mono ?_; rintro e w' ⟨rfl, rfl⟩
        go_wp2
        go_ret
        rw [HD0.out, HD.out]
        exact ⟨_, rfl, ec_err (HSN.out.up (balloc HB1.out _)) (isErr_new (Nat.le_refl _)), balloc HB1.out _⟩
      · obtain ⟨i, hi⟩ : ∃ i, idxI (badB (kn : Int)) wl = i := ⟨_, rfl⟩
        have hi0 : 0 ≤ i := by
          by_cases hq : 0 ≤ i
          · exact hq
          · refine absurd ?_ HH.out
            rw [HD0.out]
            unfold ringE
            rw [if_neg (by have := HWL.out; omega), if_neg (by have := HWL.out; omega), hi, if_neg hq]
            rfl
        have hd : ringE (kn : Int) wl = some (i, 2) := by unfold ringE; rw [if_neg (by have := HWL.out; omega), if_neg (by have := HWL.out; omega), hi, if_pos hi0]
        have HD := Lib.hid hd; clear hd
        have HII := Lib.hid hi
        clear hi
        have hmf : ∀ (fn : Fn) (first cap : Array Value) (w : World), (Instr.makeFunc fn first cap).run Tryd.prog w = .ok (.func fn first cap) w := fun _ _ _ _ => rfl
        have eg : ∀ args w, (callFunc 67 args).run Tryd.prog w = .ok (.enter 67 args) w := enters_of Tryd.func67 (by kernel_rfl) rfl
        have EG := Lib.hid eg; clear eg
        go_enter Tryd.func28, Tryd.ntmps28
        go_wp2_with fail
        rw [HWB.out]
        refine (rcheck_ok kn rn a n c l _ (HR.out.up HBX.out) HI.out).mono ?_; rintro e w1 ⟨rfl, hb1⟩
        have hx1 := (hb1.cell (p := ⟨W.heap.size, 0, none⟩) HSZ.out).trans HX.out
        have HP : Hid (PredOf 67 #[.pointer (some ⟨W.heap.size, 0, none⟩)] (badB kn) w1) := ring_pred kn W.heap.size _ (Nat.lt_of_lt_of_le HSZ.out hb1.size) hx1
        have HB1 := Lib.hid (HBX.out.trans (hb1.mono HBX.out.size))
        clear hb1 hx1
        go_wp2_with fail
        refine (indexFunc_any aw nw cw wl 67 _ (badB kn) _ (HW.out.up HB1.out) hmw EG.out HP.out).mono ?_; rintro e w' ⟨rfl, m, rfl⟩
        rw [HII.out]
        go_wp2_with fail
        refine (ring_wrong _ _ _ R (HG.out.up (below_drewN HB1.out m)) (by rfl)).mono ?_; rintro e w' ⟨rfl, rfl⟩
        go_wp2
        go_ret
        rw [HD0.out, HD.out]
        exact ⟨_, rfl, ec_err (HSN.out.up (balloc (below_drewN HB1.out m) _)) (isErr_new (Nat.le_refl _)), balloc (below_drewN HB1.out m) _⟩

/-- a list, and an error's chain -/
def ListEC (R : Nat → Addr) (W : World) (l : List Int) (x : ErrD) (e : Ending) (w' : World) : Prop := ∃ a n c ev, e = .returned (.tuple #[.slice a n c, ev]) ∧ SlI w' a n c l ∧ EC R w' ev x ∧ Below W.heap.size W w'
def ringV (k r : Int) (tb wl : List Int) : List Int := match ringD k r tb wl with
  | none => ringL k.toNat r.toNat tb wl
  | some _ => []
def aftE (t : Int) (n : Nat) : Option (Int × Int) := if t < 0 then some (1, 3) else if 262144 < t * (n : Int) then some (1, 4) else none
def aftD (k r : Int) (tb wl : List Int) (t : Int) : ErrD := match ringD k r tb wl with
  | some x => some x
  | none => (aftE t wl.length).map fun x => ([(opRing, x.1)], x.2)
def aftV (k r : Int) (tb wl : List Int) (t : Int) : List Int := match aftD k r tb wl t with
  | none => itR k.toNat r.toNat tb t.toNat wl
  | some _ => []
def trcV (k r : Int) (tb wl : List Int) (t : Int) : List Int := match aftD k r tb wl t with
  | none => trR k.toNat r.toNat tb t.toNat wl
  | some _ => []
theorem sl_low {w : World} {a : Option Addr} {n c m : Nat} {l : List Int} (h : OwI w m a n c l) (hl : n * 8 ≤ 140737488351232) : SlI w a n c l := h.sl hl
set_option maxHeartbeats 4000000 in
theorem ringstep_anyE (k r : Int) (a : Option Addr) (n c : Nat) (l : List Int) (aw : Option Addr) (nw cw : Nat) (wl : List Int) (W : World) (R : Nat → Addr) (hS : Sent W R) (hR : RK .i64 W a n l) (hm : n ≤ maxLen) (hW : SlI W aw nw cw wl) :
    Calls Tryd.prog 8 #[ruleV k r a n c, .slice aw nw cw] W (ListEC R W (ringV k r l wl) (ringD k r l wl)) := by
  cases hd : ringD k r l wl with
  | none =>
    obtain ⟨kn, rn, rfl, rfl, hI, hG⟩ := ringD_none hd
    have hv : ringV (kn : Int) (rn : Int) l wl = ringL kn rn l wl := by unfold ringV; rw [hd]; rfl
    rw [hv]
    refine (ringstep_ok kn rn a n c l aw nw cw wl W hR hW.rk hI hG).mono ?_
    rintro e w' ⟨a', c', rfl, ho, hb⟩
    exact ⟨a', nw, c', _, rfl, ho.sl hW.n8, rfl, hb⟩
  | some x =>
    have hv : ringV k r l wl = [] := by unfold ringV; rw [hd]
    rw [hv]
    have hne : ringD k r l wl ≠ none := by rw [hd]; nofun
    have HNE := Lib.hid hne
    have HD := Lib.hid hd
    have hmw := hW.nm
    have HS := Lib.hid hS; have HR := Lib.hid hR; have HW := Lib.hid hW
    clear hne hv hd hS hR hW
    obtain ⟨Wb, hWb⟩ : ∃ Wb, W.alloc (.cells #[.int .i64 k, .int .i64 r, .slice a n c] 24) = Wb := ⟨_, rfl⟩
    have HBX : Hid (Below W.heap.size W Wb) := by rw [← hWb]; exact balloc (bnil W) _
    have HWB := Lib.hid hWb; clear hWb
    go_enter Tryd.func8, Tryd.ntmps8
    go_wp2_with fail
    rw [HWB.out]
    refine (ringcheck_errE k r a n c l aw nw cw wl _ R (HS.out.up HBX.out) (HR.out.up HBX.out) hm (HW.out.rk.up HBX.out) hmw HNE.out).mono ?_; rintro e w1 ⟨g1, rfl, hec, hb1⟩
    rw [HD.out] at hec
    have HEC := Lib.hid hec
    clear hec
    go_wp2
    go_ret2
    exact ⟨_, 0, 0, _, rfl, SlI.nil, HEC.out, bstep HBX.out hb1⟩
theorem aft_none {k r : Int} {tb wl : List Int} {t : Int} (h : aftD k r tb wl t = none) : ∃ kn rn tn : Nat, k = kn ∧ r = rn ∧ t = tn ∧ IsRule kn rn tb ∧ IsRing kn wl ∧ tn * wl.length ≤ 262144 := by
  unfold aftD at h
  split at h
  · cases h
  · rename_i hd
    obtain ⟨kn, rn, rfl, rfl, hI, hG⟩ := ringD_none hd
    have h2 : aftE t wl.length = none := by simpa using h
    unfold aftE at h2
    split at h2
    · cases h2
    split at h2
    · cases h2
    rename_i h3 h4
    obtain ⟨tn, rfl⟩ : ∃ tn : Nat, t = tn := ⟨t.toNat, by omega⟩
    refine ⟨kn, rn, tn, rfl, rfl, rfl, hI, hG, ?_⟩
    rw [← Int.natCast_mul] at h4
    omega
set_option maxHeartbeats 4000000 in
theorem rwalk_errE (k r t : Int) (a : Option Addr) (n c : Nat) (l : List Int) (aw : Option Addr) (nw cw : Nat) (wl : List Int) (fv : Value) (W : World) (R : Nat → Addr) (hS : Sent W R) (hR : RK .i64 W a n l) (hm : n ≤ maxLen) (hW : SlI W aw nw cw wl) (h : aftD k r l wl t ≠ none) :
    Calls Tryd.prog 26 #[ruleV k r a n c, .slice aw nw cw, .int .i64 t, fv] W fun e w' => ∃ ev, e = .returned (.tuple #[.slice none 0 0, ev]) ∧ EC R w' ev (aftD k r l wl t) ∧ Below W.heap.size W w' := by
  have hmw := hW.nm
  cases hd : ringD k r l wl with
  | some x =>
    have hv : aftD k r l wl t = some x := by unfold aftD; rw [hd]
    rw [hv]
    have hne : ringD k r l wl ≠ none := by rw [hd]; nofun
    have HNE := Lib.hid hne
    have HD := Lib.hid hd
    have HS := Lib.hid hS; have HR := Lib.hid hR; have HW := Lib.hid hW
    clear hne hv hd hS hR hW h
    obtain ⟨Wb, hWb⟩ : ∃ Wb, W.alloc (.cells #[.int .i64 k, .int .i64 r, .slice a n c] 24) = Wb := ⟨_, rfl⟩
    have HBX : Hid (Below W.heap.size W Wb) := by rw [← hWb]; exact balloc (bnil W) _
    have HWB := Lib.hid hWb; clear hWb
    go_enter Tryd.func26, Tryd.ntmps26
    go_wp2_with fail
    rw [HWB.out]
    refine (ringcheck_errE k r a n c l aw nw cw wl _ R (HS.out.up HBX.out) (HR.out.up HBX.out) hm (HW.out.rk.up HBX.out) hmw HNE.out).mono ?_; rintro e w1 ⟨g1, rfl, hec, hb1⟩
    rw [HD.out] at hec
    have HEC := Lib.hid hec
    clear hec
    go_wp2
    go_ret2
    exact ⟨_, rfl, HEC.out, bstep HBX.out hb1⟩
  | none =>
    obtain ⟨k, r, rfl, rfl, hI, hG⟩ := ringD_none hd
    have hnl := hW.rk.len
    have hl1 := hG.l1
    have hl2 := hG.l2
    have hda : aftD (k : Int) (r : Int) l wl t = (aftE t wl.length).map fun x => ([(opRing, x.1)], x.2) := by unfold aftD; rw [hd]
    rw [hda] at h ⊢
    have HS := Lib.hid hS; have HR := Lib.hid hR; have HW := Lib.hid hW; have HI := Lib.hid hI; have HG := Lib.hid hG
    have hq : (262144 : Int).tdiv (nw : Int) = ((262144 / nw : Nat) : Int) := by rw [Int.tdiv_eq_ediv_of_nonneg (by omega)]; rfl
    obtain ⟨Q, hQ⟩ : ∃ Q, 262144 / nw = Q := ⟨_, rfl⟩
    have hQ6 : Q ≤ 262144 := by rw [← hQ]; exact Nat.div_le_self _ _
    rw [hQ] at hq
    have hq2 : (262144 : Int) / (nw : Int) = (Q : Int) := by rw [← hQ]; rfl
    have hqw : IntKind.i64.wrap (Q : Int) = (Q : Int) := IntWalk.i64_in _ (by omega)
    have nz : ¬ (nw : Int) = 0 := by omega
    have nzb : ((nw : Int) == 0) = false := by rw [beq_eq_false_iff_ne]; exact nz
    have nzn : ¬ nw = 0 := by omega
    by_cases t0 : t < 0
    · have ha : aftE t wl.length = some (1, 3) := by unfold aftE; rw [if_pos t0]
      rw [ha]
      clear ha h hda hd hnl hl1 hl2 hQ hI hG hS hR hW
      obtain ⟨Wb, hWb⟩ : ∃ Wb, W.alloc (.cells #[.int .i64 k, .int .i64 r, .slice a n c] 24) = Wb := ⟨_, rfl⟩
      have HBX : Hid (Below W.heap.size W Wb) := by rw [← hWb]; exact balloc (bnil W) _
      have HWB := Lib.hid hWb; clear hWb
      go_enter Tryd.func26, Tryd.ntmps26
      go_wp2_with fail
      rw [HWB.out]
      refine (ringcheck_ok k r a n c l aw nw cw wl Wb (HR.out.up HBX.out) (HW.out.rk.up HBX.out) HI.out HG.out).mono ?_; rintro e w1 ⟨rfl, hb1⟩
      have HB1 := Lib.hid (bstep HBX.out hb1)
      clear hb1
      go_wp2_with fail
      refine (ring_wrong _ _ _ R (HS.out.up HB1.out).glob (by rfl)).mono ?_; rintro e w' ⟨rfl, rfl⟩
      go_wp2
      go_ret2
      exact ⟨_, rfl, ec_err (HS.out.up (balloc HB1.out _)) (isErr_new (Nat.le_refl _)), balloc HB1.out _⟩
    · obtain ⟨tn, rfl⟩ : ∃ tn : Nat, t = tn := ⟨t.toNat, by omega⟩
      have hbig : 262144 < tn * wl.length := by
        rcases Nat.lt_or_ge 262144 (tn * wl.length) with h1 | h1
        · exact h1
        · refine absurd ?_ h
          unfold aftE
          rw [if_neg t0, if_neg (by rw [← Int.natCast_mul]; omega)]
          rfl
      have ha : aftE (tn : Int) wl.length = some (1, 4) := by unfold aftE; rw [if_neg t0, if_pos (by rw [← Int.natCast_mul]; omega)]
      rw [ha]
      have t1 : (Q : Int) < (tn : Int) := by
        have : Q < tn := by
          rw [← hQ, Nat.div_lt_iff_lt_mul (by omega), hnl]
          exact hbig
        omega
      clear ha h hda hd hnl hl1 hl2 hQ hI hG hbig hS hR hW
      obtain ⟨Wb, hWb⟩ : ∃ Wb, W.alloc (.cells #[.int .i64 k, .int .i64 r, .slice a n c] 24) = Wb := ⟨_, rfl⟩
      have HBX : Hid (Below W.heap.size W Wb) := by rw [← hWb]; exact balloc (bnil W) _
      have HWB := Lib.hid hWb; clear hWb
      go_enter Tryd.func26, Tryd.ntmps26
      go_wp2_with fail
      rw [HWB.out]
      refine (ringcheck_ok k r a n c l aw nw cw wl Wb (HR.out.up HBX.out) (HW.out.rk.up HBX.out) HI.out HG.out).mono ?_; rintro e w1 ⟨rfl, hb1⟩
      have HB1 := Lib.hid (bstep HBX.out hb1)
      clear hb1
      go_wp2_with fail
      refine (ring_wrong _ _ _ R (HS.out.up HB1.out).glob (by rfl)).mono ?_; rintro e w' ⟨rfl, rfl⟩
      go_wp2
      go_ret2
      exact ⟨_, rfl, ec_err (HS.out.up (balloc HB1.out _)) (isErr_new (Nat.le_refl _)), balloc HB1.out _⟩
set_option maxHeartbeats 4000000 in
theorem rafter_anyE (k r t : Int) (a : Option Addr) (n c : Nat) (l : List Int) (aw : Option Addr) (nw cw : Nat) (wl : List Int) (W : World) (R : Nat → Addr) (hS : Sent W R) (hR : RK .i64 W a n l) (hm : n ≤ maxLen) (hW : SlI W aw nw cw wl) :
    Calls Tryd.prog 7 #[ruleV k r a n c, .slice aw nw cw, .int .i64 t] W (ListEC R W (aftV k r l wl t) (aftD k r l wl t)) := by
  cases hd : aftD k r l wl t with
  | none =>
    obtain ⟨kn, rn, tn, rfl, rfl, rfl, hI, hG, ht⟩ := aft_none hd
    have hv : aftV (kn : Int) (rn : Int) l wl (tn : Int) = itR kn rn l tn wl := by unfold aftV; rw [hd]; rfl
    rw [hv]
    refine (rafter_ok kn rn tn a n c l aw nw cw wl W hR hW hI hG (by rw [hW.rk.len]; exact ht)).mono ?_
    rintro e w' ⟨a', c', rfl, ho, hb⟩
    exact ⟨a', nw, c', _, rfl, ho.sl hW.n8, rfl, hb⟩
  | some x =>
    have hv : aftV k r l wl t = [] := by unfold aftV; rw [hd]
    rw [hv]
    have hne : aftD k r l wl t ≠ none := by rw [hd]; nofun
    have HNE := Lib.hid hne
    have HD := Lib.hid hd
    have HS := Lib.hid hS; have HR := Lib.hid hR; have HW := Lib.hid hW
    clear hne hv hd hS hR hW
    obtain ⟨Wb, hWb⟩ : ∃ Wb, W.alloc (.cells #[.int .i64 k, .int .i64 r, .slice a n c] 24) = Wb := ⟨_, rfl⟩
    have HBX : Hid (Below W.heap.size W Wb) := by rw [← hWb]; exact balloc (bnil W) _
    have HWB := Lib.hid hWb; clear hWb
    go_enter Tryd.func7, Tryd.ntmps7
    go_wp2_with fail
    rw [HWB.out]
    refine (rwalk_errE k r t a n c l aw nw cw wl _ _ R (HS.out.up HBX.out) (HR.out.up HBX.out) hm (HW.out.up HBX.out) HNE.out).mono ?_; rintro e w1 ⟨ev, rfl, hec, hb1⟩
    rw [HD.out] at hec
    have HEC := Lib.hid hec
    clear hec
    go_wp2
    go_ret2
    exact ⟨_, 0, 0, _, rfl, SlI.nil, HEC.out, bstep HBX.out hb1⟩
end Go.Proofs.YtnmegpplfbkpcaaDoor
