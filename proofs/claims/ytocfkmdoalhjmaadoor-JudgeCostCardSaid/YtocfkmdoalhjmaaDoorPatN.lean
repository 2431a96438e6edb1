/- The contract of patch.Join, for any numbers. -/
import Derived.Test.YtocfkmdoalhjmaaDoorTrkP
import Derived.Test.YtocfkmdoalhjmaaDoorPatC
import Derived.Test.YtocfkmdoalhjmaaDoorBitI
namespace Go.Proofs.YtocfkmdoalhjmaaDoor
open Go.RowKit
set_option linter.unusedVariables false
set_option maxRecDepth 100000

def joinB (h : Int) (x : Int) : Bool := decide (x < 0 ∨ 2 ^ h.toNat ≤ x)
def joinD (h : Int) (cs : List Int) : ErrD :=
  if h < 1 ∨ 16 < h then some ([(opPatch, 0)], 3) else if 64 < cs.length then some ([(opPatch, 1)], 4) else if cs.length = 0 then some ([(opPatch, 1)], 3)
  else if 0 ≤ idxI (joinB h) cs then some ([(opPatch, 2 + idxI (joinB h) cs)], 3) else none
def joinF (cs : List Int) (x y : Nat) : Int := cs.getD x 0 / 2 ^ y % 2
def joinL (h : Nat) (cs : List Int) : List Int := madeL cs.length h (joinF cs)
def joinO (h : Int) (cs : List Int) : Int × Int × List Int := if joinD h cs = none then ((cs.length : Int), h, joinL h.toNat cs) else (0, 0, [])
/-- a patch and an error -/
def PatRet (R : Nat → Addr) (W : World) (o : Int × Int × List Int) (x : ErrD) (e : Ending) (w' : World) : Prop := ∃ a n c ev, e = .returned (.tuple #[patV o.1 o.2.1 a n c, ev]) ∧ OwI w' W.heap.size a n c o.2.2 ∧ EC R w' ev x ∧ Below W.heap.size W w'
theorem PatErr.ret {R : Nat → Addr} {W w' : World} {x : ErrD} {e : Ending} (h : PatErr R x W e w') : PatRet R W (0, 0, []) x e w' := by
  obtain ⟨g, rfl, he, hb⟩ := h
  exact ⟨none, 0, 0, _, rfl, OwI.nil _ _, he, hb⟩
structure JoinOk (h : Nat) (cs : List Int) : Prop where
  h1 : 1 ≤ h
  h16 : h ≤ 16
  n1 : 1 ≤ cs.length
  n64 : cs.length ≤ 64
  sym : ∀ x ∈ cs, 0 ≤ x ∧ x < 2 ^ h
theorem joinD_none {h : Int} {cs : List Int} (hd : joinD h cs = none) : ∃ h' : Nat, h = h' ∧ JoinOk h' cs := by
  unfold joinD at hd
  split at hd
  · cases hd
  split at hd
  · cases hd
  split at hd
  · cases hd
  split at hd
  · cases hd
  rename_i a b c d
  refine ⟨h.toNat, by omega, by omega, by omega, by omega, by omega, fun x hx => ?_⟩
  have := idxI_neg d x hx
  unfold joinB at this
  rw [decide_eq_false_iff_not] at this
  omega
theorem joinD_of {h : Nat} {cs : List Int} (hj : JoinOk h cs) : joinD h cs = none := by
  have := hj.h1; have := hj.h16; have := hj.n1; have := hj.n64
  have hi : idxI (joinB h) cs = -1 := findIdx_none fun x hx => by
    have := hj.sym x hx
    unfold joinB
    rw [decide_eq_false_iff_not, Int.toNat_natCast]
    omega
  unfold joinD
  rw [if_neg (by omega), if_neg (by omega), if_neg (by omega), if_neg (by rw [hi]; omega)]
theorem joinF_nat {h : Nat} {cs : List Int} (hj : JoinOk h cs) {x : Nat} (hx : x < cs.length) (y : Nat) : ∃ u v : Nat, cs.getD x 0 = (u : Int) ∧ u < 65536 ∧ v = u / 2 ^ y ∧ (u : Int) / 2 ^ y = (v : Int) ∧ joinF cs x y = ((v % 2 : Nat) : Int) := by
  have hs := hj.sym (cs[x]) (List.getElem_mem hx)
  have hg : cs.getD x 0 = cs[x] := by simp [hx]
  have hp : (2 : Int) ^ h ≤ 65536 := by
    have h3 := Nat.pow_le_pow_right (n := 2) (by omega) hj.h16
    have e : ((2 ^ h : Nat) : Int) = (2 : Int) ^ h := by rw [Int.natCast_pow]; rfl
    omega
  have e2 : ∀ u : Nat, (u : Int) / 2 ^ y = ((u / 2 ^ y : Nat) : Int) := fun u => by rw [Int.natCast_ediv, Int.natCast_pow]; rfl
  refine ⟨cs[x].toNat, _, by rw [hg]; omega, by omega, rfl, e2 _, ?_⟩
  unfold joinF
  rw [hg, show cs[x] = ((cs[x].toNat : Nat) : Int) by omega, e2, Int.natCast_emod]
  rfl
theorem joinF_sym {h : Nat} {cs : List Int} (hj : JoinOk h cs) {x : Nat} (hx : x < cs.length) (y : Nat) : joinF cs x y = 0 ∨ joinF cs x y = 1 := by
  obtain ⟨u, v, _, _, _, _, e⟩ := joinF_nat hj hx y
  rw [e]; omega
theorem join_patch {h : Nat} {cs : List Int} (hj : JoinOk h cs) : IsPatch cs.length h (joinL h cs) :=
  ⟨hj.n1, hj.n64, hj.h1, by have := hj.h16; omega, madeL_len _ _ _, madeL_mem (P := fun x => x = 0 ∨ x = 1) (by have := hj.n1; omega) fun x y hx _ => joinF_sym hj hx y⟩

set_option maxHeartbeats 4000000 in
theorem join1 (h bh : Nat) (W : World) (h16 : h ≤ 16) (ch : W.cell? ⟨bh, 0, none⟩ = some (.int .i64 h)) : PredOf 95 #[.pointer (some ⟨bh, 0, none⟩)] (joinB h) W := by
  intro W' x hb
  have y0 := cpa hb ch
  clear ch hb
  show Calls _ _ #[.int .i64 x, .pointer (some ⟨bh, 0, none⟩)] _ _
  have key : ∀ b, joinB h x = b → Calls Tryd.prog 95 #[.int .i64 x, .pointer (some ⟨bh, 0, none⟩)] W' fun e w' => e = .returned (.bool b) ∧ ∃ n, w' = W'.drewN n := by
    intro b hbx
    have h0 : (0 : Int) ≤ (h : Int) := by omega
    have h64 : (h : Int) ≤ 64 := by omega
    by_cases hx : x < 0
    · obtain rfl : true = b := by rw [← hbx]; exact (decide_eq_true (.inl hx)).symm
      clear hbx
      go_enter Tryd.func95, Tryd.ntmps95
      go_wp2
      go_ret
      exact ⟨rfl, 0, rfl⟩
    · have hd : decide (0 < x / 2 ^ h) = b := by
        rw [← hbx]
        unfold joinB
        rw [Int.toNat_natCast]
        have hp : (0 : Int) < 2 ^ h := Int.pow_pos (by decide)
        have e : (0 < x / 2 ^ h) ↔ (x < 0 ∨ 2 ^ h ≤ x) := by
          constructor
          · intro hq
            refine .inr (Int.not_lt.1 fun hl => ?_)
            rw [Int.ediv_eq_zero_of_lt (by omega) hl] at hq
            omega
          · intro hq
            have h2 : 2 ^ h ≤ x := by omega
            have h3 : 2 ^ h / 2 ^ h ≤ x / 2 ^ h := Int.ediv_le_ediv hp h2
            rw [Int.ediv_self (by omega)] at h3
            omega
        exact decide_eq_decide.2 e
      clear hbx
      subst hd
      go_enter Tryd.func95, Tryd.ntmps95
      go_wp2
      go_ret
      exact ⟨rfl, 0, rfl⟩
  exact key _ rfl
set_option maxHeartbeats 4000000 in
theorem join2 (h bc : Nat) (a : Option Addr) (n c : Nat) (cs : List Int) (W : World) (hj : JoinOk h cs) (hR : RK .i64 W a n cs) (cc : W.cell? ⟨bc, 0, none⟩ = some (.slice a n c)) : CellOf 96 #[.pointer (some ⟨bc, 0, none⟩)] n h (joinF cs) W := by
  intro W' x y hb hx hy
  have hn := hR.len
  obtain ⟨b, o, rfl, hbo, hcell⟩ := (hR.up hb).addr (by omega)
  have z0 := hcell x hx
  obtain ⟨u, v, hu, hu2, hv0, hv, hf⟩ := joinF_nat hj (show x < cs.length by omega) y
  rw [hu] at z0
  rw [hf]
  have hvu : v ≤ u := by rw [hv0]; exact Nat.div_le_self _ _
  have ha := and1_i64 (a := v) (by omega)
  have y0 := cpa hb cc
  have h16 := hj.h16
  have y1 : (0 : Int) ≤ (y : Int) := by omega
  have y2 : (y : Int) ≤ 64 := by omega
  have i0 : (0 : Int) ≤ (x : Int) := by omega
  have i1 : (x : Int) < (n : Int) := by omega
  clear hcell hu hv0 hf hn hR hb hj cc
  show Calls _ _ #[.int .i64 x, .int .i64 y, .pointer (some ⟨bc, 0, none⟩)] _ _
  go_enter Tryd.func96, Tryd.ntmps96
  go_wp2
  go_ret
  exact ⟨rfl, bnil W'⟩

/-- a fault's end: the result's variable keeps the empty patch -/
theorem pe_at {W w1 : World} {R : Nat → Addr} {B : Nat} (hS : Sent W R) (hb1 : Below W.heap.size W w1) (hB : W.heap.size ≤ B) (hz : w1.heap[B]? = some (.cells #[.int .i64 0, .int .i64 0, .slice none 0 0] 24)) (at_ num : Int) :
    ((w1.alloc (faultObj opPatch at_ (.iface 199 (.pointer (some (R (rix num))))))).heap[B]? = some (.cells #[.int .i64 0, .int .i64 0, .slice none 0 0] 24)) ∧
    ∃ w9, ((((w1.alloc (faultObj opPatch at_ (.iface 199 (.pointer (some (R (rix num))))))).setCell ⟨B, 0, none⟩ (.int .i64 0)).setCell ⟨B, 1, none⟩ (.int .i64 0)).setCell ⟨B, 2, none⟩ (.slice none 0 0)) = w9 ∧
      (w9.cell? ⟨B, 0, none⟩ = some (.int .i64 0) ∧ w9.cell? ⟨B, 1, none⟩ = some (.int .i64 0) ∧ w9.cell? ⟨B, 2, none⟩ = some (.slice none 0 0)) ∧
      PatErr R (some ([(opPatch, at_)], num)) W (.returned (.tuple #[patV 0 0 none 0 0, .iface 117 (.pointer (some ⟨w1.heap.size, 0, none⟩))])) w9 := by
  have hlt : B < w1.heap.size := (Array.getElem?_eq_some_iff.1 hz).1
  have hz2 : (w1.alloc (faultObj opPatch at_ (.iface 199 (.pointer (some (R (rix num))))))).heap[B]? = some (.cells #[.int .i64 0, .int .i64 0, .slice none 0 0] 24) := ((balloc (bnil w1) _).block _ hlt).trans hz
  obtain ⟨w9, e9, hc, hk9, hs9, hbl9⟩ := set3p hz2 (.int .i64 0) (.int .i64 0) (.slice none 0 0)
  have hE : EC R (w1.alloc (faultObj opPatch at_ (.iface 199 (.pointer (some (R (rix num))))))) (.iface 117 (.pointer (some ⟨w1.heap.size, 0, none⟩))) (some ([(opPatch, at_)], num)) := ec_err ((hS.up hb1).up (balloc (bnil w1) _)) (isErr_new (Nat.le_refl _))
  exact ⟨hz2, w9, e9, hc, _, rfl, hE.othP hS hk9 hz2 hB, hbl9 _ _ hB (balloc hb1 _)⟩

set_option maxHeartbeats 8000000 in
theorem join_any (h : Int) (a : Option Addr) (n c : Nat) (cs : List Int) (W : World) (R : Nat → Addr) (hS : Sent W R) (hR : RK .i64 W a n cs) (hm : n ≤ maxLen) :
    Calls Tryd.prog 50 #[.int .i64 h, .slice a n c] W (PatRet R W (joinO h cs) (joinD h cs)) := by
  have hnl := hR.len
  have HS0 := Lib.hid hS
  have hmx : n ≤ 9223372036854775807 := hm
  have T0 := Tk.nil W
  have T1 := T0.add (fun wv => Below W.heap.size W wv) (bnil W)
  clear T0
  have T2 := T1.add (fun wv => Sent wv R) (hS)
  clear T1
  have T3 := T2.add (fun wv => RK .i64 wv a n cs) (hR)
  clear T2
  clear hS hR
  obtain ⟨Wb, hWb⟩ : ∃ Wb, ((W.alloc (.cells #[.int .i64 h] 3)).alloc (.cells #[.slice a n c] 22)).alloc (.cells #[.int .i64 0, .int .i64 0, .slice none 0 0] 24) = Wb := ⟨_, rfl⟩
  have hbWb : Below W.heap.size W Wb := by rw [← hWb]; exact balloc (balloc (balloc (bnil W) _) _) _
  have T4 := T3.up hbWb
  clear T3
  have T5 := T4.add (fun wv => wv.cell? ⟨W.heap.size, 0, none⟩ = some (.int .i64 h)) (by rw [← hWb]; exact al000 (al000 (cnw (by simp) rfl)))
  clear T4
  have T6 := T5.add (fun wv => wv.cell? ⟨W.heap.size + 1, 0, none⟩ = some (.slice a n c)) (by rw [← hWb]; exact al000 (cnw (by simp) rfl))
  clear T5
  have HWb := Lib.hid hWb
  clear hWb hbWb
  have hz : Wb.heap[W.heap.size + 1 + 1]? = some (.cells #[.int .i64 0, .int .i64 0, .slice none 0 0] 24) := by
    rw [← HWb.out]
    have := heap_alloc_new ((W.alloc (.cells #[.int .i64 h] 3)).alloc (.cells #[.slice a n c] 22)) (.cells #[.int .i64 0, .int .i64 0, .slice none 0 0] 24)
    simpa using this
  have HZ := Lib.hid hz
  clear hz
  have T7 := T6.add (fun wv => wv.heap[W.heap.size + 1 + 1]? = some (.cells #[.int .i64 0, .int .i64 0, .slice none 0 0] 24)) (HZ.out)
  clear T6
  by_cases c0 : h < 1 ∨ 16 < h
  · skip
    by_cases c00 : h < 1
    · skip
      have hd : joinD h cs = some ([(opPatch, 0)], 3) := by unfold joinD; exact if_pos c0
      have ho : joinO h cs = (0, 0, []) := by unfold joinO; rw [hd]; rfl
      have HOD := Lib.hid (And.intro ho hd)
      clear hd ho hnl
      clear c0
      go_enter Tryd.func50, Tryd.ntmps50
      have v_h0 : (((W.alloc (.cells #[.int .i64 h] 3)).alloc (.cells #[.slice a n c] 22)).alloc (.cells #[.int .i64 0, .int .i64 0, .slice none 0 0] 24)).cell? ⟨W.heap.size, 0, none⟩ = some (.int .i64 h) := by rw [HWb.out]; exact T7.out.1.1.2
      go_wp2_with fail
      rw [HWb.out]
      refine (patch_wrong _ _ _ R (T7.out.1.1.1.1.2).glob rfl).mono ?_; rintro e w1 ⟨rfl, rfl⟩
      clear v_h0
      have hz1 := (T7.out.2)
      have HPE := Lib.hid (pe_at HS0.out (T7.out.1.1.1.1.1.2) (show W.heap.size ≤ W.heap.size + 1 + 1 by omega) hz1 0 3)
      obtain ⟨⟨d0, d1, d2⟩, f0, f1, f2⟩ := p_cells HPE.out.1
      clear hz1
      go_wp2
      obtain ⟨w9, e9, ⟨r0, r1, r2⟩, hpe⟩ := HPE.out.2
      rw [e9]
      refine bodyPost_ret (v := .tuple #[patV 0 0 none 0 0, .iface 117 (.pointer (some ⟨Wb.heap.size, 0, none⟩))]) (by simp [results, Tryd.results50, go_sem, r0, r1, r2]) rfl ?_
      rw [HOD.out.1, HOD.out.2]
      exact hpe.ret
    · skip
      have c01 : 16 < h := by omega
      have c02 : 1 ≤ h := by omega
      have hd : joinD h cs = some ([(opPatch, 0)], 3) := by unfold joinD; exact if_pos c0
      have ho : joinO h cs = (0, 0, []) := by unfold joinO; rw [hd]; rfl
      have HOD := Lib.hid (And.intro ho hd)
      clear hd ho hnl
      clear c0 c00
      go_enter Tryd.func50, Tryd.ntmps50
      have v_h0 : (((W.alloc (.cells #[.int .i64 h] 3)).alloc (.cells #[.slice a n c] 22)).alloc (.cells #[.int .i64 0, .int .i64 0, .slice none 0 0] 24)).cell? ⟨W.heap.size, 0, none⟩ = some (.int .i64 h) := by rw [HWb.out]; exact T7.out.1.1.2
      go_wp2_with fail
      rw [HWb.out]
      refine (patch_wrong _ _ _ R (T7.out.1.1.1.1.2).glob rfl).mono ?_; rintro e w1 ⟨rfl, rfl⟩
      clear v_h0
      have hz1 := (T7.out.2)
      have HPE := Lib.hid (pe_at HS0.out (T7.out.1.1.1.1.1.2) (show W.heap.size ≤ W.heap.size + 1 + 1 by omega) hz1 0 3)
      obtain ⟨⟨d0, d1, d2⟩, f0, f1, f2⟩ := p_cells HPE.out.1
      clear hz1
      go_wp2
      obtain ⟨w9, e9, ⟨r0, r1, r2⟩, hpe⟩ := HPE.out.2
      rw [e9]
      refine bodyPost_ret (v := .tuple #[patV 0 0 none 0 0, .iface 117 (.pointer (some ⟨Wb.heap.size, 0, none⟩))]) (by simp [results, Tryd.results50, go_sem, r0, r1, r2]) rfl ?_
      rw [HOD.out.1, HOD.out.2]
      exact hpe.ret
  obtain ⟨h, rfl⟩ : ∃ h' : Nat, h = (h' : Int) := ⟨h.toNat, by omega⟩
  have hh1 : 1 ≤ h := by omega
  have hh16 : h ≤ 16 := by omega
  by_cases c1 : 64 < n
  · skip
    have hd : joinD h cs = some ([(opPatch, 1)], 4) := by unfold joinD; rw [if_neg c0, if_pos (by omega)]
    have ho : joinO h cs = (0, 0, []) := by unfold joinO; rw [hd]; rfl
    have HOD := Lib.hid (And.intro ho hd)
    clear hd ho hnl
    clear c0
    go_enter Tryd.func50, Tryd.ntmps50
    have v_h0 : (((W.alloc (.cells #[.int .i64 h] 3)).alloc (.cells #[.slice a n c] 22)).alloc (.cells #[.int .i64 0, .int .i64 0, .slice none 0 0] 24)).cell? ⟨W.heap.size, 0, none⟩ = some (.int .i64 h) := by rw [HWb.out]; exact T7.out.1.1.2
    have v_c0 : (((W.alloc (.cells #[.int .i64 h] 3)).alloc (.cells #[.slice a n c] 22)).alloc (.cells #[.int .i64 0, .int .i64 0, .slice none 0 0] 24)).cell? ⟨W.heap.size + 1, 0, none⟩ = some (.slice a n c) := by rw [HWb.out]; exact T7.out.1.2
    go_wp2_with fail
    rw [HWb.out]
    refine (patch_wrong _ _ _ R (T7.out.1.1.1.1.2).glob rfl).mono ?_; rintro e w1 ⟨rfl, rfl⟩
    clear v_h0 v_c0
    have hz1 := (T7.out.2)
    have HPE := Lib.hid (pe_at HS0.out (T7.out.1.1.1.1.1.2) (show W.heap.size ≤ W.heap.size + 1 + 1 by omega) hz1 1 4)
    obtain ⟨⟨d0, d1, d2⟩, f0, f1, f2⟩ := p_cells HPE.out.1
    clear hz1
    go_wp2
    obtain ⟨w9, e9, ⟨r0, r1, r2⟩, hpe⟩ := HPE.out.2
    rw [e9]
    refine bodyPost_ret (v := .tuple #[patV 0 0 none 0 0, .iface 117 (.pointer (some ⟨Wb.heap.size, 0, none⟩))]) (by simp [results, Tryd.results50, go_sem, r0, r1, r2]) rfl ?_
    rw [HOD.out.1, HOD.out.2]
    exact hpe.ret
  by_cases c2 : n = 0
  · skip
    have hd : joinD h cs = some ([(opPatch, 1)], 3) := by unfold joinD; rw [if_neg c0, if_neg (by omega), if_pos (by omega)]
    have ho : joinO h cs = (0, 0, []) := by unfold joinO; rw [hd]; rfl
    have HOD := Lib.hid (And.intro ho hd)
    clear hd ho hnl
    clear c0
    have hcn : ((n : Int) == 0) = true := by rw [beq_iff_eq]; omega
    clear c2
    go_enter Tryd.func50, Tryd.ntmps50
    have v_h0 : (((W.alloc (.cells #[.int .i64 h] 3)).alloc (.cells #[.slice a n c] 22)).alloc (.cells #[.int .i64 0, .int .i64 0, .slice none 0 0] 24)).cell? ⟨W.heap.size, 0, none⟩ = some (.int .i64 h) := by rw [HWb.out]; exact T7.out.1.1.2
    have v_c0 : (((W.alloc (.cells #[.int .i64 h] 3)).alloc (.cells #[.slice a n c] 22)).alloc (.cells #[.int .i64 0, .int .i64 0, .slice none 0 0] 24)).cell? ⟨W.heap.size + 1, 0, none⟩ = some (.slice a n c) := by rw [HWb.out]; exact T7.out.1.2
    go_wp2_with fail
    rw [HWb.out]
    refine (patch_wrong _ _ _ R (T7.out.1.1.1.1.2).glob rfl).mono ?_; rintro e w1 ⟨rfl, rfl⟩
    clear v_h0 v_c0
    have hz1 := (T7.out.2)
    have HPE := Lib.hid (pe_at HS0.out (T7.out.1.1.1.1.1.2) (show W.heap.size ≤ W.heap.size + 1 + 1 by omega) hz1 1 3)
    obtain ⟨⟨d0, d1, d2⟩, f0, f1, f2⟩ := p_cells HPE.out.1
    clear hz1
    go_wp2
    obtain ⟨w9, e9, ⟨r0, r1, r2⟩, hpe⟩ := HPE.out.2
    rw [e9]
    refine bodyPost_ret (v := .tuple #[patV 0 0 none 0 0, .iface 117 (.pointer (some ⟨Wb.heap.size, 0, none⟩))]) (by simp [results, Tryd.results50, go_sem, r0, r1, r2]) rfl ?_
    rw [HOD.out.1, HOD.out.2]
    exact hpe.ret
  obtain ⟨i, hi⟩ : ∃ i, idxI (joinB h) cs = i := ⟨_, rfl⟩
  have hib := idxI_bd (joinB h) cs
  rw [hi, ← hnl] at hib
  obtain ⟨hi1, hi2⟩ := hib
  have HI := Lib.hid hi
  have hcall : Calls Tryd.prog 80 #[.slice a n c, .func (.func 95) #[] #[.pointer (some ⟨W.heap.size, 0, none⟩)]] Wb fun e w' => e = .returned (.int .i64 i) ∧ ∃ m, w' = Wb.drewN m := by
    have := indexFunc_any a n c cs 95 #[.pointer (some ⟨W.heap.size, 0, none⟩)] (joinB h) Wb (T7.out.1.1.1.2) hm (enters_of Tryd.func95 (by kernel_rfl) rfl) (join1 h W.heap.size Wb hh16 (T7.out.1.1.2))
    rwa [HI.out] at this
  have HCALL := Lib.hid hcall
  have hmf : ∀ (fn : Fn) (first cap : Array Value) (w : World), (Instr.makeFunc fn first cap).run Tryd.prog w = .ok (.func fn first cap) w := fun _ _ _ _ => rfl
  clear hcall hi
  by_cases c3 : 0 ≤ i
  · skip
    have hd : joinD h cs = some ([(opPatch, 2 + i)], 3) := by unfold joinD; rw [if_neg c0, if_neg (by omega), if_neg (by omega), HI.out, if_pos c3]
    have ho : joinO h cs = (0, 0, []) := by unfold joinO; rw [hd]; rfl
    have HOD := Lib.hid (And.intro ho hd)
    have hcn : ((n : Int) == 0) = false := by rw [beq_eq_false_iff_ne]; omega
    clear hd ho c0 hnl
    go_enter Tryd.func50, Tryd.ntmps50
    have v_h0 : (((W.alloc (.cells #[.int .i64 h] 3)).alloc (.cells #[.slice a n c] 22)).alloc (.cells #[.int .i64 0, .int .i64 0, .slice none 0 0] 24)).cell? ⟨W.heap.size, 0, none⟩ = some (.int .i64 h) := by rw [HWb.out]; exact T7.out.1.1.2
    have v_c0 : (((W.alloc (.cells #[.int .i64 h] 3)).alloc (.cells #[.slice a n c] 22)).alloc (.cells #[.int .i64 0, .int .i64 0, .slice none 0 0] 24)).cell? ⟨W.heap.size + 1, 0, none⟩ = some (.slice a n c) := by rw [HWb.out]; exact T7.out.1.2
    go_wp2_with fail
    rw [HWb.out]
    refine HCALL.out.mono ?_; rintro e w9 ⟨rfl, m, rfl⟩
    clear v_h0 v_c0
    have hzm : (Wb.drewN m).heap[W.heap.size + 1 + 1]? = some (.cells #[.int .i64 0, .int .i64 0, .slice none 0 0] 24) := by simpa using HZ.out
    obtain ⟨w2, hw2⟩ : ∃ w2, Wb.drewN m = w2 := ⟨_, rfl⟩
    rw [hw2] at hzm ⊢
    have hbw2 : Below Wb.heap.size Wb w2 := by rw [← hw2]; exact bdrewN (bnil Wb) m
    have HZ2 := Lib.hid hzm
    clear hzm hw2
    have T8 := T7.up hbw2
    clear T7
    have T9 := T8.add (fun wv => wv.heap[W.heap.size + 1 + 1]? = some (.cells #[.int .i64 0, .int .i64 0, .slice none 0 0] 24)) (HZ2.out)
    clear T8
    go_wp2_with fail
    refine (patch_wrong _ _ _ R (T9.out.1.1.1.1.1.2).glob rfl).mono ?_; rintro e w1 ⟨rfl, rfl⟩
    have hz1 := (T9.out.2)
    have HPE := Lib.hid (pe_at HS0.out (T9.out.1.1.1.1.1.1.2) (show W.heap.size ≤ W.heap.size + 1 + 1 by omega) hz1 (2 + i) 3)
    obtain ⟨⟨d0, d1, d2⟩, f0, f1, f2⟩ := p_cells HPE.out.1
    clear hz1
    go_wp2
    obtain ⟨w9, e9, ⟨r0, r1, r2⟩, hpe⟩ := HPE.out.2
    rw [e9]
    refine bodyPost_ret (v := .tuple #[patV 0 0 none 0 0, .iface 117 (.pointer (some ⟨w2.heap.size, 0, none⟩))]) (by simp [results, Tryd.results50, go_sem, r0, r1, r2]) rfl ?_
    rw [HOD.out.1, HOD.out.2]
    exact hpe.ret
  · skip
    have hd : joinD h cs = none := by unfold joinD; rw [if_neg c0, if_neg (by omega), if_neg (by omega), HI.out, if_neg c3]
    have ho : joinO h cs = ((n : Int), (h : Int), joinL h cs) := by unfold joinO; rw [if_pos hd, hnl]; rfl
    obtain ⟨h', he, hj⟩ := joinD_none hd
    obtain rfl : h = h' := by omega
    have HJ := Lib.hid hj
    have HOD := Lib.hid (And.intro ho hd)
    have HNL := Lib.hid hnl
    have hcn : ((n : Int) == 0) = false := by rw [beq_eq_false_iff_ne]; omega
    clear hd ho c0 hj he hnl
    go_enter Tryd.func50, Tryd.ntmps50
    have v_h0 : (((W.alloc (.cells #[.int .i64 h] 3)).alloc (.cells #[.slice a n c] 22)).alloc (.cells #[.int .i64 0, .int .i64 0, .slice none 0 0] 24)).cell? ⟨W.heap.size, 0, none⟩ = some (.int .i64 h) := by rw [HWb.out]; exact T7.out.1.1.2
    have v_c0 : (((W.alloc (.cells #[.int .i64 h] 3)).alloc (.cells #[.slice a n c] 22)).alloc (.cells #[.int .i64 0, .int .i64 0, .slice none 0 0] 24)).cell? ⟨W.heap.size + 1, 0, none⟩ = some (.slice a n c) := by rw [HWb.out]; exact T7.out.1.2
    go_wp2_with fail
    rw [HWb.out]
    refine HCALL.out.mono ?_; rintro e w9 ⟨rfl, m, rfl⟩
    clear v_h0 v_c0
    have hzm : (Wb.drewN m).heap[W.heap.size + 1 + 1]? = some (.cells #[.int .i64 0, .int .i64 0, .slice none 0 0] 24) := by simpa using HZ.out
    obtain ⟨w2, hw2⟩ : ∃ w2, Wb.drewN m = w2 := ⟨_, rfl⟩
    rw [hw2] at hzm ⊢
    have hbw2 : Below Wb.heap.size Wb w2 := by rw [← hw2]; exact bdrewN (bnil Wb) m
    have HZ2 := Lib.hid hzm
    have HL2 : Hid (W.heap.size + 1 + 1 < w2.heap.size) := heap_ltT HZ2.out
    clear hzm hw2
    have T8 := T7.up hbw2
    clear T7
    have HCO := Lib.hid (join2 h (W.heap.size + 1) a n c cs w2 HJ.out (T8.out.1.1.1.2) (T8.out.1.2))
    have v_h0 : w2.cell? ⟨W.heap.size, 0, none⟩ = some (.int .i64 h) := T8.out.1.1.2
    have v_c0 : w2.cell? ⟨W.heap.size + 1, 0, none⟩ = some (.slice a n c) := T8.out.1.2
    go_wp2_with fail
    refine (made_any n h 96 _ _ _ (by omega) (by omega) hh1 (by omega) (enters_of Tryd.func96 (by kernel_rfl) rfl) HCO.out).mono ?_; rintro e w3 ⟨g, c2, rfl, ho2, hbw3⟩
    clear v_h0 v_c0
    have T9 := T8.up hbw3
    clear T8
    have HO2 := Lib.hid ho2
    have hz := (hbw3.block _ (heap_ltT HZ2.out)).trans HZ2.out
    have HZ8 := Lib.hid hz
    obtain ⟨⟨d0, d1, d2⟩, f0, f1, f2⟩ := p_cells hz
    clear ho2 hz
    go_wp2
    obtain ⟨w9, e9, ⟨r0, r1, r2⟩, hk9, hs9, hbl9⟩ := set3p HZ8.out (.int .i64 n) (.int .i64 h) (.slice (some ⟨g, 0, none⟩) (n * h) c2)
    rw [e9]
    refine bodyPost_ret (v := .tuple #[patV n h (some ⟨g, 0, none⟩) (n * h) c2, .nilIface]) (by simp [results, Tryd.results50, go_sem, r0, r1, r2]) rfl ?_
    rw [HOD.out.1, HOD.out.2]
    have hL2 := HL2.out
    refine ⟨_, _, _, _, rfl, ?_, rfl, hbl9 _ _ (by omega) (T9.out.1.1.1.1.1.2)⟩
    show OwI w9 W.heap.size (some ⟨g, 0, none⟩) (n * h) c2 (madeL cs.length h (joinF cs))
    rw [← HNL.out]
    exact OwI.base (b' := W.heap.size) ⟨own_of_heap' HO2.out.own fun b hb => hk9 b (by have := (HO2.out.own.lt b hb).1; omega)⟩ (by omega)
end Go.Proofs.YtocfkmdoalhjmaaDoor
