/- ring.Trace where nothing is refused. -/
import Derived.Test.YtjgblanpaanglaaDoorRngW
import Derived.Deep.RegionLaw
namespace Go.Proofs.YtjgblanpaanglaaDoor
open Go.RowKit
set_option linter.unusedVariables false
set_option maxRecDepth 100000

theorem own_ofR {w w' : World} {base sz n : Nat} {e : TypeId} {v : Value} {cs : List Value} (h : w.ownsRow base e sz v n cs) (hh : ∀ b, v.ownBlock = some b → w'.heap[b]? = w.heap[b]?) : w'.ownsRow base e sz v n cs := by
  refine ⟨h.1, ?_⟩
  rcases h.2 with hn | ⟨g, cap, cur, rfl, hbg, hg, rest⟩
  · exact .inl hn
  · exact .inr ⟨g, cap, cur, rfl, hbg, (hh g rfl).trans hg, rest⟩
theorem ap_laterR {w w2 : World} {b1 b2 sz1 sz2 n1 n2 : Nat} {e1 e2 : TypeId} {v1 v2 : Value} {c1 c2 : List Value} (h1 : w.ownsRow b1 e1 sz1 v1 n1 c1) (h2 : w2.ownsRow b2 e2 sz2 v2 n2 c2) (hb : w.heap.size ≤ b2) : Ap v1 v2 := by
  intro g hg1 hg2
  have := (h1.lt g hg1).2
  have := (h2.lt g hg2).1
  omega
theorem own_neT {w : World} {b sz n gr : Nat} {e t : TypeId} {v : Value} {cs : List Value} {xs : Array Value} (h : w.ownsRow b e sz v n cs) (hne : e ≠ t) (hz : w.heap[gr]? = some (.cells xs t)) : v.ownBlock ≠ some gr := fun e3 => by
  rcases h.2 with ⟨rfl, _⟩ | ⟨k1, _, _, rfl, _, q1, _⟩
  · cases e3
  · simp only [Value.ownBlock, Option.some.injEq] at e3
    subst e3
    rw [q1] at hz
    simp only [Option.some.injEq, Obj.cells.injEq] at hz
    exact hne hz.2.1
theorem set1R {w : World} {g : Nat} {x0 : Value} {t : TypeId} {fr : Nat × Nat} (h : w.heap[g]? = some (.cells #[x0] t fr)) (u0 : Value) : (w.setCell ⟨g, 0, none⟩ u0).heap[g]? = some (.cells #[u0] t fr) := by
  simp [World.setCell, Array.getElem?_modify, h]
set_option maxHeartbeats 8000000 in
theorem trace1_ok (b0 : Nat) (ao : Option Addr) (i co : Nat) (L : List Int) (a' : Option Addr) (nw c' : Nat) (wl : List Int) (W : World) (hb : W.heap[b0]? = some (.cells #[.slice ao i co] 22)) (ho : OwI W (b0 + 1) ao i co L) (hr : OwI W (b0 + 1) a' nw c' wl) (hap : Ap (.slice ao i co) (.slice a' nw c')) (hn : 0 < nw) (hi : i ≤ 300000) :
    Calls Tryd.prog 33 (#[.slice a' nw c'] ++ #[.pointer (some ⟨b0, 0, none⟩)]) W fun e w' => e = .returned (.tuple #[]) ∧ ∃ a2 c2, w'.heap[b0]? = some (.cells #[.slice a2 (i + 1) c2] 22) ∧ OwI w' (b0 + 1) a2 (i + 1) c2 (L ++ [wl.getD 0 0]) ∧ OwI w' (b0 + 1) a' nw c' wl ∧ Ap (.slice a2 (i + 1) c2) (.slice a' nw c') ∧ Below b0 W w' ∧ ∀ k, k < W.heap.size → k ≠ b0 → (Value.slice ao i co).ownBlock ≠ some k → w'.heap[k]? = W.heap[k]? := by
  show Calls Tryd.prog _ #[.slice a' nw c', .pointer (some ⟨b0, 0, none⟩)] W _
  obtain ⟨ga, rfl, _, _⟩ := own_form hr.own hn
  have hb0l : b0 < W.heap.size := heap_ltT hb
  obtain ⟨_, _, e8, _, hcell⟩ := hr.rk.addr hn
  cases e8
  have z0 := hcell 0 hn
  rw [Nat.add_zero] at z0
  have u0 : W.cell? ⟨b0, 0, none⟩ = some (.slice ao i co) := by simp [World.cell?, hb]
  have fb : W.frozen? ⟨b0, 0, none⟩ = false := by simp [World.frozen?, hb]
  obtain ⟨x, hx⟩ : ∃ x, wl.getD 0 0 = x := ⟨_, rfl⟩
  rw [hx] at z0 ⊢
  have i0 : (0 : Int) < (nw : Int) := by omega
  have y3 : (W.alloc (.cells #[.int .i64 x] 3)).cell? ⟨b0, 0, none⟩ = some (.slice ao i co) := al000 u0
  have HB := Lib.hid hb
  have HO : Hid ((W.alloc (.cells #[.int .i64 x] 3)).drew.ownsRow (b0 + 1) 3 1 (.slice ao i co) i (L.map (Value.int .i64))) := ho.own.alloc _
  have HR := Lib.hid hr
  have HAP := Lib.hid hap
  have HL : Hid (b0 + 1 ≤ (W.alloc (.cells #[.int .i64 x] 3)).drew.heap.size) := by show _ ≤ (W.alloc (.cells #[.int .i64 x] 3)).heap.size; simp; omega
  clear hb ho hr hap hcell hx
  go_enter Tryd.func33, Tryd.ntmps33
  go_wp2_with fail
  go_region_law (first
    | (refine stx (by rfl) _ _ _ (by rfl) (b0 + 1) et_int _ i _ HO.out (by rfl) (some ⟨W.heap.size, 0, none⟩) 1 1 _ (by rfl) nofun (rd_new (w := W) (news := #[.int .i64 x]) (m := 1) (sz := 1) rfl rfl) (by simp [Value.oneCell']) (by unfold maxLen; omega) (by omega) HL.out ?_; intro a5 c5 w5 h5; have y5 : w5.cell? ⟨b0, 0, none⟩ = some (.slice ao i co) := (h5.below.cell (p := ⟨b0, 0, none⟩) (Nat.lt_succ_self b0)).trans y3; have q5 : w5.frozen? ⟨b0, 0, none⟩ = false := (h5.below.frozen (p := ⟨b0, 0, none⟩) (Nat.lt_succ_self b0)).trans (((balloc (bnil W) _).frozen (p := ⟨b0, 0, none⟩) hb0l).trans fb)))
  all_goals
    have hbk : w5.heap[b0]? = some (.cells #[.slice ao i co] 22) := (h5.below.block b0 (Nat.lt_succ_self b0)).trans (((balloc (bnil W) _).block b0 hb0l).trans HB.out)
    have hkp : ∀ k, k < W.heap.size → (Value.slice ao i co).ownBlock ≠ some k → w5.heap[k]? = W.heap[k]? := fun k h1 h2 => (h5.row.block k (Nat.lt_of_lt_of_le h1 (balloc (bnil W) _).size) (fun e => h2 e.symm)).trans ((balloc (bnil W) _).block k h1)
    have HN : Hid ((w5.setCell ⟨b0, 0, none⟩ (.slice a5 (i + 1) c5)).heap[b0]? = some (.cells #[.slice a5 (i + 1) c5] 22)) := set1R hbk _
    have HO5 : Hid (OwI (w5.setCell ⟨b0, 0, none⟩ (.slice a5 (i + 1) c5)) (b0 + 1) a5 (i + 1) c5 (L ++ [x])) := by
      have q := own_ofR (w' := w5.setCell ⟨b0, 0, none⟩ (.slice a5 (i + 1) c5)) h5.own (fun k hk => Below.heap_setCell _ _ _ _ (by have := (h5.own.lt k hk).1; show k ≠ b0; omega))
      exact ⟨by simpa using q⟩
    have HR5 : Hid (OwI (w5.setCell ⟨b0, 0, none⟩ (.slice a5 (i + 1) c5)) (b0 + 1) (some ⟨ga, 0, none⟩) nw c' wl) :=
      ⟨own_ofR HR.out.own (fun k hk => (Below.heap_setCell _ _ _ _ (by have := (HR.out.own.lt k hk).1; show k ≠ b0; omega)).trans (hkp k (HR.out.own.lt k hk).2 (fun e => HAP.out k e hk)))⟩
    have HA5 : Hid (Ap (.slice a5 (i + 1) c5) (.slice (some ⟨ga, 0, none⟩) nw c')) := HAP.out.app h5 (fun g hg => Nat.lt_of_lt_of_le (HR.out.own.lt g hg).2 (balloc (bnil W) _).size)
    have HB5 : Hid (Below b0 W (w5.setCell ⟨b0, 0, none⟩ (.slice a5 (i + 1) c5))) := ((((balloc (bnil W) _).mono (Nat.le_of_lt hb0l)).trans ((Below.drew (bnil _)).mono (by simp; omega))).trans (h5.below.mono (Nat.le_succ b0))).setCell (p := ⟨b0, 0, none⟩) (Nat.le_refl b0) _
    have HK5 : Hid (∀ k, k < W.heap.size → k ≠ b0 → (Value.slice ao i co).ownBlock ≠ some k → (w5.setCell ⟨b0, 0, none⟩ (.slice a5 (i + 1) c5)).heap[k]? = W.heap[k]?) := fun k h1 h2 h3 => (Below.heap_setCell _ _ _ _ h2).trans (hkp k h1 h3)
    clear h5 y5 q5 hbk hkp
    go_wp2
    go_end0
    exact ⟨rfl, a5, c5, HN.out, HO5.out, HR5.out, HA5.out, HB5.out, HK5.out⟩
set_option maxHeartbeats 8000000 in
theorem rwalkT_ok (k r t b0 : Nat) (a : Option Addr) (n c : Nat) (l : List Int) (aw : Option Addr) (nw cw : Nat) (wl : List Int) (W0 W : World) (hb0 : Below W0.heap.size W0 W) (hz0 : W0.heap.size ≤ b0) (hbx : W.heap[b0]? = some (.cells #[.slice none 0 0] 22)) (hR : RK .i64 W0 a n l) (hW : SlI W aw nw cw wl) (h : IsRule k r l) (hw : IsRing k wl) (ht : t * nw ≤ 262144) :
    Calls Tryd.prog 31 #[ruleV k r a n c, .slice aw nw cw, .int .i64 t, .func (.func 33) #[] #[.pointer (some ⟨b0, 0, none⟩)]] W fun e w' => ∃ a' c' ao co, e = .returned (.tuple #[.slice a' nw c', .nilIface]) ∧ w'.heap[b0]? = some (.cells #[.slice ao t co] 22) ∧ OwI w' (b0 + 1) ao t co (trR k r l t wl) ∧ Below b0 W w' := by
  have hnl := hW.rk.len
  have hl1 := hw.l1
  have hl2 := hw.l2
  have HRU := Lib.hid h
  have HRG := Lib.hid hw
  have HR0 := Lib.hid hR
  have HB0 := Lib.hid hb0
  have hq : (262144 : Int).tdiv (nw : Int) = ((262144 / nw : Nat) : Int) := by rw [Int.tdiv_eq_ediv_of_nonneg (by omega)]; rfl
  obtain ⟨Q, hQ⟩ : ∃ Q, 262144 / nw = Q := ⟨_, rfl⟩
  have htQ : t ≤ Q := by rw [← hQ]; exact (Nat.le_div_iff_mul_le (by omega)).2 ht
  have hQ6 : Q ≤ 262144 := by rw [← hQ]; exact Nat.div_le_self _ _
  rw [hQ] at hq
  have hq2 : (262144 : Int) / (nw : Int) = (Q : Int) := by rw [← hQ]; rfl
  have hqw : IntKind.i64.wrap (Q : Int) = (Q : Int) := IntWalk.i64_in _ (by omega)
  have nz : ¬ (nw : Int) = 0 := by omega
  have nzb : ((nw : Int) == 0) = false := by rw [beq_eq_false_iff_ne]; exact nz
  have nzn : ¬ nw = 0 := by omega
  have t0 : ¬ (t : Int) < 0 := by omega
  have t1 : ¬ (Q : Int) < (t : Int) := by omega
  have nw0 : 0 < nw := by omega
  have hb0l : b0 < W.heap.size := heap_ltT hbx
  have HNL := Lib.hid hnl
  clear hQ hnl hR hb0
  have T0 := Tk.nil W
  have T1 := T0.add (fun wv => Below W.heap.size W wv) (bnil W)
  clear T0
  have T2 := T1.add (fun wv => RK .i64 wv a n l) (HR0.out.up HB0.out)
  clear T1
  have T3 := T2.add (fun wv => SlI wv aw nw cw wl) (hW)
  clear T2
  have T4 := T3.add (fun wv => wv.heap[b0]? = some (.cells #[.slice none 0 0] 22)) (hbx)
  clear T3
  clear hW h hw hbx
  obtain ⟨Wb, hWb⟩ : ∃ Wb, W.alloc (.cells #[.int .i64 k, .int .i64 r, .slice a n c] 24) = Wb := ⟨_, rfl⟩
  have hbWb : Below W.heap.size W Wb := by rw [← hWb]; exact balloc (bnil W) _
  have T5 := T4.up hbWb
  clear T4
  have T6 := T5.add (fun wv => wv.cell? ⟨W.heap.size, 0, none⟩ = some (.int .i64 k) ∧ wv.cell? ⟨W.heap.size, 1, none⟩ = some (.int .i64 r) ∧ wv.cell? ⟨W.heap.size, 2, none⟩ = some (.slice a n c)) (by rw [← hWb]; exact ⟨cnw (by simp) rfl, cnw (by simp) rfl, cnw (by simp) rfl⟩)
  clear T5
  have HWb := Lib.hid hWb
  clear hWb hbWb
  have hpz : Wb.heap[W.heap.size]? = some (.cells #[.int .i64 k, .int .i64 r, .slice a n c] 24) := by rw [← HWb.out]; exact heap_alloc_new W _
  have T7 := T6.add (fun wv => wv.heap[W.heap.size]? = some (.cells #[.int .i64 k, .int .i64 r, .slice a n c] 24)) (hpz)
  clear T6
  clear hpz
  go_enter Tryd.func31, Tryd.ntmps31
  have v_p0 : (W.alloc (.cells #[.int .i64 k, .int .i64 r, .slice a n c] 24)).cell? ⟨W.heap.size, 0, none⟩ = some (.int .i64 k) := by rw [HWb.out]; exact T7.out.1.2.1
  have v_p1 : (W.alloc (.cells #[.int .i64 k, .int .i64 r, .slice a n c] 24)).cell? ⟨W.heap.size, 1, none⟩ = some (.int .i64 r) := by rw [HWb.out]; exact T7.out.1.2.2.1
  have v_p2 : (W.alloc (.cells #[.int .i64 k, .int .i64 r, .slice a n c] 24)).cell? ⟨W.heap.size, 2, none⟩ = some (.slice a n c) := by rw [HWb.out]; exact T7.out.1.2.2.2
  go_wp2_with fail
  rw [HWb.out]
  refine (ringcheck_ok k r a n c l aw nw cw wl Wb T7.out.1.1.1.1.2 (T7.out.1.1.1.2).rk HRU.out HRG.out).mono ?_; rintro e w1 ⟨rfl, hbw1⟩
  clear v_p0 v_p1 v_p2
  have T8 := T7.up hbw1
  clear T7
  have HS1 : Hid (b0 + 1 ≤ w1.heap.size) := heap_ltT (T8.out.1.1.2)
  go_wp2_with fail
  refine (clone_any aw nw cw wl w1 (T8.out.1.1.1.2).rk (T8.out.1.1.1.2).n8 (T8.out.1.1.1.2).le (T8.out.1.1.1.2).nn).mono ?_; rintro e w2 ⟨a2, c2, rfl, ho2, hbw2⟩
  have T9 := T8.up hbw2
  clear T8
  have HO2 : Hid (OwI w2 (b0 + 1) a2 nw c2 wl) := ⟨owns_base ho2 HS1.out⟩
  clear ho2
  have HX2 := Lib.hid (T9.out.1.1.2)
  have HP2 := Lib.hid (T9.out.2)
  have HBB := Lib.hid ((T9.out.1.1.1.1.1.2).mono (Nat.le_of_lt hb0l))
  go_wp2_with fail
  go_loopw [1, 31] (fun s1 ix wr => ∃ (i : Nat) (a' : Option Addr) (c' : Nat) (ao : Option Addr) (co : Nat), i ≤ t ∧ ix = .int .i64 (i : Nat) ∧ s1 = .slice a' nw c' ∧ wr.heap[b0]? = some (.cells #[.slice ao i co] 22) ∧ OwI wr (b0 + 1) ao i co (trR k r l i wl) ∧ OwI wr (b0 + 1) a' nw c' (itR k r l i wl) ∧ Ap (.slice ao i co) (.slice a' nw c') ∧ wr.heap[W.heap.size]? = some (.cells #[.int .i64 k, .int .i64 r, .slice a n c] 24) ∧ Below b0 W wr) (fun _ ix _ => t - (intOf ix).toNat)
  case atStart => exact ⟨0, a2, c2, none, 0, by omega, rfl, rfl, HX2.out, OwI.nil _ _, HO2.out, (fun g hg => by cases hg), HP2.out, HBB.out⟩
  case round =>
    obtain ⟨i, a', c', ao, co, hi, rfl, rfl, hbo, hoo, ho, hap, hpb, hb⟩ := hrel
    have HBO := Lib.hid hbo
    have HOO := Lib.hid hoo
    have HO := Lib.hid ho
    have HAP := Lib.hid hap
    have HPB := Lib.hid hpb
    have HB := Lib.hid hb
    clear hbo hoo ho hap hpb hb
    by_cases hit : i < t
    · skip
      have i1 : (i : Int) < (t : Int) := by omega
      have hef := enters_of Tryd.func33 (by kernel_rfl) rfl
      go_wp2_with fail
      refine (trace1_ok b0 ao i co (trR k r l i wl) a' nw c' (itR k r l i wl) wr HBO.out HOO.out HO.out HAP.out nw0 (by omega)).mono ?_; rintro e w5 ⟨rfl, a5, c5, hb5, ho5, hr5, ha5, hbb5, hk5⟩
      clear hef
      have hp5 := (hk5 W.heap.size (heap_ltT HPB.out) (by omega) (fun q => own_neT HOO.out.own (by decide) HPB.out q)).trans HPB.out
      have hB5 : Below b0 W w5 := HB.out.trans hbb5
      have HR5 := Lib.hid (HR0.out.up (w' := w5) (HB0.out.trans (hB5.mono hz0)))
      have hap5 := ha5
      obtain ⟨x0, x1, x2⟩ : (w5.cell? ⟨W.heap.size, 0, none⟩ = some (.int .i64 k) ∧ w5.cell? ⟨W.heap.size, 1, none⟩ = some (.int .i64 r) ∧ w5.cell? ⟨W.heap.size, 2, none⟩ = some (.slice a n c)) := ⟨by simp [World.cell?, hp5], by simp [World.cell?, hp5], by simp [World.cell?, hp5]⟩
      have H5 := Lib.hid (And.intro hb5 (And.intro ho5 (And.intro hr5 (And.intro hp5 hB5))))
      clear hb5 ho5 hr5 ha5 hap5 hbb5 hk5 hp5 hB5
      go_wp2_with fail
      refine (rimage_ok k r a n c l a' nw c' (itR k r l i wl) w5 HR5.out H5.out.2.2.1.rk HRU.out (itR_ring HRU.out HRG.out i)).mono ?_; rintro e w6 ⟨a3, c3, rfl, ho3, hb6⟩
      clear x0 x1 x2
      have hb0w : b0 + 1 ≤ w5.heap.size := heap_ltT H5.out.1
      have H6 : Hid (OwI w6 (b0 + 1) a5 (i + 1) c5 (trR k r l (i + 1) wl)) := by
        show OwI _ _ _ _ _ _
        rw [trR_succ]
        exact H5.out.2.1.up hb6
      have HA6 : Hid (Ap (.slice a5 (i + 1) c5) (.slice a3 nw c3)) := ap_laterR H5.out.2.1.own ho3.own (Nat.le_refl _)
      go_wp2
      go_roundw
      case rel => exact ⟨i + 1, a3, c3, a5, c5, by omega, by go_num, rfl, (hb6.block b0 hb0w).trans H5.out.1, H6.out, ho3.base hb0w, HA6.out, (hb6.block _ (heap_ltT H5.out.2.2.2.1)).trans H5.out.2.2.2.1, H5.out.2.2.2.2.trans (hb6.mono (Nat.le_of_lt hb0w))⟩
      case measure => simp [intOf]; omega
    · obtain rfl : t = i := by omega
      have i2 : ¬ (t : Int) < (t : Int) := by omega
      go_wp2
      go_ret2
      first | exact ⟨a', c', ao, co, rfl, HBO.out, HOO.out, HB.out⟩ | exact ⟨⟨_, _, rfl⟩, ao, co, HBO.out, HOO.out, HB.out⟩
set_option maxHeartbeats 8000000 in
theorem rtrace_ok (k r t : Nat) (a : Option Addr) (n c : Nat) (l : List Int) (aw : Option Addr) (nw cw : Nat) (wl : List Int) (W : World) (hR : RK .i64 W a n l) (hW : SlI W aw nw cw wl) (h : IsRule k r l) (hw : IsRing k wl) (ht : t * nw ≤ 262144) :
    Calls Tryd.prog 11 #[ruleV k r a n c, .slice aw nw cw, .int .i64 t] W fun e w' => ∃ ao co, e = .returned (.tuple #[.slice ao t co, .nilIface]) ∧ OwI w' W.heap.size ao t co (trR k r l t wl) ∧ Below W.heap.size W w' := by
  obtain ⟨W1, hW1⟩ : ∃ W1, W.alloc (.cells #[.int .i64 k, .int .i64 r, .slice a n c] 24) = W1 := ⟨_, rfl⟩
  obtain ⟨Wb, hWb⟩ : ∃ Wb, W1.alloc (.cells #[.slice none 0 0] 22) = Wb := ⟨_, rfl⟩
  have hb1 : Below W.heap.size W W1 := by rw [← hW1]; exact balloc (bnil W) _
  have hb2 : Below W1.heap.size W1 Wb := by rw [← hWb]; exact balloc (bnil W1) _
  have HBX : Hid (Below W.heap.size W Wb) := bstep hb1 hb2
  have HZ : Hid (Wb.heap[W1.heap.size]? = some (.cells #[.slice none 0 0] 22)) := by show _ = _; rw [← hWb]; exact heap_alloc_new W1 _
  have hsz : W1.heap.size = W.heap.size + 1 := by rw [← hW1]; simp
  have x0 : Wb.cell? ⟨W.heap.size, 0, none⟩ = some (.int .i64 k) := by rw [← hWb, ← hW1]; exact al000 (cnw rfl rfl)
  have x1 : Wb.cell? ⟨W.heap.size, 1, none⟩ = some (.int .i64 r) := by rw [← hWb, ← hW1]; exact al000 (cnw rfl rfl)
  have x2 : Wb.cell? ⟨W.heap.size, 2, none⟩ = some (.slice a n c) := by rw [← hWb, ← hW1]; exact al000 (cnw rfl rfl)
  have HWB : Hid ((W.alloc (.cells #[.int .i64 k, .int .i64 r, .slice a n c] 24)).alloc (.cells #[.slice none 0 0] 22) = Wb) := by show _ = _; rw [hW1, hWb]
  have hle : W.heap.size ≤ W1.heap.size := by omega
  have HLE := Lib.hid hle
  have HB1 := Lib.hid hb1
  rw [hsz] at HZ HLE
  clear hW1 hWb hb1 hb2 hle
  go_enter Tryd.func11, Tryd.ntmps11
  rw [← HWB.out] at x0 x1 x2
  go_wp2_with fail
  rw [HWB.out]
  refine (rwalkT_ok k r t (W.heap.size + 1) a n c l aw nw cw wl W Wb HBX.out HLE.out HZ.out hR (hW.up HBX.out) h hw ht).mono ?_; rintro e w1 ⟨a2, c2, ao, co, rfl, hbo, hoo, hb3⟩
  have u0 : w1.cell? ⟨W.heap.size + 1, 0, none⟩ = some (.slice ao t co) := by simp [World.cell?, hbo]
  go_wp2
  go_ret2
  exact ⟨_, _, rfl, hoo.base (by omega), HBX.out.trans (hb3.mono (by omega))⟩
end Go.Proofs.YtjgblanpaanglaaDoor
