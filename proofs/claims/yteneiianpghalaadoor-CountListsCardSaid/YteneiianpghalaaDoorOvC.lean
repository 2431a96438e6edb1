/- The search of package overlap: (*dead).on. -/
import Derived.Test.YteneiianpghalaaDoorOvB
import Derived.Deep.RegionLaw
import Derived.Deep.RegionHeld3
import Derived.Deep.Cut
import Derived.StillTailTactics
import Derived.Deep.QuietTactic
import Derived.BigQuiet
namespace Go.Proofs.YteneiianpghalaaDoor
open Go.RowKit
set_option linter.unusedVariables false
set_option maxRecDepth 100000

/-- what a call of on leaves; c: how many ways lead on -/
def OnPost (B k r T cT n cw M gd ga N : Nat) (aT aw : Option Addr) (gr : Nat → Nat) (tb wl : List Int) (ax : Option Addr) (nx cx : Nat) (W : World) (al : Option Addr) (L cl c : Nat) (e : Ending) (w' : World) : Prop :=
  ∃ (D' : Nat → Nat → Bool) (al' : Option Addr) (L' cl' : Nat) (more' b : Bool), e = .returned (.bool b) ∧ DState w' B k r aT T cT aw n cw M gd ga N gr D' al' L' cl' more' ∧ XOwn w' B ax nx cx ∧ DKeep B gd n gr W w' (.slice al L cl) (.slice ax nx cx) (.slice al' L' cl') ∧
    (∀ i u, i < n → u < N → D' i u = true → wayL k N tb (wl.drop i) u = 0) ∧ ((L + c ≤ M ∧ L' = L + c ∧ more' = false ∧ b = decide (0 < c)) ∨ (M < L + c ∧ L' = M ∧ more' = true ∧ b = true))

theorem cpW {w w' : World} {a : Addr} {v : Value} (hb : Below w.heap.size w w') (h : w.cell? a = some v) : w'.cell? a = some v := (hb.cell (World.block_lt_of_cell? _ _ h)).trans h
theorem lit_at {w : World} {v : Value} {t : TypeId} : (w.alloc (.cells #[v] t)).cell? ⟨w.heap.size, 0, none⟩ = some v := by simp
theorem lit_at2 {w : World} {v : Value} {t : TypeId} : (w.alloc (.cells #[v] t)).drew.cell? ⟨w.heap.size, 0, none⟩ = some v := by simp
theorem lit_size {w : World} {B : Nat} {o : Obj} (h : B ≤ w.heap.size) : B ≤ (w.alloc o).heap.size := by simp; omega
/-- the list's cell behind the append: as it was -/
theorem list_cell {w w4 w6 : World} {B k r T cT n cw M gd ga N L cl : Nat} {aT aw al : Option Addr} {gr : Nat → Nat} {D : Nat → Nat → Bool} {m : Bool} {o : Obj} (h : DState w B k r aT T cT aw n cw M gd ga N gr D al L cl m) (hb : Below w.heap.size w w4) {a5 : Option Addr} {c5 : Nat} {ls : List Value} (hr : InRoom (w4.alloc o) w6 (.slice al L cl) (.slice a5 (L + 1) c5) L 1) (ho : w6.ownsRow B 22 1 (.slice a5 (L + 1) c5) (L + 1) ls) :
    w6.cell? ⟨gd, 6, none⟩ = some (.slice al L cl) ∧ w6.frozen? ⟨gd, 6, none⟩ = false := by
  have h4 := (h.up hb).up (balloc (bnil w4) o)
  obtain ⟨l0, hl0⟩ := h4.li
  have e : w6.heap[gd]? = (w4.alloc o).heap[gd]? := by
    rcases hr with ⟨g, c, e1, _, _, hh⟩ | ⟨g, c, _, _, hh⟩
    · exact hh gd (heap_ltO h4.ds) fun e => own_ne hl0 h4.ds (by decide) (by rw [e1, e]; rfl)
    · exact hh gd (heap_ltO h4.ds)
  have hd := e.trans h4.ds
  simp [World.cell?, World.frozen?, hd]

/-- behind the append onto the list: the symbols are owned, the search's own block lies where it lay -/
theorem listed {w w' : World} {B k r T cT n cw M gd ga N L cl nx cx : Nat} {aT aw al ax : Option Addr} {gr : Nat → Nat} {D : Nat → Nat → Bool} {m : Bool} (h : DState w B k r aT T cT aw n cw M gd ga N gr D al L cl m) (hx : XOwn w B ax nx cx) {a5 : Option Addr} {c5 : Nat} {ls : List Value} (hr : InRoom w w' (.slice al L cl) (.slice a5 (L + 1) c5) L 1) (ho : w'.ownsRow B 22 1 (.slice a5 (L + 1) c5) (L + 1) ls) :
    XOwn w' B ax nx cx ∧ w'.heap[gd]? = some (.cells #[.int .i64 k, .int .i64 r, .slice aT T cT, .slice aw n cw, .slice (some ⟨ga, 0, none⟩) n n, .int .i64 M, .slice al L cl, .bool m] 105) := by
  obtain ⟨l0, hl0⟩ := h.li
  obtain ⟨lx, hox⟩ := hx
  have hk : ∀ b, b < w.heap.size → (Value.slice al L cl).ownBlock ≠ some b → w'.heap[b]? = w.heap[b]? := fun b hb hne => by
    rcases hr with ⟨g, c, e1, _, _, hh⟩ | ⟨g, c, _, _, hh⟩
    · exact hh b hb fun e => hne (by rw [e1, e]; rfl)
    · exact hh b hb
  refine ⟨⟨lx, own_of_heap hox fun b hb => hk b (hox.lt b hb).2 fun e => ap_typeO hox hl0 (by decide) b hb e⟩, ?_⟩
  rw [hk gd (heap_ltO h.ds) (own_ne hl0 h.ds (by decide))]
  exact h.ds
set_option maxHeartbeats 8000000 in
theorem on_leaf (B k r T cT n cw M gd ga N : Nat) (aT aw : Option Addr) (gr : Nat → Nat) (tb wl : List Int) (D : Nat → Nat → Bool) (ax : Option Addr) (nx cx u : Nat) (W : World) (al : Option Addr) (L cl : Nat)
    (hn : n ≤ 256) (hM : M ≤ 256) (hLM : L ≤ M) (hnx : nx ≤ 1000) (hB : B ≤ W.heap.size) (hy : DLay B gd ga n gr) (hd : DState W B k r aT T cT aw n cw M gd ga N gr D al L cl false) (hx : XOwn W B ax nx cx) (hD : ∀ i u, i < n → u < N → D i u = true → wayL k N tb (wl.drop i) u = 0) :
    Calls Tryd.prog 62 #[.pointer (some ⟨gd, 0, none⟩), .slice ax nx cx, .int .i64 u, .int .i64 n] W (OnPost B k r T cT n cw M gd ga N aT aw gr tb wl ax nx cx W al L cl 1) := by
  obtain ⟨c0, c1, c2, c3, c4, c5, c6, c7, fz⟩ := hd.cells
  have HD := Lib.hid hd
  have HX := Lib.hid hx
  have HDD := Lib.hid hD
  have HY := Lib.hid hy
  have HGD : Hid (gd < W.heap.size) := heap_ltO hd.ds
  obtain ⟨lx, hox⟩ := hx
  obtain ⟨ls, hol⟩ := hd.li
  have hcap := own_cap hox
  have HCAP := Lib.hid hcap
  have HRX : Hid (RK .i64 W ax nx lx) := RK.of_own hox
  have HOL := Lib.hid hol
  have f6 := fz 6
  have f7 := fz 7
  clear hd hD hy hox hol fz hcap
  by_cases hL : L < M
  · have hLI : (L : Int) < (M : Int) := by omega
    go_enter Tryd.func62, Tryd.ntmps62
    go_wp2_with fail
    go_quiet (fail)
    obtain ⟨W0, hW0⟩ : ∃ W0, W.drewN nq = W0 := ⟨_, rfl⟩
    have hb0 : Below W.heap.size W W0 := by rw [← hW0]; exact bdrewN (bnil W) nq
    rw [hW0]
    have HB0 := Lib.hid hb0
    have HRX0 := Lib.hid (HRX.out.up hb0.drew)
    have HOL0 := Lib.hid (owns_up HOL.out hb0)
    have k6 : W0.cell? ⟨gd, 6, none⟩ = some (.slice al L cl) := cpW hb0 c6
    have kf : W0.frozen? ⟨gd, 6, none⟩ = false := (hb0.frozen (p := ⟨gd, 6, none⟩) HGD.out).trans f6
    have HD0 := Lib.hid (HD.out.up HB0.out)
    have HGD0 : Hid (gd < W0.heap.size) := Nat.lt_of_lt_of_le HGD.out hb0.size
    clear hW0 hb0 c0 c1 c2 c3 c4 c5 c6 c7 f6 f7
    go_wp2_with fail
    go_region_law (first
      | (refine step_app_two (by rfl) _ _ _ (by rfl) B et_ints _ L _ (owns_up HOL0.out (balloc HB4.out _)) (by rfl) 1 w4.heap.size [.slice a4 nx c4] (by decide) (by rfl) (by rfl) (fun j u hu => by cases j with | zero => cases hu; exact lit_at | succ j => cases hu) (by intro u hu; simp at hu; subst hu; rfl) (by unfold maxLen; omega) (by omega) HBS.out ?_; intro a5 c5 w6 ho6 hs6 hb6 hr6; have H6 := Lib.hid (And.intro ho6 (And.intro hs6 (And.intro hb6 hr6))); have hz := list_cell HD0.out HB4.out hr6 ho6; have y6 := hz.1; have y7 := hz.2; clear ho6 hs6 hb6 hr6 hz)
      | (go_simp; go_at_call 73; refine (clone_any ax nx cx lx _ HRX0.out (by omega) HCAP.out.1 HCAP.out.2.2).mono ?_; rintro e w4 ⟨a4, c4, rfl, _, hb4⟩; have hb4' : Below W0.heap.size W0 w4 := (bnil W0).drew.trans hb4; have z6 := cpW hb4' k6; have z6' : (w4.alloc (.cells #[.slice a4 nx c4] 22)).cell? ⟨gd, 6, none⟩ = some (.slice al L cl) := cpW (balloc (bnil w4) _) z6; have HB4 := Lib.hid hb4'; have HBS : Hid (B ≤ (w4.alloc (.cells #[.slice a4 nx c4] 22)).heap.size) := lit_size (Nat.le_trans (Nat.le_trans hB HB0.out.size) hb4'.size); clear hb4 hb4'))
    all_goals
      have h5 := (HD0.out.up HB4.out).up (balloc (bnil w4) (.cells #[.slice a4 nx c4] 22))
      have hb5 : Below W.heap.size W (w4.alloc (.cells #[.slice a4 nx c4] 22)) := balloc (bstep HB0.out HB4.out) _
      have hx5 := HX.out.up hb5
      have HM := Lib.hid (h5.more H6.out.2.2.2 H6.out.1)
      have h6 := listed h5 hx5 H6.out.2.2.2 H6.out.1
      have HX6 := Lib.hid (h6.1.set h6.2 (by decide) (j := 6) (.slice a5 (L + 1) c5))
      have HK := Lib.hid (((DKeep.list hB hb5 H6.out.2.1 H6.out.2.2.1 H6.out.2.2.2 : DKeep B gd n gr W w6 (.slice al L cl) (.slice ax nx cx) (.slice a5 (L + 1) c5))).set (g := gd) (j := 6) HY.out.d (.inl rfl) (.slice a5 (L + 1) c5))
      clear h5 hb5 hx5 h6 y6 y7
      go_wp2
      go_ret
      exact ⟨D, a5, L + 1, c5, false, true, rfl, HM.out, HX6.out, HK.out, HDD.out, .inl ⟨by omega, rfl, rfl, rfl⟩⟩
  · obtain rfl : L = M := by omega
    have hLI : ¬ (L : Int) < (L : Int) := by omega
    go_enter Tryd.func62, Tryd.ntmps62
    go_wp2_with fail
    go_quiet (fail)
    have HT := Lib.hid ((HD.out.up (bdrewN (bnil W) nq)).told)
    have HX6 := Lib.hid ((HX.out.up (bdrewN (bnil W) nq)).set (HD.out.up (bdrewN (bnil W) nq)).ds (by decide) (j := 7) (.bool true))
    have HK := Lib.hid (((DKeep.refl B gd n gr W (.slice al L cl) (.slice ax nx cx)).up hB (bdrewN (bnil W) nq)).set (g := gd) (j := 7) HY.out.d (.inl rfl) (.bool true))
    go_wp2
    go_ret
    exact ⟨D, al, L, cl, true, true, rfl, HT.out, HX6.out, HK.out, HDD.out, .inr ⟨by omega, rfl, rfl, rfl⟩⟩

/-- from the loop's world to a call's: some memory, the append onto the symbols, some memory -/
def XStep (B : Nat) (wr w : World) (vx vx' : Value) (nx : Nat) : Prop := ∃ wa wb, Below wr.heap.size wr wa ∧ wa.heap.size ≤ wb.heap.size ∧ Below B wa wb ∧ InRoom wa wb vx vx' nx 1 ∧ Below wb.heap.size wb w
theorem XStep.up {B nx : Nat} {wr w w' : World} {vx vx' : Value} (h : XStep B wr w vx vx' nx) (hb : Below w.heap.size w w') : XStep B wr w' vx vx' nx := by
  obtain ⟨wa, wb, h1, h2, h3, h4, h5⟩ := h
  exact ⟨wa, wb, h1, h2, h3, h4, bstep h5 hb⟩
theorem XStep.mk {B nx : Nat} {wr wa wb : World} {vx vx' : Value} (h1 : Below wr.heap.size wr wa) (h2 : wa.heap.size ≤ wb.heap.size) (h3 : Below B wa wb) (h4 : InRoom wa wb vx vx' nx 1) : XStep B wr wb vx vx' nx := ⟨wa, wb, h1, h2, h3, h4, bnil wb⟩
theorem XStep.size {B nx : Nat} {wr w : World} {vx vx' : Value} (h : XStep B wr w vx vx' nx) : wr.heap.size ≤ w.heap.size := by
  obtain ⟨wa, wb, h1, h2, h3, h4, h5⟩ := h
  have q1 := h1.size
  have q2 := h5.size
  omega
section
variable {w w' : World} {B k r T cT n cw M gd ga N L cl nx cx : Nat} {aT aw al ax : Option Addr} {gr : Nat → Nat} {D : Nat → Nat → Bool} {more : Bool} {vx' : Value}
theorem XStep.state (h : XStep B w w' (.slice ax nx cx) vx' nx) (hd : DState w B k r aT T cT aw n cw M gd ga N gr D al L cl more) (hx : XOwn w B ax nx cx) : DState w' B k r aT T cT aw n cw M gd ga N gr D al L cl more := by
  obtain ⟨wa, wb, h1, h2, h3, h4, h5⟩ := h
  exact ((hd.up h1).room (hx.up h1) h4).up h5
theorem XStep.below (h : XStep B w w' (.slice ax nx cx) vx' nx) (hB : B ≤ w.heap.size) : Below B w w' := by
  obtain ⟨wa, wb, h1, h2, h3, h4, h5⟩ := h
  have q1 := h1.size
  exact ((h1.mono hB).trans h3).trans (h5.mono (by omega))
theorem XStep.keep {W w3 : World} {vl vl' vl2 : Value} (h : XStep B w w' (.slice ax nx cx) vx' nx) (hk : DKeep B gd n gr W w vl (.slice ax nx cx) vl') (hB : B ≤ W.heap.size) (h3 : DKeep B gd n gr w' w3 vl' vx' vl2) : DKeep B gd n gr W w3 vl (.slice ax nx cx) vl2 := by
  obtain ⟨wa, wb, h1, h2, h4, h5, h6⟩ := h
  exact (hk.up hB h1).call hB h2 h4 h5 h6 h3
theorem XStep.back {w3 : World} {vl2 : Value} (h : XStep B w w' (.slice ax nx cx) vx' nx) (hx : XOwn w B ax nx cx) (hd : DState w B k r aT T cT aw n cw M gd ga N gr D al L cl more) (h3 : DKeep B gd n gr w' w3 (.slice al L cl) vx' vl2) (hx3 : ∃ ax' cx', vx' = .slice ax' (nx + 1) cx' ∧ XOwn w3 B ax' (nx + 1) cx') : XOwn w3 B ax nx cx := by
  obtain ⟨wa, wb, h1, h2, h4, h5, h6⟩ := h
  exact XOwn.back (hx.up h1) (hd.up h1) h2 h5 h6 h3 hx3
end
theorem cell_setD {w : World} {a : Addr} {v u : Value} {g i : Nat} (h : w.cell? a = some v) (hne : a.block ≠ g) : (w.setCell ⟨g, i, none⟩ u).cell? a = some v := by
  rw [World.cell?_of_block (w := w)]
  · exact h
  · rw [Below.heap_setCell _ _ _ _ hne]
theorem readS {V w : World} {B k r T cT n cw M gd ga N L cl bt ot bw ow e i : Nat} {al : Option Addr} {gr : Nat → Nat} {D : Nat → Nat → Bool} {more : Bool} {z : Int} (h : DState w B k r (some ⟨bt, ot, none⟩) T cT (some ⟨bw, ow, none⟩) n cw M gd ga N gr D al L cl more) (hb : Below B V w) (hVB : V.heap.size = B) (hbt : bt < V.heap.size ∧ bw < V.heap.size) (hz : V.cell? ⟨bt, ot + e, none⟩ = some (.int .i64 z)) (hy : V.cell? ⟨bw, ow + i, none⟩ = some (.int .i64 z)) :
    w.cell? ⟨gd, 0, none⟩ = some (.int .i64 k) ∧ w.cell? ⟨gd, 1, none⟩ = some (.int .i64 r) ∧ w.cell? ⟨gd, 2, none⟩ = some (.slice (some ⟨bt, ot, none⟩) T cT) ∧ w.cell? ⟨gd, 3, none⟩ = some (.slice (some ⟨bw, ow, none⟩) n cw) ∧ w.cell? ⟨bt, ot + e, none⟩ = some (.int .i64 z) ∧ w.cell? ⟨bw, ow + i, none⟩ = some (.int .i64 z) := by
  obtain ⟨c0, c1, c2, c3, _⟩ := h.cells
  exact ⟨c0, c1, c2, c3, (hb.cell (p := ⟨bt, ot + e, none⟩) (by rw [← hVB]; exact hbt.1)).trans hz, (hb.cell (p := ⟨bw, ow + i, none⟩) (by rw [← hVB]; exact hbt.2)).trans hy⟩
/-- the cells that the search reads of its own and of rule and word -/
def ReadC (w : World) (gd bt ot bw ow k r e i T cT n cw : Nat) (z y : Int) : Prop :=
  w.cell? ⟨gd, 0, none⟩ = some (.int .i64 k) ∧ w.cell? ⟨gd, 1, none⟩ = some (.int .i64 r) ∧ w.cell? ⟨gd, 2, none⟩ = some (.slice (some ⟨bt, ot, none⟩) T cT) ∧ w.cell? ⟨gd, 3, none⟩ = some (.slice (some ⟨bw, ow, none⟩) n cw) ∧ w.cell? ⟨bt, ot + e, none⟩ = some (.int .i64 z) ∧ w.cell? ⟨bw, ow + i, none⟩ = some (.int .i64 y)

set_option maxHeartbeats 32000000 in
theorem on_step (V : World) (B k r T cT n cw M gd ga N : Nat) (aT aw : Option Addr) (gr : Nat → Nat) (tb wl : List Int) (D : Nat → Nat → Bool) (ax : Option Addr) (nx cx u i : Nat) (W : World) (al : Option Addr) (L cl : Nat)
    (k1 : 1 ≤ k) (k4 : k ≤ 4) (hN0 : 0 < N) (hTN : T = N * k) (hT256 : T ≤ 256) (hTc : T ≤ cT) (hn : n ≤ 256) (hi : i < n) (hu : u < N) (hM : M ≤ 256) (hLM : L ≤ M) (hnx : nx ≤ 1000) (hVB : V.heap.size = B) (hTV : RK .i64 V aT T tb) (hWV : RK .i64 V aw n wl) (hbV : Below B V W) (hB : B ≤ W.heap.size) (hy : DLay B gd ga n gr) (hd : DState W B k r aT T cT aw n cw M gd ga N gr D al L cl false) (hx : XOwn W B ax nx cx) (hD : ∀ i u, i < n → u < N → D i u = true → wayL k N tb (wl.drop i) u = 0)
    (hIH : ∀ (W' : World) (D' : Nat → Nat → Bool) (ax' : Option Addr) (cx' u' : Nat) (al' : Option Addr) (L' cl' : Nat), u' < N → L' ≤ M → Below B V W' → B ≤ W'.heap.size → DState W' B k r aT T cT aw n cw M gd ga N gr D' al' L' cl' false → XOwn W' B ax' (nx + 1) cx' → (∀ i u, i < n → u < N → D' i u = true → wayL k N tb (wl.drop i) u = 0) →
      Calls Tryd.prog 62 #[.pointer (some ⟨gd, 0, none⟩), .slice ax' (nx + 1) cx', .int .i64 u', .int .i64 ((i : Int) + 1)] W' (OnPost B k r T cT n cw M gd ga N aT aw gr tb wl ax' (nx + 1) cx' W' al' L' cl' (wayL k N tb (wl.drop (i + 1)) u'))) :
    Calls Tryd.prog 62 #[.pointer (some ⟨gd, 0, none⟩), .slice ax nx cx, .int .i64 u, .int .i64 i] W (OnPost B k r T cT n cw M gd ga N aT aw gr tb wl ax nx cx W al L cl (wayL k N tb (wl.drop i) u)) := by
  have hwl := hWV.len
  have hway : wayS k N tb wl i u k = wayL k N tb (wl.drop i) u := wayS_all (by omega) (by omega) hu
  have HWAY := Lib.hid hway
  have HIH := Lib.hid hIH
  have HD := Lib.hid hd
  have HX := Lib.hid hx
  have HDD := Lib.hid hD
  have HY := Lib.hid hy
  have HBV := Lib.hid hbV
  have HTN := Lib.hid hTN
  have HVB := Lib.hid hVB
  have HWL := Lib.hid hwl
  have hT0 : 0 < T := by rw [hTN]; exact Nat.mul_pos hN0 (by omega)
  obtain ⟨bt, ot, rfl, hbt, hct⟩ := hTV.addr hT0
  obtain ⟨bw, ow, rfl, hbw, hcw⟩ := hWV.addr (show 0 < n by omega)
  have HCT := Lib.hid hct
  have HCW := Lib.hid hcw
  have HBT := Lib.hid (And.intro hbt hbw)
  have hTc' : (T : Int) ≤ (cT : Int) := by omega
  obtain ⟨c0, c1, c2, c3, c4, c5, c6, c7, fz⟩ := hd.cells
  obtain ⟨r0, r1, r2⟩ := hd.row hi hu
  have iI : (i : Int) < (n : Int) := by omega
  have i0 : (0 : Int) ≤ (i : Int) := by omega
  have uI : (u : Int) < (N : Int) := by omega
  have u0 : (0 : Int) ≤ (u : Int) := by omega
  have hne : ((i : Int) == (n : Int)) = false := by rw [beq_eq_false_iff_ne]; omega
  have HF0 : Hid (D i u = true → wayL k N tb (wl.drop i) u = 0) := fun h => hD i u hi hu h
  clear hIH hd hx hD hy hbV hTN hVB hct hcw hbt hbw fz r2 hTV hWV hwl hway
  obtain ⟨b0, hb0⟩ : ∃ b0, D i u = b0 := ⟨_, rfl⟩
  rw [hb0] at r1 HF0
  clear hb0
  cases b0 with
  | true =>
    have hz := HF0.out rfl
    have HZ := Lib.hid hz
    clear hz
    go_enter Tryd.func62, Tryd.ntmps62
    go_wp2
    go_ret
    exact ⟨D, al, L, cl, false, false, rfl, HD.out, HX.out, DKeep.refl _ _ _ _ _ _ _, HDD.out, .inl ⟨by rw [HZ.out]; omega, by rw [HZ.out]; rfl, rfl, by rw [HZ.out]; rfl⟩⟩
  | false =>
    go_enter Tryd.func62, Tryd.ntmps62
    go_wp2_with fail
    -- LOOP
    clear c0 c1 c2 c3 c4 c5 c6 c7 r0 r1
    go_loopw [9, 10] (fun vx sx wr => ∃ (s : Nat) (D1 : Nat → Nat → Bool) (al1 : Option Addr) (L1 cl1 : Nat) (more1 any1 : Bool), s ≤ k ∧ sx = .int .i64 s ∧ vx = .bool any1 ∧ DState wr B k r (some ⟨bt, ot, none⟩) T cT (some ⟨bw, ow, none⟩) n cw M gd ga N gr D1 al1 L1 cl1 more1 ∧ XOwn wr B ax nx cx ∧ DKeep B gd n gr W wr (.slice al L cl) (.slice ax nx cx) (.slice al1 L1 cl1) ∧ (∀ i u, i < n → u < N → D1 i u = true → wayL k N tb (wl.drop i) u = 0) ∧ ((L + wayS k N tb wl i u s ≤ M ∧ L1 = L + wayS k N tb wl i u s ∧ more1 = false ∧ any1 = decide (0 < wayS k N tb wl i u s)) ∨ (M < L + wayS k N tb wl i u s ∧ L1 = M ∧ more1 = true ∧ any1 = true))) (fun _ sx _ => k - (intOf sx).toNat)
    case atStart => exact ⟨0, D, al, L, cl, false, false, by omega, rfl, rfl, HD.out, HX.out, DKeep.refl _ _ _ _ _ _ _, HDD.out, .inl ⟨by show L + 0 ≤ M; omega, rfl, rfl, rfl⟩⟩
    case round =>
      obtain ⟨s, D1, al1, L1, cl1, more1, any1, hs, rfl, rfl, hd1, hx1, hk1, hdd1, hcase⟩ := hrel
      obtain ⟨c0, c1, c2, c3, c4, c5, c6, c7, fz⟩ := hd1.cells
      obtain ⟨r0, r1, r2⟩ := hd1.row hi hu
      have HD1 := Lib.hid hd1
      have HX1 := Lib.hid hx1
      have HK1 := Lib.hid hk1
      have HDD1 := Lib.hid hdd1
      have HBR := Lib.hid (HBV.out.trans hk1.below)
      have hbs := Nat.le_trans hB hk1.size
      have HGL : Hid (gd < wr.heap.size) := heap_ltO hd1.ds
      have HGA : Hid (ga < wr.heap.size) := heap_ltO hd1.at_
      have HRI : Hid (wr.heap[gr i]? = some (.cells (blv N (D1 i)).toArray 4)) := hd1.rw_ i hi
      have HNE : Hid (gd ≠ gr i ∧ ga ≠ gr i) := ⟨fun e => by have q := hd1.ds; rw [e] at q; rw [hd1.rw_ i hi] at q; simp at q, fun e => by have q := hd1.at_; rw [e] at q; rw [hd1.rw_ i hi] at q; simp at q⟩
      clear hd1 hx1 hk1 hdd1 fz
      rcases hcase with ⟨hle, rfl, rfl, hany⟩ | ⟨hgt, rfl, rfl, rfl⟩
      · by_cases hsk : s < k
        · skip
          obtain ⟨e, he⟩ : ∃ e, u * k + s = e := ⟨_, rfl⟩
          have heT : e < T := by rw [HTN.out, ← he]; have h1 : (u + 1) * k ≤ N * k := Nat.mul_le_mul_right _ hu; rw [Nat.add_mul, Nat.one_mul] at h1; omega
          obtain ⟨m, hm⟩ : ∃ m, u * k = m := ⟨_, rfl⟩
          have hmI : (u : Int) * (k : Int) = (m : Int) := by rw [← hm]; simp
          have hm256 : m ≤ 256 := by rw [← hm]; omega
          have heI : (m : Int) + (s : Int) = (e : Int) := by rw [← he, ← hm]; simp
          obtain ⟨j, hj⟩ : ∃ j, e % N = j := ⟨_, rfl⟩
          have hjN : j < N := by rw [← hj]; exact Nat.mod_lt _ hN0
          have HS1 := Lib.hid (wayS_succ k N tb wl i u s)
          rw [he, hj] at HS1
          obtain ⟨z, hz⟩ : ∃ z, tb.getD e 0 = z := ⟨_, rfl⟩
          obtain ⟨y, hy⟩ : ∃ y, wl.getD i 0 = y := ⟨_, rfl⟩
          have cz := (HBR.out.cell (p := ⟨bt, ot + e, none⟩) (by rw [← HVB.out]; exact HBT.out.1)).trans (HCT.out e heT)
          have cy := (HBR.out.cell (p := ⟨bw, ow + i, none⟩) (by rw [← HVB.out]; exact HBT.out.2)).trans (HCW.out i hi)
          rw [hz] at cz HS1
          rw [hy] at cy HS1
          have HJ := Lib.hid hj
          have eI0 : (0 : Int) ≤ (e : Int) := by omega
          have eI1 : (e : Int) < (T : Int) := by omega
          have sI : (s : Int) < (k : Int) := by omega
          have HANY := Lib.hid hany
          have HKEEP := Lib.hid he
          have HZ1 := Lib.hid hz
          have HY1 := Lib.hid hy
          clear hz hy hm he hj hany
          by_cases hzy : z = y
          · subst hzy
            have HS2 : Hid (wayS k N tb wl i u (s + 1) = wayS k N tb wl i u s + wayL k N tb (wl.drop (i + 1)) j) := by show _ = _; rw [HS1.out, if_pos rfl]
            have HCZ : Hid (V.cell? ⟨bt, ot + e, none⟩ = some (.int .i64 z) ∧ V.cell? ⟨bw, ow + i, none⟩ = some (.int .i64 z)) := ⟨by rw [← HZ1.out]; exact HCT.out e heT, by rw [← HY1.out]; exact HCW.out i hi⟩
            obtain ⟨lx, hox⟩ := HX1.out
            have HOX := Lib.hid hox
            have HLB : Hid (Below wr.heap.size wr (wr.alloc (.cells #[.int .i64 (s : Int)] 3)).drew) := Below.drew (balloc (bnil wr) _)
            have SD := Lib.hid (readS HD1.out.drew (HBR.out.trans ((bnil wr).drew.mono hbs)) HVB.out HBT.out HCZ.out.1 HCZ.out.2)
            have S1 := Lib.hid (readS (HD1.out.up HLB.out) (HBR.out.trans (HLB.out.mono hbs)) HVB.out HBT.out HCZ.out.1 HCZ.out.2)
            have hjT : (e : Int).tmod (N : Int) = (j : Int) := by rw [Int.tmod_eq_emod_of_nonneg (by omega)]; have := HJ.out; rw [← this]; simp
            have hN256 : N ≤ 256 := by have h1 : N * 1 ≤ N * k := Nat.mul_le_mul_left _ k1; have h2 := HTN.out; omega
            have hjw : IntKind.i64.wrap (j : Int) = (j : Int) := IntWalk.i64_in _ (by omega)
            have hiw : IntKind.i64.wrap ((i : Int) + 1) = (i : Int) + 1 := IntWalk.i64_in _ (by omega)
            have hnz : ((N : Int) == 0) = false := by rw [beq_eq_false_iff_ne]; omega
            have hnz2 : ((N : Int) != 0) = true := by simp; omega
            have hnz3 : ¬ N = 0 := by omega
            have hN0I : (0 : Int) < (N : Int) := by omega
            have hjE : (e : Int) % (N : Int) = (j : Int) := by have := HJ.out; rw [← this]; simp
            have ej0 : (0 : Int) ≤ (j : Int) := by omega
            clear hox
            go_wp2_with fail
            clear cz cy c0 c1 c2 c3 c4 c5 c6 c7 r0 r1 r2
            go_region_held3 (fun w' => w'.cell? ⟨gd, 0, none⟩ = some (.int .i64 k) ∧ w'.cell? ⟨gd, 1, none⟩ = some (.int .i64 r) ∧ w'.cell? ⟨gd, 2, none⟩ = some (.slice (some ⟨bt, ot, none⟩) T cT) ∧ w'.cell? ⟨gd, 3, none⟩ = some (.slice (some ⟨bw, ow, none⟩) n cw) ∧ w'.cell? ⟨bt, ot + e, none⟩ = some (.int .i64 z) ∧ w'.cell? ⟨bw, ow + i, none⟩ = some (.int .i64 z))
              (first | with_reducible exact S7.out | with_reducible exact S6.out | with_reducible exact S5.out | with_reducible exact SN.out | with_reducible exact SM.out | with_reducible exact S1.out | with_reducible exact SD.out | go_keep)
              (first
                | (have q := HNB; have hbn := balloc HNB.out (.cells #[.int .i64 (s : Int)] 3); refine step_app_two (by rfl) _ _ _ (by rfl) B et_int _ nx _ (owns_up HOX.out hbn) (by rfl) 1 wn.heap.size [.int .i64 (s : Int)] (by decide) (by rfl) (by rfl) (fun j u hu => by cases j with | zero => cases hu; exact lit_at | succ j => cases hu) (by intro u hu; simp at hu; subst hu; rfl) (by unfold maxLen; omega) (by omega) (Nat.le_trans hbs hbn.size) ?_; intro a5 c5 w5 ho5 hs5 hb5 hr5; have HX5 : Hid (XStep B wr w5 (.slice ax nx cx) (.slice a5 (nx + 1) c5) nx ∧ XOwn w5 B a5 (nx + 1) c5) := ⟨XStep.mk (hbn) hs5 hb5 hr5, ⟨lx ++ [(s : Int)], by simpa using ho5⟩⟩; have S5 := Lib.hid (readS (HX5.out.1.state HD1.out HX1.out) (HBR.out.trans (HX5.out.1.below hbs)) HVB.out HBT.out HCZ.out.1 HCZ.out.2); clear ho5 hs5 hb5 hr5)
                | (have q := LN; refine step_app_two (by rfl) _ _ _ (by rfl) B et_int _ nx _ (owns_up HOX.out HNB.out) (by rfl) 1 wr.heap.size [.int .i64 (s : Int)] (by decide) (by rfl) (by rfl) (fun j u hu => by cases j with | zero => cases hu; exact LN.out | succ j => cases hu) (by intro u hu; simp at hu; subst hu; rfl) (by unfold maxLen; omega) (by omega) (Nat.le_trans hbs HNB.out.size) ?_; intro a5 c5 w5 ho5 hs5 hb5 hr5; have HX5 : Hid (XStep B wr w5 (.slice ax nx cx) (.slice a5 (nx + 1) c5) nx ∧ XOwn w5 B a5 (nx + 1) c5) := ⟨XStep.mk (HNB.out) hs5 hb5 hr5, ⟨lx ++ [(s : Int)], by simpa using ho5⟩⟩; have S5 := Lib.hid (readS (HX5.out.1.state HD1.out HX1.out) (HBR.out.trans (HX5.out.1.below hbs)) HVB.out HBT.out HCZ.out.1 HCZ.out.2); clear ho5 hs5 hb5 hr5)
                | (refine step_app_two (by rfl) _ _ _ (by rfl) B et_int _ nx _ (owns_up HOX.out HLB.out) (by rfl) 1 wr.heap.size [.int .i64 (s : Int)] (by decide) (by rfl) (by rfl) (fun j u hu => by cases j with | zero => cases hu; exact lit_at2 | succ j => cases hu) (by intro u hu; simp at hu; subst hu; rfl) (by unfold maxLen; omega) (by omega) (Nat.le_trans hbs HLB.out.size) ?_; intro a5 c5 w5 ho5 hs5 hb5 hr5; have HX5 : Hid (XStep B wr w5 (.slice ax nx cx) (.slice a5 (nx + 1) c5) nx ∧ XOwn w5 B a5 (nx + 1) c5) := ⟨XStep.mk (HLB.out) hs5 hb5 hr5, ⟨lx ++ [(s : Int)], by simpa using ho5⟩⟩; have S5 := Lib.hid (readS (HX5.out.1.state HD1.out HX1.out) (HBR.out.trans (HX5.out.1.below hbs)) HVB.out HBT.out HCZ.out.1 HCZ.out.2); clear ho5 hs5 hb5 hr5)
                | (have q := HX5; go_at_call 61; (with_reducible refine (nodes_any k r N (some ⟨bt, ot, none⟩) T cT _ k1 HTN.out (by omega)).mono ?_); rintro e9 w6 ⟨rfl, hb6⟩; have HX6 : Hid (XStep B wr w6 (.slice ax nx cx) (.slice a5 (nx + 1) c5) nx ∧ XOwn w6 B a5 (nx + 1) c5) := ⟨HX5.out.1.up hb6, HX5.out.2.up hb6⟩; have S6 := Lib.hid (readS (HX6.out.1.state HD1.out HX1.out) (HBR.out.trans (HX6.out.1.below hbs)) HVB.out HBT.out HCZ.out.1 HCZ.out.2); clear hb6)
                | (go_at_call 61; (with_reducible refine (nodes_any k r N (some ⟨bt, ot, none⟩) T cT _ k1 HTN.out (by omega)).mono ?_); rintro e9 wn ⟨rfl, hb6⟩; first | (have LN : Hid (wn.cell? ⟨wr.heap.size, 0, none⟩ = some (.int .i64 (s : Int))) := cpW (w := (wr.alloc (.cells #[.int .i64 (s : Int)] 3)).drew) hb6 lit_at2; have HNB : Hid (Below wr.heap.size wr wn) := bstep HLB.out hb6; have SN := Lib.hid (readS (HD1.out.up HNB.out) (HBR.out.trans (HNB.out.mono hbs)) HVB.out HBT.out HCZ.out.1 HCZ.out.2); clear hb6) | (have HNB : Hid (Below wr.heap.size wr wn) := (bnil wr).drew.trans hb6; have SN := Lib.hid (readS (HD1.out.up HNB.out) (HBR.out.trans (HNB.out.mono hbs)) HVB.out HBT.out HCZ.out.1 HCZ.out.2); have SM := Lib.hid (readS (HD1.out.up (balloc HNB.out (.cells #[.int .i64 (s : Int)] 3))) (HBR.out.trans ((balloc HNB.out (.cells #[.int .i64 (s : Int)] 3)).mono hbs)) HVB.out HBT.out HCZ.out.1 HCZ.out.2); clear hb6))
                | (have q := HX6; go_at_call 62; (with_reducible refine (HIH.out _ D1 a5 c5 j al1 _ cl1 hjN hle (HBR.out.trans (HX6.out.1.below hbs)) (Nat.le_trans hbs HX6.out.1.size) (HX6.out.1.state HD1.out HX1.out) HX6.out.2 HDD1.out).mono ?_); rintro e9 w7 ⟨D2, al2, L2, cl2, more2, b2, rfl, hd2, hx2, hk2, hdd2, hc2⟩; have HD2 := Lib.hid hd2; have HX2 : Hid (XOwn w7 B ax nx cx) := HX6.out.1.back HX1.out HD1.out hk2 ⟨a5, c5, rfl, hx2⟩; have HK2 := Lib.hid (HX6.out.1.keep HK1.out hB hk2); have HDD2 := Lib.hid hdd2; have HC2 := Lib.hid hc2; have S7 := Lib.hid (readS hd2 (HBV.out.trans HK2.out.below) HVB.out HBT.out HCZ.out.1 HCZ.out.2); clear hd2 hx2 hk2 hdd2 hc2)
                | (have q := HX5; go_at_call 62; (with_reducible refine (HIH.out _ D1 a5 c5 j al1 _ cl1 hjN hle (HBR.out.trans (HX5.out.1.below hbs)) (Nat.le_trans hbs HX5.out.1.size) (HX5.out.1.state HD1.out HX1.out) HX5.out.2 HDD1.out).mono ?_); rintro e9 w7 ⟨D2, al2, L2, cl2, more2, b2, rfl, hd2, hx2, hk2, hdd2, hc2⟩; have HD2 := Lib.hid hd2; have HX2 : Hid (XOwn w7 B ax nx cx) := HX5.out.1.back HX1.out HD1.out hk2 ⟨a5, c5, rfl, hx2⟩; have HK2 := Lib.hid (HX5.out.1.keep HK1.out hB hk2); have HDD2 := Lib.hid hdd2; have HC2 := Lib.hid hc2; have S7 := Lib.hid (readS hd2 (HBV.out.trans HK2.out.below) HVB.out HBT.out HCZ.out.1 HCZ.out.2); clear hd2 hx2 hk2 hdd2 hc2))
            all_goals
              cases b2
              · have hz0 : wayL k N tb (wl.drop (i + 1)) j = 0 ∧ L2 = L + wayS k N tb wl i u s ∧ more2 = false := by
                  rcases HC2.out with ⟨q1, q2, q3, q4⟩ | ⟨_, _, _, q4⟩
                  · have : ¬ 0 < wayL k N tb (wl.drop (i + 1)) j := fun h => by rw [decide_eq_true h] at q4; cases q4
                    exact ⟨by omega, by omega, q3⟩
                  · cases q4
                obtain ⟨hz0, rfl, rfl⟩ := hz0
                have HZ0 := Lib.hid hz0
                clear hz0
                go_wp2
                go_roundw
                case rel => exact ⟨s + 1, D2, al2, _, cl2, false, any1, by omega, by go_num, rfl, HD2.out, HX2.out, HK2.out, HDD2.out, .inl ⟨by rw [HS2.out, HZ0.out]; exact hle, by rw [HS2.out, HZ0.out]; rfl, rfl, by rw [HS2.out, HZ0.out]; exact HANY.out⟩⟩
                case measure => simp [intOf]; omega
              · have hz1 : (L + wayS k N tb wl i u (s + 1) ≤ M ∧ L2 = L + wayS k N tb wl i u (s + 1) ∧ more2 = false ∧ true = decide (0 < wayS k N tb wl i u (s + 1))) ∨ (M < L + wayS k N tb wl i u (s + 1) ∧ L2 = M ∧ more2 = true ∧ true = true) := by
                  rw [HS2.out]
                  rcases HC2.out with ⟨q1, q2, q3, q4⟩ | ⟨q1, q2, q3, q4⟩
                  · have q5 : 0 < wayL k N tb (wl.drop (i + 1)) j := of_decide_eq_true q4.symm
                    exact .inl ⟨by omega, by omega, q3, (decide_eq_true (by omega)).symm⟩
                  · exact .inr ⟨by omega, q2, q3, rfl⟩
                have HZ1' := Lib.hid hz1
                clear hz1
                go_wp2
                go_roundw
                case rel => exact ⟨s + 1, D2, al2, L2, cl2, more2, true, by omega, by go_num, rfl, HD2.out, HX2.out, HK2.out, HDD2.out, HZ1'.out⟩
                case measure => simp [intOf]; omega
          · have hzf : (z == y) = false := by simpa using hzy
            have HS2 : Hid (wayS k N tb wl i u (s + 1) = wayS k N tb wl i u s) := by show _ = _; rw [HS1.out, if_neg hzy]; rfl
            have d2 : wr.drew.cell? ⟨gd, 2, none⟩ = some (.slice (some ⟨bt, ot, none⟩) T cT) := c2
            have d3 : wr.drew.cell? ⟨gd, 3, none⟩ = some (.slice (some ⟨bw, ow, none⟩) n cw) := c3
            have dz : wr.drew.cell? ⟨bt, ot + e, none⟩ = some (.int .i64 z) := cz
            have dy : wr.drew.cell? ⟨bw, ow + i, none⟩ = some (.int .i64 y) := cy
            clear hzy
            go_wp2_with fail
            refine wp_region_still_tail 32 (by kernel_rfl) (by kernel_rfl) ?_
            simp only [List.take_succ_cons, List.take_zero, List.drop_succ_cons, List.drop_zero]
            iterate 32
              with_reducible refine wpStill_step (fun K hK => ?_)
              go_simp
              with_reducible refine hK _ ?_
              clear hK K
            with_reducible refine wpStill_nil ?_
            change wpList _ _ _ _ _ wr.drew
            go_wp2
            go_roundw
            case rel => exact ⟨s + 1, D1, al1, _, cl1, false, any1, by omega, by go_num, rfl, HD1.out.drew, HX1.out.up (bnil wr).drew, HK1.out.up hB (bnil wr).drew, HDD1.out, .inl ⟨by rw [HS2.out]; exact hle, by rw [HS2.out], rfl, by rw [HS2.out]; exact HANY.out⟩⟩
            case measure => simp [intOf]; omega
        · obtain rfl : k = s := by omega
          have HANY := Lib.hid hany
          clear hany
          cases any1
          · skip
            have k4 : wr.drew.cell? ⟨gd, 4, none⟩ = some (.slice (some ⟨ga, 0, none⟩) n n) := c4
            have k7 : wr.drew.cell? ⟨gd, 7, none⟩ = some (.bool false) := c7
            have k0 : wr.drew.cell? ⟨ga, i, none⟩ = some (.slice (some ⟨gr i, 0, none⟩) N N) := r0
            go_wp2_with fail
            all_goals
              refine wp_region_still_tail 18 (by kernel_rfl) (by kernel_rfl) ?_
              simp only [List.take_succ_cons, List.take_zero, List.drop_succ_cons, List.drop_zero]
              iterate 18
                with_reducible refine wpStill_step (fun K hK => ?_)
                go_simp
                with_reducible refine hK _ ?_
                clear hK K
              with_reducible refine wpStill_nil ?_
              change wpList _ _ _ _ _ wr.drew
              have f2 : wr.drew.frozen? ⟨gr i, u, none⟩ = false := r2
              have k1' : wr.drew.cell? ⟨gr i, u, none⟩ = some (.bool (D1 i u)) := r1
              have HMK := Lib.hid ((HD1.out.drew).mark HY.out hi hu true)
              have HX9 := Lib.hid ((HX1.out.up (bnil wr).drew).set (g := gr i) (j := u) (show wr.drew.heap[gr i]? = _ from HRI.out) (by decide) (.bool true))
              have HK9 := Lib.hid ((HK1.out.up hB (bnil wr).drew).set (g := gr i) (j := u) (HY.out.r i hi) (.inr ⟨i, hi, rfl⟩) (.bool true))
              have HD9 : Hid (∀ i' u', i' < n → u' < N → (if i' = i ∧ u' = u then true else D1 i' u') = true → wayL k N tb (wl.drop i') u' = 0) := fun i' u' h1 h2 h3 => by
                by_cases e : i' = i ∧ u' = u
                · obtain ⟨rfl, rfl⟩ := e; rw [← HWAY.out]; have := HANY.out; simp at this; omega
                · rw [if_neg e] at h3; exact HDD1.out i' u' h1 h2 h3
              go_wp2
              go_ret
              exact ⟨_, al1, _, cl1, false, false, rfl, HMK.out, HX9.out, HK9.out, HD9.out, .inl ⟨by rw [← HWAY.out]; exact hle, by rw [← HWAY.out], rfl, by rw [← HWAY.out]; exact HANY.out⟩⟩
          · skip
            have k4 : wr.drew.cell? ⟨gd, 4, none⟩ = some (.slice (some ⟨ga, 0, none⟩) n n) := c4
            have k7 : wr.drew.cell? ⟨gd, 7, none⟩ = some (.bool false) := c7
            have k0 : wr.drew.cell? ⟨ga, i, none⟩ = some (.slice (some ⟨gr i, 0, none⟩) N N) := r0
            go_wp2_with fail
            all_goals
              refine wp_region_still_tail 18 (by kernel_rfl) (by kernel_rfl) ?_
              simp only [List.take_succ_cons, List.take_zero, List.drop_succ_cons, List.drop_zero]
              iterate 18
                with_reducible refine wpStill_step (fun K hK => ?_)
                go_simp
                with_reducible refine hK _ ?_
                clear hK K
              with_reducible refine wpStill_nil ?_
              change wpList _ _ _ _ _ wr.drew
              have f2 : wr.drew.frozen? ⟨gr i, u, none⟩ = false := r2
              have k1' : wr.drew.cell? ⟨gr i, u, none⟩ = some (.bool (D1 i u)) := r1
              have HMK := Lib.hid ((HD1.out.drew).mark HY.out hi hu false)
              have HX9 := Lib.hid ((HX1.out.up (bnil wr).drew).set (g := gr i) (j := u) (show wr.drew.heap[gr i]? = _ from HRI.out) (by decide) (.bool false))
              have HK9 := Lib.hid ((HK1.out.up hB (bnil wr).drew).set (g := gr i) (j := u) (HY.out.r i hi) (.inr ⟨i, hi, rfl⟩) (.bool false))
              have HD9 : Hid (∀ i' u', i' < n → u' < N → (if i' = i ∧ u' = u then false else D1 i' u') = true → wayL k N tb (wl.drop i') u' = 0) := fun i' u' h1 h2 h3 => by
                by_cases e : i' = i ∧ u' = u
                · rw [if_pos e] at h3; cases h3
                · rw [if_neg e] at h3; exact HDD1.out i' u' h1 h2 h3
              go_wp2
              go_ret
              exact ⟨_, al1, _, cl1, false, true, rfl, HMK.out, HX9.out, HK9.out, HD9.out, .inl ⟨by rw [← HWAY.out]; exact hle, by rw [← HWAY.out], rfl, by rw [← HWAY.out]; exact HANY.out⟩⟩
      · skip
        have k4 : wr.drew.cell? ⟨gd, 4, none⟩ = some (.slice (some ⟨ga, 0, none⟩) n n) := c4
        have k7 : wr.drew.cell? ⟨gd, 7, none⟩ = some (.bool true) := c7
        have k0 : wr.drew.cell? ⟨ga, i, none⟩ = some (.slice (some ⟨gr i, 0, none⟩) N N) := r0
        go_wp2_with fail
        all_goals
          refine wp_region_still_tail 18 (by kernel_rfl) (by kernel_rfl) ?_
          simp only [List.take_succ_cons, List.take_zero, List.drop_succ_cons, List.drop_zero]
          iterate 18
            with_reducible refine wpStill_step (fun K hK => ?_)
            go_simp
            with_reducible refine hK _ ?_
            clear hK K
          with_reducible refine wpStill_nil ?_
          change wpList _ _ _ _ _ wr.drew
          have f2 : wr.drew.frozen? ⟨gr i, u, none⟩ = false := r2
          have k1' : wr.drew.cell? ⟨gr i, u, none⟩ = some (.bool (D1 i u)) := r1
          have HMK := Lib.hid ((HD1.out.drew).mark HY.out hi hu false)
          have HX9 := Lib.hid ((HX1.out.up (bnil wr).drew).set (g := gr i) (j := u) (show wr.drew.heap[gr i]? = _ from HRI.out) (by decide) (.bool false))
          have HK9 := Lib.hid ((HK1.out.up hB (bnil wr).drew).set (g := gr i) (j := u) (HY.out.r i hi) (.inr ⟨i, hi, rfl⟩) (.bool false))
          have HD9 : Hid (∀ i' u', i' < n → u' < N → (if i' = i ∧ u' = u then false else D1 i' u') = true → wayL k N tb (wl.drop i') u' = 0) := fun i' u' h1 h2 h3 => by
            by_cases e : i' = i ∧ u' = u
            · rw [if_pos e] at h3; cases h3
            · rw [if_neg e] at h3; exact HDD1.out i' u' h1 h2 h3
          go_wp2
          go_ret
          exact ⟨_, al1, _, cl1, true, true, rfl, HMK.out, HX9.out, HK9.out, HD9.out, .inr ⟨by rw [← HWAY.out]; have h9 := wayS_le k N tb wl i u s k hs; omega, rfl, rfl, rfl⟩⟩
end Go.Proofs.YteneiianpghalaaDoor
