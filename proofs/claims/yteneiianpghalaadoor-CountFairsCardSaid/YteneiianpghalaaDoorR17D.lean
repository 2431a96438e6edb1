/- edenref17.Of, around: the document's numbers of ways. -/
import Derived.Test.YteneiianpghalaaDoorR17C
namespace Go.Proofs.YteneiianpghalaaDoor
open Go.RowKit
set_option linter.unusedVariables false
set_option maxRecDepth 100000

/-- does window x fit at place i of the labels; a label below 0: the window's own midst -/
def pL (k r : Nat) (tb lw : List Int) (i x : Nat) : Bool := decide (tb.getD x 0 = if lw.getD i 0 < 0 then ((x / k ^ r % k : Nat) : Int) else lw.getD i 0)
theorem lit_one : (#[.int .u64 1, .int .u64 0, .int .u64 0, .int .u64 0, .int .u64 0, .int .u64 0, .int .u64 0, .int .u64 0, .int .u64 0, .int .u64 0] : Array Value) = (WL (dg 1)).toArray := by
  rw [wl_lit]
  rfl
theorem lit_zero : (#[.int .u64 0, .int .u64 0, .int .u64 0, .int .u64 0, .int .u64 0, .int .u64 0, .int .u64 0, .int .u64 0, .int .u64 0, .int .u64 0] : Array Value) = (WL (dg 0)).toArray := by
  rw [wl_lit]
  rfl
theorem wpl_storeW {ops : Array Oper} {rest : List Oper} {op : Oper} {ac : Act} {w : World} {Q : Exit → Act → World → Prop} {g n i o : Nat} {F : Nat → Nat} (x' : Nat) {v : Value} (h : Wd w g n F) (hi : i < n) (hv : v = .agg (WL (dg x')).toArray) (ho2 : o = i * 10) (hgd : op.guard = none) (x y : Operand) (ho : op.op = .store 161 x y) (hx : ac.eval x = .pointer (some ⟨g, o, none⟩)) (hy : ac.eval y = v)
    (hK : ∀ w9, Wd w9 g n (upd F i x') → (∀ (V : World) (B : Nat), B ≤ g → Below B V w → Below B V w9) → wpList Tryd.prog ops Q rest (ac.put op.dst undef) w9) : wpList Tryd.prog ops Q (op :: rest) ac w := by
  subst ho2 hv
  exact wpList_store_mid hgd _ x y ho g (i * 10) (WL (dg x')).toArray hx hy (by simpa [WL_len] using h.there hi) (by simp only [List.size_toArray, WL_len]; kernel_rfl) (all_oneCell_toArray (WL_one _)) (hK _ (h.put hi x') (fun V B hB hb => setCells_below hB _ _ _ hb))
theorem wpl_loadB {ops : Array Oper} {rest : List Oper} {op : Oper} {ac : Act} {w : World} {Q : Exit → Act → World → Prop} {g : Nat} {d : Nat → Nat} (h : Bx w g d) (hgd : op.guard = none) (x : Operand) (ho : op.op = .load 161 x) (hx : ac.eval x = .pointer (some ⟨g, 0, none⟩))
    (hK : wpList Tryd.prog ops Q rest (ac.put op.dst (.agg (WL d).toArray)) w) : wpList Tryd.prog ops Q (op :: rest) ac w := wpl_load h hgd x ho hx hK
theorem bx_cells {w : World} {g x : Nat} (h : Bx w g (dg x)) : w.cell? ⟨g, 0, none⟩ = some (.int .u64 ((dg x 0 : Nat) : Int)) ∧ w.cell? ⟨g, 1, none⟩ = some (.int .u64 ((dg x 1 : Nat) : Int)) ∧ w.cell? ⟨g, 2, none⟩ = some (.int .u64 ((dg x 2 : Nat) : Int)) ∧ w.cell? ⟨g, 3, none⟩ = some (.int .u64 ((dg x 3 : Nat) : Int)) ∧ w.cell? ⟨g, 4, none⟩ = some (.int .u64 ((dg x 4 : Nat) : Int)) ∧ w.cell? ⟨g, 5, none⟩ = some (.int .u64 ((dg x 5 : Nat) : Int)) ∧ w.cell? ⟨g, 6, none⟩ = some (.int .u64 ((dg x 6 : Nat) : Int)) ∧ w.cell? ⟨g, 7, none⟩ = some (.int .u64 ((dg x 7 : Nat) : Int)) ∧ w.cell? ⟨g, 8, none⟩ = some (.int .u64 ((dg x 8 : Nat) : Int)) ∧ w.cell? ⟨g, 9, none⟩ = some (.int .u64 ((dg x 9 : Nat) : Int)) := ⟨h.cell (by decide), h.cell (by decide), h.cell (by decide), h.cell (by decide), h.cell (by decide), h.cell (by decide), h.cell (by decide), h.cell (by decide), h.cell (by decide), h.cell (by decide)⟩
theorem bx_froz {w : World} {g x : Nat} (h : Bx w g (dg x)) : w.frozen? ⟨g, 0, none⟩ = false ∧ w.frozen? ⟨g, 1, none⟩ = false ∧ w.frozen? ⟨g, 2, none⟩ = false ∧ w.frozen? ⟨g, 3, none⟩ = false ∧ w.frozen? ⟨g, 4, none⟩ = false ∧ w.frozen? ⟨g, 5, none⟩ = false ∧ w.frozen? ⟨g, 6, none⟩ = false ∧ w.frozen? ⟨g, 7, none⟩ = false ∧ w.frozen? ⟨g, 8, none⟩ = false ∧ w.frozen? ⟨g, 9, none⟩ = false := ⟨h.frozen 0, h.frozen 1, h.frozen 2, h.frozen 3, h.frozen 4, h.frozen 5, h.frozen 6, h.frozen 7, h.frozen 8, h.frozen 9⟩
theorem bput_lit {w : World} {g x : Nat} (h : Bx w g (dg x)) (y : Nat) : Bx ((((((((((w.setCell ⟨g, 0, none⟩ (.int .u64 ((dg y 0 : Nat) : Int))).setCell ⟨g, 1, none⟩ (.int .u64 ((dg y 1 : Nat) : Int))).setCell ⟨g, 2, none⟩ (.int .u64 ((dg y 2 : Nat) : Int))).setCell ⟨g, 3, none⟩ (.int .u64 ((dg y 3 : Nat) : Int))).setCell ⟨g, 4, none⟩ (.int .u64 ((dg y 4 : Nat) : Int))).setCell ⟨g, 5, none⟩ (.int .u64 ((dg y 5 : Nat) : Int))).setCell ⟨g, 6, none⟩ (.int .u64 ((dg y 6 : Nat) : Int))).setCell ⟨g, 7, none⟩ (.int .u64 ((dg y 7 : Nat) : Int))).setCell ⟨g, 8, none⟩ (.int .u64 ((dg y 8 : Nat) : Int))).setCell ⟨g, 9, none⟩ (.int .u64 ((dg y 9 : Nat) : Int))) g (dg y) := bx_set10 h (dg y)
theorem bput_below {w V : World} {g B : Nat} (hB : B ≤ g) (h : Below B V w) (y : Nat) : Below B V ((((((((((w.setCell ⟨g, 0, none⟩ (.int .u64 ((dg y 0 : Nat) : Int))).setCell ⟨g, 1, none⟩ (.int .u64 ((dg y 1 : Nat) : Int))).setCell ⟨g, 2, none⟩ (.int .u64 ((dg y 2 : Nat) : Int))).setCell ⟨g, 3, none⟩ (.int .u64 ((dg y 3 : Nat) : Int))).setCell ⟨g, 4, none⟩ (.int .u64 ((dg y 4 : Nat) : Int))).setCell ⟨g, 5, none⟩ (.int .u64 ((dg y 5 : Nat) : Int))).setCell ⟨g, 6, none⟩ (.int .u64 ((dg y 6 : Nat) : Int))).setCell ⟨g, 7, none⟩ (.int .u64 ((dg y 7 : Nat) : Int))).setCell ⟨g, 8, none⟩ (.int .u64 ((dg y 8 : Nat) : Int))).setCell ⟨g, 9, none⟩ (.int .u64 ((dg y 9 : Nat) : Int))) := setCells_below hB (WL (dg y)) 0 w h
theorem bput_heap {w : World} {g k : Nat} (hk : k ≠ g) (y : Nat) : ((((((((((w.setCell ⟨g, 0, none⟩ (.int .u64 ((dg y 0 : Nat) : Int))).setCell ⟨g, 1, none⟩ (.int .u64 ((dg y 1 : Nat) : Int))).setCell ⟨g, 2, none⟩ (.int .u64 ((dg y 2 : Nat) : Int))).setCell ⟨g, 3, none⟩ (.int .u64 ((dg y 3 : Nat) : Int))).setCell ⟨g, 4, none⟩ (.int .u64 ((dg y 4 : Nat) : Int))).setCell ⟨g, 5, none⟩ (.int .u64 ((dg y 5 : Nat) : Int))).setCell ⟨g, 6, none⟩ (.int .u64 ((dg y 6 : Nat) : Int))).setCell ⟨g, 7, none⟩ (.int .u64 ((dg y 7 : Nat) : Int))).setCell ⟨g, 8, none⟩ (.int .u64 ((dg y 8 : Nat) : Int))).setCell ⟨g, 9, none⟩ (.int .u64 ((dg y 9 : Nat) : Int))).heap[k]? = w.heap[k]? := setCells_heap g k hk (WL (dg y)) 0 w
theorem bput_size {w : World} {g : Nat} (y : Nat) : ((((((((((w.setCell ⟨g, 0, none⟩ (.int .u64 ((dg y 0 : Nat) : Int))).setCell ⟨g, 1, none⟩ (.int .u64 ((dg y 1 : Nat) : Int))).setCell ⟨g, 2, none⟩ (.int .u64 ((dg y 2 : Nat) : Int))).setCell ⟨g, 3, none⟩ (.int .u64 ((dg y 3 : Nat) : Int))).setCell ⟨g, 4, none⟩ (.int .u64 ((dg y 4 : Nat) : Int))).setCell ⟨g, 5, none⟩ (.int .u64 ((dg y 5 : Nat) : Int))).setCell ⟨g, 6, none⟩ (.int .u64 ((dg y 6 : Nat) : Int))).setCell ⟨g, 7, none⟩ (.int .u64 ((dg y 7 : Nat) : Int))).setCell ⟨g, 8, none⟩ (.int .u64 ((dg y 8 : Nat) : Int))).setCell ⟨g, 9, none⟩ (.int .u64 ((dg y 9 : Nat) : Int))).heap.size = w.heap.size := setCells_size g (WL (dg y)) 0 w
theorem wd_heap {w w' : World} {g n : Nat} {F : Nat → Nat} (h : Wd w g n F) (hh : w'.heap[g]? = w.heap[g]?) (hs : w'.heap.size = w.heap.size) : Wd w' g n F := by
  have hc : ∀ o, w'.cell? ⟨g, o, none⟩ = w.cell? ⟨g, o, none⟩ := fun o => by simp only [World.cell?, hh]
  have hf : ∀ o, w'.frozen? ⟨g, o, none⟩ = w.frozen? ⟨g, o, none⟩ := fun o => by simp only [World.frozen?, hh]
  exact ⟨fun i hi j v hv => by rw [hc]; exact h.at_ i hi j v hv, fun j hj => by rw [hc, hf]; exact h.th j hj, by rw [hs]; exact h.lt⟩
theorem fwd_small {k N n : Nat} {p : Nat → Nat → Bool} {A : Nat → Nat} (k1 : 1 ≤ k) (k4 : k ≤ 4) (hN : 0 < N) (hN2 : N ≤ 256) (hA : sumTo N A ≤ 256) (hn : n ≤ 256) : sumTo N (fwd k N p A n) ≤ 256 * 4 ^ 256 := by
  refine Nat.le_trans (fwd_lt hA (by omega) hN n) (Nat.mul_le_mul_left _ ?_)
  exact Nat.le_trans (Nat.pow_le_pow_left k4 n) (Nat.pow_le_pow_right (by decide) hn)
theorem big10 : 256 * (256 * 4 ^ 256) < W64 ^ 10 := by decide +kernel


set_option maxHeartbeats 16000000 in
theorem of_any (k r N : Nat) (a aw : Option Addr) (T c n cw : Nat) (tb lw : List Int) (W : World) (hT : RK .i64 W a T tb) (h : IsRule k r tb) (hTn : T ≤ 256) (hN : N = k ^ (2 * r)) (hL : RK .i64 W aw n lw) (hn : n ≤ 256) :
    Calls Tryd.prog 78 #[ruleV k r a T c, .slice aw n cw] W fun e w' => ∃ a' n' c', e = .returned (.slice a' n' c') ∧ w'.ownsRow W.heap.size 95 1 (.slice a' n' c') n' ((ofN (limbs (sumTo N (fwd k N (pL k r tb lw) (fun _ => 1) n)))).map (Value.int .u32)) ∧ Below W.heap.size W w' := by
  obtain ⟨p, hp⟩ : ∃ p, pL k r tb lw = p := ⟨_, rfl⟩
  rw [hp]
  have HP := Lib.hid hp
  have hN0 : 0 < N := by rw [hN]; exact (h.nodes hT.len).2.1
  have hN256 : N ≤ 256 := by
    have e1 : T = N * k := by rw [hN]; exact (h.nodes hT.len).1
    have : N * 1 ≤ N * k := Nat.mul_le_mul_left _ h.k1
    omega
  have hk1 := h.k1
  have hk4 := h.k4
  have HH := Lib.hid h
  have HT := Lib.hid hT
  have HN := Lib.hid hN
  have HL := Lib.hid hL
  have HCN := Lib.hid (refCount_any k r a T c)
  have HR3 : Hid (r ≤ 3) := h.r3
  have HRB : Hid (Below W.heap.size W (W.alloc (.cells #[.int .i64 (k : Int), .int .i64 (r : Int), .slice a T c] 24))) := balloc (bnil W) _
  have HRX : Hid ((W.alloc (.cells #[.int .i64 (k : Int), .int .i64 (r : Int), .slice a T c] 24)).cell? ⟨W.heap.size, 0, none⟩ = some (.int .i64 (k : Int)) ∧ (W.alloc (.cells #[.int .i64 (k : Int), .int .i64 (r : Int), .slice a T c] 24)).cell? ⟨W.heap.size, 1, none⟩ = some (.int .i64 (r : Int)) ∧ (W.alloc (.cells #[.int .i64 (k : Int), .int .i64 (r : Int), .slice a T c] 24)).cell? ⟨W.heap.size, 2, none⟩ = some (.slice a T c)) := ⟨by simp, by simp, by simp⟩
  clear hT hN hL h hp
  go_enter Tryd.func78, Tryd.ntmps78
  go_wp2_with (first
    | (go_at_call 86; (with_reducible refine (HCN.out _ hk1 hk4 HR3.out).mono ?_); rintro e wa ⟨rfl, hba⟩; rw [← HN.out]; have HBA := Lib.hid hba; clear hba)
    | (at_make; refine mk_full rfl _ _ _ rfl wa.heap.size et_wide .i64 .i64 _ _ N rfl rfl rfl rfl (by omega) (by unfold maxLen; omega) (Nat.le_refl _) ?_; intro w1 hown1 hb1 hsz1))
  obtain ⟨Wb, hWb⟩ : ∃ Wb, W.alloc (.cells #[.int .i64 (k : Int), .int .i64 (r : Int), .slice a T c] 24) = Wb := ⟨_, rfl⟩
  have hsz : Wb.heap.size = W.heap.size + 1 := by rw [← hWb]; simp
  rw [hWb] at HRB HRX HBA
  have HO1 := Lib.hid (Wd.made hown1)
  have HB1 := Lib.hid (HBA.out.trans (hb1.mono HBA.out.size))
  have HAW := Lib.hid HBA.out.size
  have HTb := Lib.hid (HT.out.up HRB.out)
  have HLb := Lib.hid (HL.out.up HRB.out)
  clear hWb hown1 hb1 hsz1 HT HL
  obtain ⟨gb, hgb⟩ : ∃ gb, W.heap.size = gb := ⟨_, rfl⟩
  have hgo : Wb.heap.size = gb + 1 := by rw [← hgb]; exact hsz
  rw [hgb] at HRX
  have HGB := Lib.hid hgb
  have HGO := Lib.hid hgo
  simp only [hgb]
  clear hsz hgb hgo
  obtain ⟨g1, hg1⟩ : ∃ g1, wa.heap.size = g1 := ⟨_, rfl⟩
  rw [hg1] at HO1 HAW
  simp only [hg1]
  clear hg1
  go_loopw [6] (fun ux wr => ∃ u : Nat, u ≤ N ∧ ux = .int .i64 u ∧ Wd wr g1 N (fun v => if v < u then 1 else 0) ∧ Below Wb.heap.size Wb wr) (fun ux _ => N - (intOf ux).toNat)
  case atStart => exact ⟨0, by omega, rfl, HO1.out.congr fun i _ => by simp, HB1.out⟩
  case round =>
    clear HO1 HB1
    obtain ⟨u, hu, rfl, hO, hB⟩ := hrel
    have HO := Lib.hid hO
    have HB := Lib.hid hB
    clear hO hB
    by_cases hun : u < N
    · have u0 : (0 : Int) ≤ (u : Int) := by omega
      have u1 : (u : Int) < (N : Int) := by omega
      go_wp2_with (with_reducible refine wpl_storeW 1 HO.out hun (congrArg Value.agg lit_one) rfl rfl _ _ rfl rfl rfl ?_; intro w9 h9 hbl; have H9 := Lib.hid h9; have HB9 := Lib.hid (hbl _ _ HAW.out HB.out); clear h9 hbl)
      go_roundw
      case rel => exact ⟨u + 1, by omega, by go_num, H9.out.congr fun v _ => by
          by_cases e : v = u
          · subst e; rw [upd_self, if_pos (by omega)]
          · rw [upd_ne _ _ e]
            by_cases h2 : v < u
            · rw [if_pos h2, if_pos (by omega)]
            · rw [if_neg h2, if_neg (by omega)], HB9.out⟩
      case measure => simp [intOf]; omega
    · obtain rfl : u = N := by omega
      have HO2 := Lib.hid (HO.out.congr (G := fun _ => 1) fun v hv => if_pos hv)
      clear HO
      go_wp2_with fail
      go_loopw [5, 7] (fun sx ix wq => ∃ i g ca : Nat, i ≤ n ∧ ix = .int .i64 i ∧ sx = .slice (some ⟨g, 0, none⟩) u ca ∧ gb + 1 ≤ g ∧ Wd wq g u (fwd k u p (fun _ => 1) i) ∧ Below Wb.heap.size Wb wq) (fun _ ix _ => n - (intOf ix).toNat)
      case atStart => exact ⟨0, g1, _, by omega, rfl, rfl, by have h1 := HGO.out; have h2 := HAW.out; omega, HO2.out, HB.out⟩
      clear HO2 HB
      case round =>
        obtain ⟨i, g, ca, hi, rfl, rfl, hgl, hO, hB⟩ := hrel
        have HO := Lib.hid hO
        have HB := Lib.hid hB
        have HGL := Lib.hid hgl
        generalize wr = wq at *
        have hL := HLb.out.up hB
        have hTq := Lib.hid (HTb.out.up hB)
        clear hO hgl
        by_cases hin : i < n
        · obtain ⟨b, o, rfl, hbo, hc⟩ := hL.addr (by omega)
          have z0 := hc i hin
          obtain ⟨z, hz⟩ : ∃ z, lw.getD i 0 = z := ⟨_, rfl⟩
          rw [hz] at z0
          have HON := Lib.hid (fun (w' : World) (hb : Below wq.heap.size wq w') => on_any k r u a T c g ca tb z (fwd k u p (fun _ => 1) i) w' (hTq.out.up hb) HH.out hTn HN.out (HO.out.up hb) (fun v hv => Nat.lt_of_le_of_lt (Nat.le_trans (sumTo_at _ hv) (fwd_small hk1 hk4 hN0 hN256 (by rw [sumTo_const]; omega) (by omega))) (Nat.lt_of_le_of_lt (Nat.le_mul_of_pos_left _ (by decide)) big10)))
          have HZZ := Lib.hid hz
          have x0 := (hB.cell (p := ⟨gb, 0, none⟩) (by rw [HGO.out]; exact Nat.lt_succ_self _)).trans HRX.out.1
          have x1 := (hB.cell (p := ⟨gb, 1, none⟩) (by rw [HGO.out]; exact Nat.lt_succ_self _)).trans HRX.out.2.1
          have x2 := (hB.cell (p := ⟨gb, 2, none⟩) (by rw [HGO.out]; exact Nat.lt_succ_self _)).trans HRX.out.2.2
          have i0 : (0 : Int) ≤ (i : Int) := by omega
          have i1 : (i : Int) < (n : Int) := by omega
          have hbl : gb < wq.heap.size := by have h1 := HGO.out; have h2 := hB.size; omega
          have HBO := Lib.hid (And.intro hbo hbl)
          have SD : Hid (wq.drew.cell? ⟨gb, 0, none⟩ = some (.int .i64 (k : Int)) ∧ wq.drew.cell? ⟨gb, 1, none⟩ = some (.int .i64 (r : Int)) ∧ wq.drew.cell? ⟨gb, 2, none⟩ = some (.slice a T c) ∧ wq.drew.cell? ⟨b, o + i, none⟩ = some (.int .i64 z)) := ⟨x0, x1, x2, z0⟩
          clear hB hc hz hL hbo hbl
          go_wp2_with fail
          go_region_held3 (fun w' => w'.cell? ⟨gb, 0, none⟩ = some (.int .i64 (k : Int)) ∧ w'.cell? ⟨gb, 1, none⟩ = some (.int .i64 (r : Int)) ∧ w'.cell? ⟨gb, 2, none⟩ = some (.slice a T c) ∧ w'.cell? ⟨b, o + i, none⟩ = some (.int .i64 z))
            (first | with_reducible exact SD.out | with_reducible exact S4.out | go_keep)
            (first | (go_at_call 133; (with_reducible refine (HON.out _ (bnil wq).drew).mono ?_); rintro e w4 ⟨g4, c4, rfl, ho4, hg4, hb4⟩; have hb5 : Below wq.heap.size wq w4 := (bnil wq).drew.trans hb4; have S4 : Hid (w4.cell? ⟨gb, 0, none⟩ = some (.int .i64 (k : Int)) ∧ w4.cell? ⟨gb, 1, none⟩ = some (.int .i64 (r : Int)) ∧ w4.cell? ⟨gb, 2, none⟩ = some (.slice a T c) ∧ w4.cell? ⟨b, o + i, none⟩ = some (.int .i64 z)) := ⟨(hb5.cell (p := ⟨gb, 0, none⟩) HBO.out.2).trans x0, (hb5.cell (p := ⟨gb, 1, none⟩) HBO.out.2).trans x1, (hb5.cell (p := ⟨gb, 2, none⟩) HBO.out.2).trans x2, (hb5.cell (p := ⟨b, o + i, none⟩) HBO.out.1).trans z0⟩; have H4 := Lib.hid (And.intro ho4 (And.intro hg4 hb5)); clear ho4 hg4 hb4 hb5))
          all_goals
            have HPI : Hid ((fun x => decide (tb.getD x 0 = if z < 0 then ((x / k ^ r % k : Nat) : Int) else z)) = p i) := by show _ = _; rw [← HP.out, ← HZZ.out]; rfl
            have HN4 : Hid (Wd w4 g4 u (fwd k u p (fun _ => 1) (i + 1))) := by have h4 := H4.out.1; rw [HPI.out] at h4; exact h4
            go_wp2
            go_roundw
            case rel => exact ⟨i + 1, g4, c4, by omega, by go_num, rfl, by have h1 := H4.out.2.1; have h2 : wq.heap.size ≤ g4 := h1; have h3 := HBO.out.2; omega, HN4.out, HB.out.trans (H4.out.2.2.mono HB.out.size)⟩
            case measure => simp [intOf]; omega
        · obtain rfl : i = n := by omega
          obtain ⟨w5, hw5⟩ : ∃ w5, wq.alloc (.cells (WL (dg 0)).toArray 161) = w5 := ⟨_, rfl⟩
          have hb5 : Below wq.heap.size wq w5 := by rw [← hw5]; exact balloc (bnil wq) _
          have hx5 : Bx w5 wq.heap.size (dg 0) := by show w5.heap[_]? = _; rw [← hw5]; exact heap_alloc_new wq _
          have HO5 := Lib.hid (HO.out.up hb5)
          have HGQ := Lib.hid HO.out.lt
          have HB5 := Lib.hid (HB.out.trans (hb5.mono HB.out.size))
          have HW5 := Lib.hid hw5
          have hbs := HB.out.size
          have HBS : Hid (gb + 1 ≤ wq.heap.size) := by show _ ≤ _; have h1 := HGO.out; omega
          obtain ⟨gx, hgx⟩ : ∃ gx, wq.heap.size = gx := ⟨_, rfl⟩
          rw [hgx] at hx5 HGQ HBS
          have HX5 := Lib.hid hx5
          have HGX := Lib.hid hgx
          clear hw5 hb5 hx5 hL hB hgx hbs
          go_wp2_with fail
          simp only [lit_zero]
          rw [HW5.out]
          simp only [HGX.out]
          go_loopw [9] (fun vx wz => ∃ v : Nat, v ≤ u ∧ vx = .int .i64 v ∧ Bx wz gx (dg (sumTo v (fwd k u p (fun _ => 1) i))) ∧ Wd wz g u (fwd k u p (fun _ => 1) i) ∧ Below Wb.heap.size Wb wz) (fun vx _ => u - (intOf vx).toNat)
          case atStart => exact ⟨0, by omega, rfl, HX5.out, HO5.out, HB5.out⟩
          clear HX5 HO5 HB5 HW5 HO HB
          case round =>
            obtain ⟨v, hv, rfl, hX, hO, hB⟩ := hrel
            generalize wr = wz at *
            have HX := Lib.hid hX
            have HO := Lib.hid hO
            have HB := Lib.hid hB
            by_cases hvu : v < u
            · obtain ⟨x, hx⟩ : ∃ x, fwd k u p (fun _ => 1) i v = x := ⟨_, rfl⟩
              obtain ⟨y, hy⟩ : ∃ y, sumTo v (fwd k u p (fun _ => 1) i) = y := ⟨_, rfl⟩
              have HY : Hid (y + x = sumTo (v + 1) (fwd k u p (fun _ => 1) i)) := by show _ = _; rw [sumTo, hy, hx]
              rw [hy] at HX hX
              obtain ⟨p0, p1, p2, p3, p4, p5, p6, p7, p8, p9⟩ := bx_cells hX
              obtain ⟨r0, r1, r2, r3, r4, r5, r6, r7, r8, r9⟩ := wd_cells hO hvu hx
              have HXX := Lib.hid hx
              have u0 : (0 : Int) ≤ (v : Int) := by omega
              have u1 : (v : Int) < (u : Int) := by omega
              clear hX hO hB hx hy
              go_wp2_with fail
              go_region_with ((go_at_call 134; (with_reducible refine (wsum_lit y x _).mono ?_); rintro e w4 ⟨rfl, hb4⟩; have H4 := Lib.hid ((bnil wz).drew.trans hb4); have hO4 := HX.out.up H4.out; obtain ⟨s0, s1, s2, s3, s4, s5, s6, s7, s8, s9⟩ := bx_cells hO4; obtain ⟨f0, f1, f2, f3, f4, f5, f6, f7, f8, f9⟩ := bx_froz hO4; have HO4 := Lib.hid hO4; clear hb4 hO4))
              all_goals
                have HN := Lib.hid (bput_lit HO4.out (y + x))
                have HBN := Lib.hid (bput_below (show Wb.heap.size ≤ gx by rw [HGO.out]; exact HBS.out) (HB.out.trans (H4.out.mono HB.out.size)) (y + x))
                have HON := Lib.hid (wd_heap (HO.out.up H4.out) (bput_heap (Nat.ne_of_lt HGQ.out) (y + x)) (bput_size (y + x)))
                go_wp2
                go_roundw
                case rel => exact ⟨v + 1, by omega, by go_num, by rw [← HY.out]; exact HN.out, HON.out, HBN.out⟩
                case measure => simp [intOf]; omega
            · obtain rfl : v = u := by omega
              have HTD := Lib.hid (told_any (sumTo v (fwd k v p (fun _ => 1) i)) wz (Nat.lt_of_le_of_lt (Nat.le_trans (fwd_small hk1 hk4 hN0 hN256 (by rw [sumTo_const]; omega) hn) (Nat.le_mul_of_pos_left _ (by decide))) big10))
              clear hX hO hB
              go_wp2_with (first
                | (with_reducible refine wpl_load HX.out rfl _ rfl rfl ?_)
                | (go_at_call 135; (with_reducible refine HTD.out.mono ?_); rintro e w7 ⟨a7, n7, c7, rfl, ho7, hb7⟩; have HO7 := Lib.hid ho7; have HB7 := Lib.hid (HB.out.trans (hb7.mono HB.out.size)); clear ho7 hb7))
              go_ret
              exact ⟨_, _, _, rfl, owns_base HO7.out (Nat.le_trans HRB.out.size HB.out.size), HRB.out.trans (HB7.out.mono HRB.out.size)⟩


set_option maxHeartbeats 16000000 in
theorem around_any (k r N : Nat) (a aw : Option Addr) (T c n cw : Nat) (tb lw : List Int) (W : World) (hT : RK .i64 W a T tb) (h : IsRule k r tb) (hTn : T ≤ 256) (hN : N = k ^ (2 * r)) (hL : RK .i64 W aw n lw) (hn : n ≤ 256) :
    Calls Tryd.prog 83 #[ruleV k r a T c, .slice aw n cw] W fun e w' => ∃ a' n' c', e = .returned (.slice a' n' c') ∧ w'.ownsRow W.heap.size 95 1 (.slice a' n' c') n' ((ofN (limbs (sumTo N fun u => fwd k N (pL k r tb lw) (unitE u) n u))).map (Value.int .u32)) ∧ Below W.heap.size W w' := by
  obtain ⟨p, hp⟩ : ∃ p, pL k r tb lw = p := ⟨_, rfl⟩
  rw [hp]
  have HP := Lib.hid hp
  have hN0 : 0 < N := by rw [hN]; exact (h.nodes hT.len).2.1
  have hN256 : N ≤ 256 := by
    have e1 : T = N * k := by rw [hN]; exact (h.nodes hT.len).1
    have : N * 1 ≤ N * k := Nat.mul_le_mul_left _ h.k1
    omega
  have hk1 := h.k1
  have hk4 := h.k4
  have hone : ∀ u v, u < N → v < N → fwd k N p (unitE u) n v ≤ 256 * 4 ^ 256 := fun u v hu hv => Nat.le_trans (sumTo_at _ hv) (fwd_small hk1 hk4 hN0 hN256 (by rw [show sumTo N (unitE u) = 1 from sumTo_one (fun _ => 1) hu]; decide) hn)
  have honeI : ∀ u v i, i ≤ 256 → u < N → v < N → fwd k N p (unitE u) i v ≤ 256 * 4 ^ 256 := fun u v i hi hu hv => Nat.le_trans (sumTo_at _ hv) (fwd_small hk1 hk4 hN0 hN256 (by rw [show sumTo N (unitE u) = 1 from sumTo_one (fun _ => 1) hu]; decide) hi)
  have HBIG : Hid (sumTo N (fun u => fwd k N p (unitE u) n u) < W64 ^ 10) := Nat.lt_of_le_of_lt (Nat.le_trans (sumTo_le fun u hu => hone u u hu hu) (Nat.mul_le_mul_right _ hN256)) big10
  have HONE := Lib.hid honeI
  have HH := Lib.hid h
  have HT := Lib.hid hT
  have HN := Lib.hid hN
  have HL := Lib.hid hL
  have HCN := Lib.hid (refCount_any k r a T c)
  have HR3 : Hid (r ≤ 3) := h.r3
  obtain ⟨Wb, hWb⟩ : ∃ Wb, W.alloc (.cells #[.int .i64 (k : Int), .int .i64 (r : Int), .slice a T c] 24) = Wb := ⟨_, rfl⟩
  have hsz : Wb.heap.size = W.heap.size + 1 := by rw [← hWb]; simp
  have HRB : Hid (Below W.heap.size W Wb) := by show Below _ _ _; rw [← hWb]; exact balloc (bnil W) _
  have HRX : Hid (Wb.cell? ⟨W.heap.size, 0, none⟩ = some (.int .i64 (k : Int)) ∧ Wb.cell? ⟨W.heap.size, 1, none⟩ = some (.int .i64 (r : Int)) ∧ Wb.cell? ⟨W.heap.size, 2, none⟩ = some (.slice a T c)) := by rw [← hWb]; exact ⟨by simp, by simp, by simp⟩
  have HTb := Lib.hid (HT.out.up HRB.out)
  have HLb := Lib.hid (HL.out.up HRB.out)
  have HWB := Lib.hid hWb
  have HSZ := Lib.hid hsz
  clear hT hN hL h hp hone honeI hWb hsz HT HL
  go_enter Tryd.func83, Tryd.ntmps83
  go_wp2_with (go_at_call 86; (with_reducible refine (HCN.out _ hk1 hk4 HR3.out).mono ?_); rintro e wa ⟨rfl, hba⟩; rw [← HN.out]; rw [HWB.out] at hba; have HBA := Lib.hid hba; clear hba)
  obtain ⟨w0, hw0⟩ : ∃ w0, wa.alloc (.cells (WL (dg 0)).toArray 161) = w0 := ⟨_, rfl⟩
  have hx0 : Bx w0 wa.heap.size (dg 0) := by show w0.heap[_]? = _; rw [← hw0]; exact heap_alloc_new wa _
  have hb0 : Below wa.heap.size wa w0 := by rw [← hw0]; exact balloc (bnil wa) _
  have hsz0 : w0.heap.size = wa.heap.size + 1 := by rw [← hw0]; simp
  simp only [lit_zero]
  rw [hw0]
  obtain ⟨gb, hgb⟩ : ∃ gb, W.heap.size = gb := ⟨_, rfl⟩
  rw [hgb] at HRX HSZ
  have HGB := Lib.hid hgb
  simp only [hgb]
  clear hw0 hgb
  obtain ⟨gx, hgx⟩ : ∃ gx, wa.heap.size = gx := ⟨_, rfl⟩
  have HX0 : Hid (Bx w0 gx (dg 0)) := by rw [← hgx]; exact hx0
  have HB0 := Lib.hid (HBA.out.trans (hb0.mono HBA.out.size))
  have HGX : Hid (gb + 1 ≤ gx) := by show _ ≤ _; have h1 := HBA.out.size; have h2 := HSZ.out; omega
  have HXW : Hid (gx < w0.heap.size) := by show _ < _; omega
  simp only [hgx]
  clear hx0 hb0 hsz0 hgx HBA
  go_loopw [7] (fun ux wr => ∃ u : Nat, u ≤ N ∧ ux = .int .i64 u ∧ Bx wr gx (dg (sumTo u fun v => fwd k N p (unitE v) n v)) ∧ Below Wb.heap.size Wb wr) (fun ux _ => N - (intOf ux).toNat)
  case atStart => exact ⟨0, by omega, rfl, HX0.out, HB0.out⟩
  clear HX0 HB0 HXW
  case round =>
    obtain ⟨u, hu, rfl, hX, hB⟩ := hrel
    have HX := Lib.hid hX
    have HB := Lib.hid hB
    generalize wr = wo at *
    clear hX hB
    by_cases hun : u < N
    · have u0 : (0 : Int) ≤ (u : Int) := by omega
      have u1 : (u : Int) < (N : Int) := by omega
      have HXL := Lib.hid HX.out.lt
      go_wp2_with (first
        | (at_make; refine mk_full rfl _ _ _ rfl wo.heap.size et_wide .i64 .i64 _ _ N rfl rfl rfl rfl (by omega) (by unfold maxLen; omega) (Nat.le_refl _) ?_; intro w1 hown1 hb1 hsz1; have HO1 := Lib.hid (Wd.made hown1); have HB1 := Lib.hid hb1; clear hown1 hb1 hsz1)
        | (with_reducible refine wpl_storeW 1 HO1.out hun (congrArg Value.agg lit_one) rfl rfl _ _ rfl rfl rfl ?_; intro w9 h9 hbl; have H9 := Lib.hid h9; have HB9 := Lib.hid (hbl _ _ (Nat.le_refl _) HB1.out); clear h9 hbl))
      have HO2 := Lib.hid (H9.out.congr (G := unitE u) fun v _ => rfl)
      obtain ⟨g1, hg1⟩ : ∃ g1, wo.heap.size = g1 := ⟨_, rfl⟩
      rw [hg1] at HO2 HXL
      have HG1 := Lib.hid hg1
      simp only [hg1]
      clear HO1 HB1 H9 hg1
      go_loopw [8, 9] (fun sx ix wq => ∃ i g ca : Nat, i ≤ n ∧ ix = .int .i64 i ∧ sx = .slice (some ⟨g, 0, none⟩) N ca ∧ g1 ≤ g ∧ Wd wq g N (fwd k N p (unitE u) i) ∧ Below wo.heap.size wo wq) (fun _ ix _ => n - (intOf ix).toNat)
      case atStart => exact ⟨0, g1, _, by omega, rfl, rfl, Nat.le_refl _, HO2.out, HB9.out⟩
      clear HO2 HB9
      case round =>
        obtain ⟨i, g, ca, hi, rfl, rfl, hgl, hO, hB⟩ := hrel
        generalize wr = wq at *
        have HO := Lib.hid hO
        have HBQ := Lib.hid hB
        have HGL := Lib.hid hgl
        have hBB := HB.out.trans (hB.mono HB.out.size)
        have HBB := Lib.hid hBB
        have hL := HLb.out.up hBB
        have hTq := Lib.hid (HTb.out.up hBB)
        clear hO hgl hB
        by_cases hin : i < n
        · obtain ⟨b, o, rfl, hbo, hc⟩ := hL.addr (by omega)
          have z0 := hc i hin
          obtain ⟨z, hz⟩ : ∃ z, lw.getD i 0 = z := ⟨_, rfl⟩
          rw [hz] at z0
          have HON := Lib.hid (fun (w' : World) (hb : Below wq.heap.size wq w') => on_any k r N a T c g ca tb z (fwd k N p (unitE u) i) w' (hTq.out.up hb) HH.out hTn HN.out (HO.out.up hb) (fun v hv => Nat.lt_of_le_of_lt (HONE.out u v i (by omega) hun hv) (Nat.lt_of_le_of_lt (Nat.le_mul_of_pos_left _ (by decide)) big10)))
          have HZZ := Lib.hid hz
          have x0 := (hBB.cell (p := ⟨gb, 0, none⟩) (by rw [HSZ.out]; exact Nat.lt_succ_self _)).trans HRX.out.1
          have x1 := (hBB.cell (p := ⟨gb, 1, none⟩) (by rw [HSZ.out]; exact Nat.lt_succ_self _)).trans HRX.out.2.1
          have x2 := (hBB.cell (p := ⟨gb, 2, none⟩) (by rw [HSZ.out]; exact Nat.lt_succ_self _)).trans HRX.out.2.2
          have i0 : (0 : Int) ≤ (i : Int) := by omega
          have i1 : (i : Int) < (n : Int) := by omega
          have hbl : gb < wq.heap.size := by have h1 := HSZ.out; have h2 := hBB.size; omega
          have HBO := Lib.hid (And.intro hbo hbl)
          have SD : Hid (wq.drew.cell? ⟨gb, 0, none⟩ = some (.int .i64 (k : Int)) ∧ wq.drew.cell? ⟨gb, 1, none⟩ = some (.int .i64 (r : Int)) ∧ wq.drew.cell? ⟨gb, 2, none⟩ = some (.slice a T c) ∧ wq.drew.cell? ⟨b, o + i, none⟩ = some (.int .i64 z)) := ⟨x0, x1, x2, z0⟩
          clear hBB hc hz hL hbo hbl
          go_wp2_with fail
          go_region_held3 (fun w' => w'.cell? ⟨gb, 0, none⟩ = some (.int .i64 (k : Int)) ∧ w'.cell? ⟨gb, 1, none⟩ = some (.int .i64 (r : Int)) ∧ w'.cell? ⟨gb, 2, none⟩ = some (.slice a T c) ∧ w'.cell? ⟨b, o + i, none⟩ = some (.int .i64 z))
            (first | with_reducible exact SD.out | with_reducible exact S4.out | go_keep)
            (first | (go_at_call 133; (with_reducible refine (HON.out _ (bnil wq).drew).mono ?_); rintro e w4 ⟨g4, c4, rfl, ho4, hg4, hb4⟩; have hb5 : Below wq.heap.size wq w4 := (bnil wq).drew.trans hb4; have S4 : Hid (w4.cell? ⟨gb, 0, none⟩ = some (.int .i64 (k : Int)) ∧ w4.cell? ⟨gb, 1, none⟩ = some (.int .i64 (r : Int)) ∧ w4.cell? ⟨gb, 2, none⟩ = some (.slice a T c) ∧ w4.cell? ⟨b, o + i, none⟩ = some (.int .i64 z)) := ⟨(hb5.cell (p := ⟨gb, 0, none⟩) HBO.out.2).trans x0, (hb5.cell (p := ⟨gb, 1, none⟩) HBO.out.2).trans x1, (hb5.cell (p := ⟨gb, 2, none⟩) HBO.out.2).trans x2, (hb5.cell (p := ⟨b, o + i, none⟩) HBO.out.1).trans z0⟩; have H4 := Lib.hid (And.intro ho4 (And.intro hg4 hb5)); clear ho4 hg4 hb4 hb5))
          all_goals
            have HPI : Hid ((fun x => decide (tb.getD x 0 = if z < 0 then ((x / k ^ r % k : Nat) : Int) else z)) = p i) := by show _ = _; rw [← HP.out, ← HZZ.out]; rfl
            have HN4 : Hid (Wd w4 g4 N (fwd k N p (unitE u) (i + 1))) := by have h4 := H4.out.1; rw [HPI.out] at h4; exact h4
            go_wp2
            go_roundw
            case rel => exact ⟨i + 1, g4, c4, by omega, by go_num, rfl, by have h1 := H4.out.2.1; have h2 : wq.heap.size ≤ g4 := h1; have h3 := HBQ.out.size; have h4 := HG1.out; omega, HN4.out, HBQ.out.trans (H4.out.2.2.mono HBQ.out.size)⟩
            case measure => simp [intOf]; omega
        · obtain rfl : i = n := by omega
          obtain ⟨x, hx⟩ : ∃ x, fwd k N p (unitE u) i u = x := ⟨_, rfl⟩
          obtain ⟨y, hy⟩ : ∃ y, sumTo u (fun v => fwd k N p (unitE v) i v) = y := ⟨_, rfl⟩
          have HY : Hid (y + x = sumTo (u + 1) (fun v => fwd k N p (unitE v) i v)) := by show _ = _; rw [sumTo, hy, hx]
          have hXq := HX.out.up HBQ.out
          rw [hy] at hXq
          obtain ⟨p0, p1, p2, p3, p4, p5, p6, p7, p8, p9⟩ := bx_cells hXq
          obtain ⟨r0, r1, r2, r3, r4, r5, r6, r7, r8, r9⟩ := wd_cells HO.out hun hx
          have HXQ := Lib.hid hXq
          have HNE : Hid (gx ≠ g) := by show _ ≠ _; have h1 := HGL.out; have h2 := HXL.out; omega
          clear hXq hBB hL hx hy
          go_wp2_with fail
          go_region_with ((go_at_call 134; (with_reducible refine (wsum_lit y x _).mono ?_); rintro e w4 ⟨rfl, hb4⟩; have H4 := Lib.hid ((bnil wq).drew.trans hb4); have hO4 := HXQ.out.up H4.out; obtain ⟨s0, s1, s2, s3, s4, s5, s6, s7, s8, s9⟩ := bx_cells hO4; obtain ⟨f0, f1, f2, f3, f4, f5, f6, f7, f8, f9⟩ := bx_froz hO4; have HO4 := Lib.hid hO4; clear hb4 hO4))
          all_goals
            have HN := Lib.hid (bput_lit HO4.out (y + x))
            have HBN := Lib.hid (bput_below (show Wb.heap.size ≤ gx by rw [HSZ.out]; exact HGX.out) (HBB.out.trans (H4.out.mono HBB.out.size)) (y + x))
            go_wp2
            go_roundw
            case rel => exact ⟨u + 1, by omega, by go_num, by rw [← HY.out]; exact HN.out, HBN.out⟩
            case measure => simp [intOf]; omega
    · obtain rfl : u = N := by omega
      have HTD := Lib.hid (told_any (sumTo u fun v => fwd k u p (unitE v) n v) wo HBIG.out)
      go_wp2_with (first
        | (with_reducible refine wpl_load HX.out rfl _ rfl rfl ?_)
        | (go_at_call 135; (with_reducible refine HTD.out.mono ?_); rintro e w7 ⟨a7, n7, c7, rfl, ho7, hb7⟩; have HO7 := Lib.hid ho7; have HB7 := Lib.hid (HB.out.trans (hb7.mono HB.out.size)); clear ho7 hb7))
      go_ret
      exact ⟨_, _, _, rfl, owns_base HO7.out (Nat.le_trans HRB.out.size HB.out.size), HRB.out.trans (HB7.out.mono HRB.out.size)⟩

end Go.Proofs.YteneiianpghalaaDoor
