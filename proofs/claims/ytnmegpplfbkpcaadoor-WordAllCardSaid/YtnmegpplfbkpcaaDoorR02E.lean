/- edenref02.Over, Pow. -/
import Derived.Test.YtnmegpplfbkpcaaDoorR02D
import Derived.Test.YtnmegpplfbkpcaaDoorErrQ
import Derived.Test.YtnmegpplfbkpcaaDoorNatD
namespace Go.Proofs.YtnmegpplfbkpcaaDoor
open Go.RowKit
set_option linter.unusedVariables false
set_option maxRecDepth 100000

theorem own_heapV {w w' : World} {B g sz n c : Nat} {e : TypeId} {a : Option Addr} {cs : List Value} (h : w.ownsRow B e sz (.slice a n c) n cs) (hk : ∀ k, k ≠ g → w'.heap[k]? = w.heap[k]?) (hg : g < B) : w'.ownsRow B e sz (.slice a n c) n cs := by
  refine ⟨h.1, ?_⟩
  rcases h.2 with h1 | ⟨g2, cap, cur, h1, h2, h3, h4⟩
  · exact .inl h1
  · exact .inr ⟨g2, cap, cur, h1, h2, by rw [hk _ (by omega)]; exact h3, h4⟩
theorem nr_ofV {w : World} {B n c x : Nat} {a : Option Addr} (h : w.ownsRow B 73 1 (.slice a n c) n ((ofN (limbs x)).map (Value.int .u32))) : NR w a n (limbs x) := ⟨RK.of_own h, limbs_u32 x⟩
theorem wr64 (n : Nat) (h : n < 18446744073709551616) : IntKind.u64.wrap (n : Int) = (n : Int) := by show ((n : Int) % 18446744073709551616) = _; omega

set_option maxHeartbeats 8000000 in
theorem over16 (a : Option Addr) (n c : Nat) (l : List Nat) (d : Nat) (W : World) (hN : NR W a n l) (hm : n ≤ 200000) (hd : 0 < d) (hd4 : d < 4294967296) :
    Calls Tryd.prog 93 #[.slice a n c, .int .u32 d] W fun e w' => ∃ a' n' c', e = .returned (.tuple #[.slice a' n' c', .int .u32 ((val l % d : Nat) : Int), .agg #[.int .i64 0, .slice none 0 0, .slice none 0 0]]) ∧ NR w' a' n' (limbs (val l / d)) ∧ (∀ b o, a' = some ⟨b, o, none⟩ → W.heap.size ≤ b) ∧ Below W.heap.size W w' := by
  obtain ⟨x, hx⟩ : ∃ x, val l = x := ⟨_, rfl⟩
  have HXV := Lib.hid hx
  rw [hx]
  clear hx
  have HD0 : Hid (0 < d) := hd
  have d0 : ((d : Int) == 0) = false := by rw [beq_eq_false_iff_ne]; omega
  have d1 : (d : Int) ≠ 0 := by omega
  have d2 : IntKind.u64.wrap (d : Int) = (d : Int) := wr64 _ (by omega)
  obtain ⟨w0, hw0⟩ : ∃ w0, W.alloc (.cells #[.int .i64 0, .slice none 0 0, .slice none 0 0] 78) = w0 := ⟨_, rfl⟩
  have HSZ : Hid (w0.heap.size = W.heap.size + 1) := by show _ = _; rw [← hw0]; simp
  have HY0 : Hid (w0.heap[W.heap.size]? = some (.cells #[.int .i64 0, .slice none 0 0, .slice none 0 0] 78)) := by show _ = _; rw [← hw0]; have h := heap_alloc_new (W) (.cells #[.int .i64 0, .slice none 0 0, .slice none 0 0] 78); simpa using h
  have HBX : Hid (Below W.heap.size W w0) := by show Below _ _ _; rw [← hw0]; exact balloc (bnil W) _
  have HB0 := Lib.hid (bnil w0)
  have HWB := Lib.hid hw0
  have HN := Lib.hid (hN.up HBX.out)
  clear hw0 hN
  go_enter Tryd.func93, Tryd.ntmps93
  go_wp2_with fail
  rw [HWB.out]
  refine (half16 a n c l _ HN.out (by omega)).mono ?_; rintro e w1 ⟨ax, nx, cx, rfl, hox, hnx, hb⟩
  rw [HXV.out] at hox
  have hrx := RK.of_own hox
  have HLX : Hid (nx = (hlv x).length) := by show nx = _; rw [hrx.len, ofN_len]
  have HX := Lib.hid hrx
  clear hox hrx
  have HB1 := Lib.hid (HB0.out.trans (hb.mono HB0.out.size))
  clear hb
  have hnx2 : nx ≤ 400000 := by omega
  go_wp2_with (first
    | (at_make; refine mk_full rfl _ _ _ rfl w1.heap.size et_u32 .i64 .i64 _ _ nx rfl rfl (by omega) (by omega) (by omega) (by unfold maxLen; omega) (Nat.le_refl _) ?_; intro w2 hown2 hb2 hsz2; rw [made_u32] at hown2; have HO2 := Lib.hid hown2; have HB2' := Lib.hid hb2; clear hown2 hb2 hsz2))
  obtain ⟨gr, hgr⟩ : ∃ gr, w1.heap.size = gr := ⟨_, rfl⟩
  rw [hgr] at HO2
  simp only [hgr]
  have HGR := Lib.hid hgr
  clear hgr
  go_loopw [9, 10] (fun rv iv wr => ∃ (k r : Nat) (cur : List Nat), k ≤ nx ∧ iv = .int .i64 ((k : Int) - 1) ∧ rv = .int .u64 (r : Nat) ∧ OverH (hlv x) cur d k r ∧ wr.ownsRow gr 73 1 (.slice (some ⟨gr, 0, none⟩) nx nx) nx ((ofN cur).map (Value.int .u32)) ∧ Below w1.heap.size w1 wr) (fun _ iv _ => (intOf iv + 1).toNat)
  case atStart => exact ⟨nx, 0, _, Nat.le_refl _, rfl, rfl, by have := overH_start (hlv x) HD0.out; rwa [← HLX.out] at this, HO2.out, HB2'.out⟩
  case round =>
    clear HO2 HB2'
    obtain ⟨k, r, cur, hk, rfl, rfl, hov, ho, hb⟩ := hrel
    generalize wr = w2 at *
    have HOV := Lib.hid hov
    have HO := Lib.hid ho
    have HBL := Lib.hid hb
    have hrd := hov.lt
    clear hov ho
    have HB2 := Lib.hid (HB1.out.trans (hb.mono HB1.out.size))
    clear hb
    cases k with
    | zero =>
      have hend := overH_end HOV.out
      rw [v16_hlv] at hend
      have HV := Lib.hid hend.1
      have HRR := Lib.hid hend.2
      have e0 : ((0 : Nat) : Int) - 1 = -1 := by omega
      rw [e0]
      have e1 : IntKind.u32.wrap (r : Int) = (r : Int) := wr32 _ (by omega)
      clear hend
      have HW := Lib.hid (whole16 (some ⟨gr, 0, none⟩) nx nx cur w2 (RK.of_own HO.out) (by omega) (Nat.le_refl _) (by unfold maxLen; omega) HOV.out.u)
      go_wp2_with fail
      refine HW.out.mono ?_; rintro e w3 ⟨a9, n9, c9, rfl, ho9, _, hb⟩
      rw [HV.out] at ho9
      have HO9 := Lib.hid ho9
      have HF9 : Hid (∀ b o, a9 = some ⟨b, o, none⟩ → W.heap.size ≤ b) := fun b o e => by
        rcases HO9.out.2 with ⟨h1, _⟩ | ⟨g9, cap9, cur9, h1, h2, _⟩
        · cases h1; cases e
        · cases h1; cases e; have := HSZ.out; have := HB2.out.size; omega
      clear ho9
      have HB3 := Lib.hid (HB2.out.trans (hb.mono HB2.out.size))
      clear hb
      have hy := (HB3.out.block _ (by have := HSZ.out; omega)).trans HY0.out
      obtain ⟨⟨p0, p1, p2⟩, f3, f4, f5⟩ := cellsq hy
      obtain ⟨w9, e9, ⟨r0, r1, r2⟩, hk, hs, hbl, _⟩ := set3q hy (.int .i64 0) (.slice none 0 0) (.slice none 0 0)
      have HE9 := Lib.hid e9
      have HR := Lib.hid (And.intro r0 (And.intro r1 r2))
      have HBE := Lib.hid (hbl W W.heap.size (by omega) (HBX.out.trans (HB3.out.mono HBX.out.size)))
      have HWC := Lib.hid (wc_none w9)
      have HN9 := Lib.hid (nr_ofV (own_heapV HO9.out hk (by have := HSZ.out; have := HB2.out.size; omega)))
      clear hy e9 r0 r1 r2 hk hs hbl
      go_wp2
      rw [HE9.out]
      have r0 : w9.cell? _ = _ := HR.out.1
      have r1 : w9.cell? _ = _ := HR.out.2.1
      have r2 : w9.cell? _ = _ := HR.out.2.2
      refine bodyPost_ret (v := .tuple #[.slice a9 n9 c9, .int .u32 r, .agg #[.int .i64 0, .slice none 0 0, .slice none 0 0]]) (by simp [results, Tryd.results93, go_sem, r0, r1, r2]) rfl ?_
      exact ⟨_, _, _, by rw [HRR.out], HN9.out, HF9.out, HBE.out⟩
    | succ k =>
      have ej : ((k + 1 : Nat) : Int) - 1 = (k : Int) := by omega
      rw [ej]
      obtain ⟨b1, o1, rfl, hbl, hx1⟩ := (HX.out.up HBL.out).addr (by omega)
      have z0 := hx1 k (by omega)
      rw [ofN_at] at z0
      clear hx1 ej hbl
      have hcl : cur.length = nx := by have := HOV.out.len; have := HLX.out; omega
      have f0 := HO.out.frozenAt k
      have y0 : w2.cell? ⟨gr, k, none⟩ = some (.int .u32 (cur.getD k 0 : Nat)) := by rw [HO.out.cellAt k (by omega), mapu_at _ _ (by omega)]
      have hst := overH_step HOV.out (by have := HLX.out; omega) (hlv_h16 x)
      have huz := h16_at (hlv_h16 x) k
      obtain ⟨z, hz⟩ : ∃ z, (hlv x).getD k 0 = z := ⟨_, rfl⟩
      rw [hz] at z0 hst huz
      obtain ⟨y, hy⟩ : ∃ y, cur.getD k 0 = y := ⟨_, rfl⟩
      rw [hy] at y0
      obtain ⟨T, hT⟩ : ∃ T, r * 65536 + z = T := ⟨_, rfl⟩
      rw [hT] at hst
      obtain ⟨q, hq⟩ : ∃ q, T / d = q := ⟨_, rfl⟩
      obtain ⟨m, hmm⟩ : ∃ m, T % d = m := ⟨_, rfl⟩
      rw [hq, hmm] at hst
      have hq16 : q < 65536 := by
        rw [← hq]
        refine Nat.div_lt_of_lt_mul ?_
        have : (r + 1) * 65536 ≤ d * 65536 := Nat.mul_le_mul_right _ hrd
        rw [Nat.add_mul] at this
        omega
      have hm4 := hst.lt
      have hTb : T < 281474976710656 := by omega
      have e1 : IntKind.u64.wrap ((r : Int) * 65536) = (r : Int) * 65536 := by show ((r : Int) * 65536) % 18446744073709551616 = _; omega
      have e2 : IntKind.u64.wrap (z : Int) = (z : Int) := wr64 _ (by omega)
      have e3 : IntKind.u64.wrap ((r : Int) * 65536 + (z : Int)) = (T : Int) := by show ((r : Int) * 65536 + (z : Int)) % 18446744073709551616 = _; omega
      have e4 : (T : Int).tdiv (d : Int) = (q : Int) := by rw [Int.tdiv_eq_ediv_of_nonneg (by omega), ← hq]; exact (Int.natCast_ediv T d).symm
      have e4' : (T : Int) / (d : Int) = (q : Int) := by rw [← hq]; exact (Int.natCast_ediv T d).symm
      have e5 : (T : Int).tmod (d : Int) = (m : Int) := by rw [Int.tmod_eq_emod_of_nonneg (by omega), ← hmm]; exact (Int.natCast_emod T d).symm
      have e5' : (T : Int) % (d : Int) = (m : Int) := by rw [← hmm]; exact (Int.natCast_emod T d).symm
      have e6 : IntKind.u64.wrap (q : Int) = (q : Int) := wr64 _ (by omega)
      have e7 : IntKind.u32.wrap (q : Int) = (q : Int) := wr32 _ (by omega)
      have e8 : IntKind.u64.wrap (m : Int) = (m : Int) := wr64 _ (by omega)
      have hown := own16 (k := k) HO.out q
      have HOW := Lib.hid hown
      have HST := Lib.hid hst
      have HBW := Lib.hid (HBL.out.setCell (p := ⟨gr, k, none⟩) (by rw [HGR.out]; exact Nat.le_refl _) (.int .u32 (q : Int)))
      have i0 : (0 : Int) ≤ (k : Int) := by omega
      have i1 : (k : Int) < (nx : Int) := by omega
      clear hst hown hz hy hT hq hmm huz hcl HO HOV HBL
      go_wp2
      go_roundw
      case rel => exact ⟨k, m, _, by omega, by go_num, rfl, HST.out, HOW.out, HBW.out⟩
      case measure => first | (simp [intOf]; done) | (simp [intOf]; omega)

set_option maxHeartbeats 8000000 in
theorem pow16 (k n : Nat) (W : World) (hk : k ≤ 4) (hn : n ≤ 256) :
    Calls Tryd.prog 90 #[.int .u32 k, .int .i64 n] W fun e w' => ∃ a' n' c', e = .returned (.tuple #[.slice a' n' c', .agg #[.int .i64 0, .slice none 0 0, .slice none 0 0]]) ∧ NR w' a' n' (limbs (k ^ n)) ∧ Below W.heap.size W w' := by
  have hk32 : k < B32 := by show k < 4294967296; omega
  obtain ⟨w0, hw0⟩ : ∃ w0, W.alloc (.cells #[.int .i64 0, .slice none 0 0, .slice none 0 0] 78) = w0 := ⟨_, rfl⟩
  have HSZ : Hid (w0.heap.size = W.heap.size + 1) := by show _ = _; rw [← hw0]; simp
  have HY0 : Hid (w0.heap[W.heap.size]? = some (.cells #[.int .i64 0, .slice none 0 0, .slice none 0 0] 78)) := by show _ = _; rw [← hw0]; have h := heap_alloc_new (W) (.cells #[.int .i64 0, .slice none 0 0, .slice none 0 0] 78); simpa using h
  have HBX : Hid (Below W.heap.size W w0) := by show Below _ _ _; rw [← hw0]; exact balloc (bnil W) _
  have HB0 := Lib.hid (bnil w0)
  have HWB := Lib.hid hw0
  clear hw0 
  go_enter Tryd.func90, Tryd.ntmps90
  go_wp2_with fail
  rw [HWB.out]
  obtain ⟨w1, hw⟩ : ∃ w1, w0.alloc (.cells #[.int .u32 1] 73) = w1 := ⟨_, rfl⟩
  have hb : Below w0.heap.size w0 w1 := by rw [← hw]; exact balloc (bnil w0) _
  have hn1 : w1.ownsRow w0.heap.size 73 1 (.slice (some ⟨w0.heap.size, 0, none⟩) 1 1) 1 ((ofN (limbs (k ^ 0))).map (Value.int .u32)) := by rw [← hw, Nat.pow_zero]; exact own_lit (n := 1) rfl (Nat.le_refl _) (by decide) rfl
  have HN1 : Hid (w1.ownsRow w0.heap.size 73 1 (.slice (some ⟨W.heap.size + 1, 0, none⟩) 1 1) 1 ((ofN (limbs (k ^ 0))).map (Value.int .u32))) := by
    have h := HSZ.out
    rw [h] at hn1 ⊢
    exact hn1
  rw [hw]
  clear hw hn1
  have HB1 := Lib.hid (HB0.out.trans (hb.mono HB0.out.size))
  clear hb
  go_loopw [6, 7] (fun ov iv wr => ∃ (i : Nat) (a1 : Option Addr) (n1 c1 : Nat), i ≤ n ∧ iv = .int .i64 (i : Nat) ∧ ov = .slice a1 n1 c1 ∧ wr.ownsRow w0.heap.size 73 1 (.slice a1 n1 c1) n1 ((ofN (limbs (k ^ i))).map (Value.int .u32)) ∧ Below w0.heap.size w0 wr) (fun _ iv _ => n - (intOf iv).toNat)
  case atStart => exact ⟨0, _, _, _, Nat.zero_le _, rfl, rfl, HN1.out, HB1.out⟩
  case round =>
    clear HN1
    obtain ⟨i, a1, n1, c1, hi, rfl, rfl, ho, hb⟩ := hrel
    generalize wr = w2 at *
    have HO := Lib.hid ho
    have HB2 := Lib.hid hb
    have hl1 : n1 ≤ 257 := by rw [(nr_ofV ho).len]; exact Nat.le_trans (pow_len hk32 i) (by omega)
    clear ho hb
    by_cases hin : i < n
    · skip
      go_wp2_with fail
      have hbl : Below w2.heap.size w2 (w2.alloc (.cells #[.int .u32 (k : Int)] 73)) := balloc (bnil w2) _
      have hk1 : NR (w2.alloc (.cells #[.int .u32 (k : Int)] 73)) (some ⟨w2.heap.size, 0, none⟩) 1 [k] := ⟨rk_new rfl rfl rfl, by intro x hx; rw [List.mem_singleton.1 hx]; exact hk32⟩
      have hnx := (nr_ofV HO.out).up hbl
      have HB3 := Lib.hid (HB2.out.trans (hbl.mono HB2.out.size))
      refine (mul16 a1 _ n1 1 c1 1 (limbs (k ^ i)) [k] _ hnx hk1 (by omega) (by omega)).mono ?_; rintro e w4 ⟨a4, n4, c4, rfl, ho4, hb4⟩
      have hv4 : val (limbs (k ^ i)) * val [k] = k ^ (i + 1) := by rw [val_limbs, Nat.pow_succ]; simp [val]
      rw [hv4] at ho4
      have HB4 := Lib.hid (HB3.out.trans (hb4.mono HB3.out.size))
      have HO4 := Lib.hid (own_base ho4 HB3.out.size)
      clear hbl hk1 hnx ho4 hb4 hv4
      go_wp2
      go_roundw
      case rel => exact ⟨i + 1, a4, n4, c4, by omega, by go_num, rfl, HO4.out, HB4.out⟩
      case measure => simp [intOf]; omega
    · obtain rfl : i = n := by omega
      have hy := (HB2.out.block _ (by have := HSZ.out; omega)).trans HY0.out
      obtain ⟨⟨p0, p1, p2⟩, f3, f4, f5⟩ := cellsq hy
      obtain ⟨w9, e9, ⟨r0, r1, r2⟩, hk, hs, hbl, _⟩ := set3q hy (.int .i64 0) (.slice none 0 0) (.slice none 0 0)
      have HE9 := Lib.hid e9
      have HR := Lib.hid (And.intro r0 (And.intro r1 r2))
      have HBE := Lib.hid (hbl W W.heap.size (by omega) (HBX.out.trans (HB2.out.mono HBX.out.size)))
      have HWC := Lib.hid (wc_none w9)
      have HN9 := Lib.hid (nr_ofV (own_heapV HO.out hk (by have := HSZ.out; omega)))
      clear hy e9 r0 r1 r2 hk hs hbl
      go_wp2
      rw [HE9.out]
      have r0 : w9.cell? _ = _ := HR.out.1
      have r1 : w9.cell? _ = _ := HR.out.2.1
      have r2 : w9.cell? _ = _ := HR.out.2.2
      refine bodyPost_ret (v := .tuple #[.slice a1 n1 c1, .agg #[.int .i64 0, .slice none 0 0, .slice none 0 0]]) (by simp [results, Tryd.results90, go_sem, r0, r1, r2]) rfl ?_
      exact ⟨_, _, _, rfl, HN9.out, HBE.out⟩
end Go.Proofs.YtnmegpplfbkpcaaDoor
