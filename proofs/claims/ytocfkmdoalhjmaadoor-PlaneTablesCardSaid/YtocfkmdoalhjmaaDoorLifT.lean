/- The contracts of (*strings.Builder).copyCheck, WriteByte, String, at a builder that the call has made. The contract of slices.Equal over numbers. Plain: images of pieces and of turned patches. The contract of plane.numbers. The contract of plane.Text, for any numbers. Plain: what a table's text names, byte by byte; a window's neighbours. edenlaw22.awake; a cell of the image by a table that counts (plain). edenlaw22.awake returns true. plane.From for any text. Plain: a table's digits and the table of digits, there and back. Plain: a table's text written again (Life, Text), turns of counted tables, digits read again (From, Hex). -/
import Derived.Test.YtocfkmdoalhjmaaDoorShelf
import Derived.Test.YtocfkmdoalhjmaaDoorMem
import Derived.Lib.Builder
import Derived.Lib.Strings
import Derived.Laws.Externs
import Derived.Lib.Walk
import Derived.Test.YtocfkmdoalhjmaaDoorInts
import Derived.WalkKit
import Derived.Deep.QuietTactic
import Derived.BigQuiet
import Derived.Lib.Hide
import Derived.Test.YtocfkmdoalhjmaaDoorPlaG
import Derived.Test.YtocfkmdoalhjmaaDoorPatK
import Derived.Test.YtocfkmdoalhjmaaDoorPlaB
import Derived.Test.YtocfkmdoalhjmaaDoorPlaA
import Derived.Test.YtocfkmdoalhjmaaDoorPlaD
import Derived.Deep.RegionHeld3
import Derived.Deep.RegionLaw
import Derived.Laws.Concat
import Derived.Test.YtocfkmdoalhjmaaDoorPlaP
import Derived.Test.YtocfkmdoalhjmaaDoorPlaI
import Derived.Test.YtocfkmdoalhjmaaDoorPatJ
import Derived.Test.YtocfkmdoalhjmaaDoorTrkP
import Derived.Test.YtocfkmdoalhjmaaDoorPatM
import Derived.Test.YtocfkmdoalhjmaaDoorBitI
import Derived.Test.YtocfkmdoalhjmaaDoorCopy
namespace Go.Proofs.YtocfkmdoalhjmaaDoor
open Go.RowKit
set_option linter.unusedVariables false
set_option maxRecDepth 100000

abbrev Bld (B b : Nat) (bs : List Value) (w : World) : Prop := Lib.IsBuilder 172 5 B b bs w
theorem bld_info : (Tryd.prog.info? 172).map (·.size) = some 2 := by kernel_rfl
theorem bld_byte : (Tryd.prog.info? 5).map (fun i => (i.zero, i.size, i.bytes)) = some (some (.int .u8 0), 1, 1) := by kernel_rfl
theorem bld_lies : liesAt Tryd.prog Tryd.prog.depth 172 (2 / Tryd.prog.cellsOf 172) 0 172 1 = true := by kernel_rfl
set_option maxHeartbeats 2000000 in
theorem bld_used (b : Nat) (w : World) (h0 : w.cell? ⟨b, 0, none⟩ = some (.pointer (some ⟨b, 0, none⟩))) :
    Calls Tryd.prog 122 #[.pointer (some ⟨b, 0, none⟩)] w fun e w' => e = .returned (.tuple #[]) ∧ w' = w := by
  obtain ⟨j, hj, _⟩ := Option.map_eq_some_iff.1 bld_info
  go_enter Tryd.func122, Tryd.ntmps122
  go_wp2
  rw [Lib.run_neq_ptr_same w _ Tryd.underlying170 hj]
  go_wp2
  go_end0
  exact ⟨rfl, rfl⟩
set_option maxHeartbeats 2000000 in
theorem bld_fresh (b : Nat) (w : World) (h0 : w.cell? ⟨b, 0, none⟩ = some (.pointer none)) (hsh : w.shape? b = some (172, 2)) (hfz : w.frozen? ⟨b, 0, none⟩ = false) :
    Calls Tryd.prog 122 #[.pointer (some ⟨b, 0, none⟩)] w fun e w' => e = .returned (.tuple #[]) ∧ w' = w.setCell ⟨b, 0, none⟩ (.pointer (some ⟨b, 0, none⟩)) := by
  obtain ⟨j, hj, hjs⟩ := Option.map_eq_some_iff.1 bld_info
  go_enter Tryd.func122, Tryd.ntmps122
  go_wp2
  rw [Lib.run_to_unsafe w ⟨b, 0, none⟩ Tryd.underlying170 Tryd.underlying159 hj (by rw [hjs]; decide) hsh (Nat.zero_lt_succ 1)]
  simp only [Result.andThen]
  rw [Oper.upon_value]
  go_wp2
  rw [run_callFunc_extern Tryd.func123 (by kernel_rfl) (by kernel_rfl) (by kernel_rfl) (e := Extern.AbiNoEscape.same) (by kernel_rfl)]
  rw [Lib.run_noEscape]
  simp only [Result.andThen]
  rw [Oper.upon_value]
  go_wp2
  rw [Lib.run_from_unsafe w ⟨b, 0, none⟩ Tryd.underlying159 Tryd.underlying170 hj hsh bld_lies]
  simp only [Result.andThen]
  rw [Oper.upon_value]
  go_wp2
  go_end0
  exact ⟨rfl, rfl⟩
theorem bld_copy (B b : Nat) (bs : List Value) (w : World) (h : Bld B b bs w) :
    Calls Tryd.prog 122 #[.pointer (some ⟨b, 0, none⟩)] w fun e w' => e = .returned (.tuple #[]) ∧ (Lib.BuilderAt 172 5 B b (.pointer (some ⟨b, 0, none⟩)) bs w' ∧ Below B w w') := by
  rcases h with h | h
  · refine (bld_fresh b w h.cell0 h.shape h.frozen0).mono ?_
    rintro e w' ⟨rfl, rfl⟩
    exact ⟨rfl, h.used _, (Below.refl B w).setCell (p := ⟨b, 0, none⟩) h.1 _⟩
  · refine (bld_used b w h.cell0).mono ?_
    rintro e w' ⟨rfl, rfl⟩
    exact ⟨rfl, h, Below.refl B _⟩

set_option maxHeartbeats 2000000 in
theorem bld_write (B b : Nat) (bs : List Value) (c : Int) (w : World) (h : Bld B b bs w) (hlen : bs.length + 1 ≤ 100000000) (hBw : B ≤ w.heap.size) :
    Calls Tryd.prog 109 #[.pointer (some ⟨b, 0, none⟩), .int .u8 c] w fun e w' => e = .returned .nilIface ∧ Bld B b (bs ++ [.int .u8 c]) w' ∧ Below B w w' := by
  obtain ⟨i0, hi, hz0, hz1, hz2⟩ := info_parts bld_byte
  go_enter Tryd.func109, Tryd.ntmps109
  go_wp2_with (go_at_call 122; refine (bld_copy B b bs _ h).mono ?_)
  rintro e w1 ⟨rfl, h1, hb1⟩
  obtain ⟨hB, v, hbk, hown, hne⟩ := h1
  have c0 : w1.cell? ⟨b, 0, none⟩ = some (.pointer (some ⟨b, 0, none⟩)) := by rw [Lib.cell_of_heap hbk]; rfl
  have c1 : w1.cell? ⟨b, 1, none⟩ = some v := by rw [Lib.cell_of_heap hbk]; rfl
  go_wp2_with (at_builtin; refine wpList_append_own _ rfl _ _ 67 rfl B 5 i0 (.int .u8 0) 1 1 Tryd.underlying67 hi hz0 hz1 hz2 rfl (by decide) _ _ _ rfl (hown.alloc _) ⟨w1.heap.size, 0, none⟩ 1 1 [.int .u8 c] rfl rfl ?c1 ?c2 ?c3 ?c4 ?c5 ?_)
  case c1 =>
    intro j u hj
    match j, hj with
    | 0, hj => simp at hj; subst hj; simp [Addr.add]
  case c2 => intro u hu; simp at hu; subst hu; rfl
  case c3 => unfold maxLen; omega
  case c4 => omega
  case c5 => have := hb1.size; simp; omega
  intro v' w2 hown' hgrow _
  have hlt : b < w1.heap.size := by
    rcases Nat.lt_or_ge b w1.heap.size with h' | h'
    · exact h'
    · simp [Array.getElem?_eq_none h'] at hbk
  have hb2 : w2.heap[b]? = some (.cells #[.pointer (some ⟨b, 0, none⟩), v] 172 (0, 0)) := by
    rw [hgrow.block b (by simp; omega) (fun e => hne e.symm), Lib.alloc_old w1 _ b hlt]
    exact hbk
  have d0 : w2.cell? ⟨b, 0, none⟩ = some (.pointer (some ⟨b, 0, none⟩)) := by rw [Lib.cell_of_heap hb2]; rfl
  have d1 : w2.cell? ⟨b, 1, none⟩ = some v := by rw [Lib.cell_of_heap hb2]; rfl
  have f1 : w2.frozen? ⟨b, 1, none⟩ = false := Lib.frozen_of_heap hb2 1
  obtain ⟨g, cap, rfl⟩ : ∃ g cap, v' = .slice (some ⟨g, 0, none⟩) (bs.length + 1) cap := by
    rcases hown'.2 with ⟨_, h0⟩ | ⟨g, cap, cur, hv, _⟩
    · omega
    · exact ⟨g, cap, hv⟩
  go_wp2
  go_ret
  refine ⟨rfl, .inr ?_, ?_⟩
  · exact Lib.BuilderAt.put (T := 172) (e := 5) hB hb2 (bs' := bs ++ [.int .u8 c]) (by simpa using hown') (by decide)
  · exact ((hb1.alloc (by have := hb1.size; omega) _).grown hgrow (by have := hb1.size; simp; omega) (fun k hk => (hown.lt k hk).1)).setCell (p := ⟨b, 1, none⟩) hB _
theorem bld_string (B b : Nat) (l : List UInt8) (w : World) (h : Bld B b (Lib.byteCells l) w) (hBw : B ≤ w.heap.size) :
    Calls Tryd.prog 110 #[.pointer (some ⟨b, 0, none⟩)] w fun e w' => e = .returned (.string ⟨l.toArray⟩) ∧ Below B w w' := Tryd.Builder_String_any B b l w h hBw
theorem bld_new {w : World} {b B : Nat} (hb : b = w.heap.size) (hB : B ≤ b) : Bld B b [] (w.alloc (.cells #[.pointer none, .slice none 0 0] 172)) := by
  subst hb
  exact .inl ⟨hB, .slice none 0 0, heap_alloc_new w _, World.ownsRow_nil _ _ _ _, by simp [Value.ownBlock]⟩
theorem Bld.other {w w' : World} {B b : Nat} {bs : List Value} (h : Bld B b bs w) (hb : Below w.heap.size w w') : Bld B b bs w' := by
  rcases h with h | h
  · obtain ⟨h1, v, h2, h3, h4⟩ := h
    exact .inl ⟨h1, v, (hb.block b (Array.getElem?_eq_some_iff.1 h2).1).trans h2, owns_up h3 hb, h4⟩
  · obtain ⟨h1, v, h2, h3, h4⟩ := h
    exact .inr ⟨h1, v, (hb.block b (Array.getElem?_eq_some_iff.1 h2).1).trans h2, owns_up h3 hb, h4⟩
end Go.Proofs.YtocfkmdoalhjmaaDoor
namespace Go.Proofs.YtocfkmdoalhjmaaDoor
open Go.RowKit
set_option linter.unusedVariables false
set_option maxRecDepth 100000

set_option maxHeartbeats 1000000 in
theorem slEq_any (a1 a2 : Option Addr) (n1 n2 c1 c2 : Nat) (l1 l2 : List Int) (W : World) (hR1 : RK .i64 W a1 n1 l1) (hR2 : RK .i64 W a2 n2 l2) (hm1 : n1 ≤ maxLen) (hm2 : n2 ≤ maxLen) :
    Calls Tryd.prog 73 #[.slice a1 n1 c1, .slice a2 n2 c2] W fun e w' => e = .returned (.bool (decide (l1 = l2))) ∧ ∃ n, w' = W.drewN n := by
  unfold maxLen at hm1 hm2
  have hl1 := hR1.len
  have hl2 := hR2.len
  have HR1 := Lib.hid hR1; clear hR1
  have HR2 := Lib.hid hR2; clear hR2
  by_cases hlen : n1 = n2
  · have hn1 : n1 ≤ n2 := by omega
    have hn2 : n2 ≤ n1 := by omega
    have hne : ((n1 : Int) != (n2 : Int)) = false := by simp; omega
    clear hlen
    have g1 : n1 ≤ l1.length := by omega
    have g2 : n2 ≤ l2.length := by omega
    have HL1 := Lib.hid hl1; clear hl1
    have HL2 := Lib.hid hl2; clear hl2
    go_enter Tryd.func73, Tryd.ntmps73
    go_wp2_with fail
    clear hne
    go_loopw [13] (fun i wr => ∃ (k n : Nat), k ≤ n1 ∧ i = .int .i64 k ∧ l1.take k = l2.take k ∧ wr = W.drewN n) (fun i _ => n1 - (intOf i).toNat)
    case atStart => exact ⟨0, 0, by omega, rfl, rfl, rfl⟩
    case round =>
      obtain ⟨k, n, hk, rfl, heq, rfl⟩ := hrel
      by_cases hlt : k < n1
      · have hlt2 : k < n2 := by omega
        obtain ⟨b1, o1, rfl, hbo1, hc1⟩ := HR1.out.addr (by omega)
        obtain ⟨b2, o2, rfl, hbo2, hc2⟩ := HR2.out.addr (by omega)
        have x0 := hc1 k hlt
        have y0 := hc2 k hlt2
        clear hc1 hc2
        have HE : Hid (l1.getD k 0 = l2.getD k 0 → l1.take (k + 1) = l2.take (k + 1)) := fun h => take_eq_step (by omega) (by omega) heq h
        have HN : Hid (¬ l1.getD k 0 = l2.getD k 0 → decide (l1 = l2) = false) := fun h => by
          rw [decide_eq_false_iff_not]; intro e; subst e; exact h rfl
        clear heq
        have i0 : (0 : Int) ≤ (k : Int) := by omega
        have i1 : (k : Int) < (n1 : Int) := by omega
        have i2 : (k : Int) < (n2 : Int) := by omega
        generalize l1.getD k 0 = z1 at *
        generalize l2.getD k 0 = z2 at *
        by_cases hz : z1 = z2
        · have HE2 := Lib.hid (HE.out hz)
          have hne : (z1 != z2) = false := by simpa using hz
          clear hz
          go_wp2_with fail
          go_quiet (fail)
          go_wp2
          go_roundw
          case rel => exact ⟨k + 1, _, by omega, by go_num, HE2.out, rfl⟩
          case measure => simp [intOf]; omega
        · have HE2 := Lib.hid (HN.out hz)
          have hne : (z1 != z2) = true := by simpa using hz
          clear hz
          go_wp2_with fail
          go_quiet (fail)
          go_wp2
          go_ret
          rw [HE2.out]
          exact ⟨rfl, n + nq, by simp⟩
      · have hfin : decide (l1 = l2) = true := by
          rw [decide_eq_true_eq]
          have := HL1.out; have := HL2.out
          rw [List.take_of_length_le (by omega), List.take_of_length_le (by omega)] at heq
          exact heq
        have HF := Lib.hid hfin
        clear heq hfin
        go_wp2
        go_ret
        rw [HF.out]
        exact ⟨rfl, _, rfl⟩
  · have hfin : decide (l1 = l2) = false := by
      rw [decide_eq_false_iff_not]; intro e; subst e; omega
    have hne : ((n1 : Int) != (n2 : Int)) = true := by simp; omega
    rw [hfin]
    clear hfin hlen hl1 hl2
    go_enter Tryd.func73, Tryd.ntmps73
    go_wp2
    go_ret
    exact ⟨rfl, 0, rfl⟩

end Go.Proofs.YtocfkmdoalhjmaaDoor
namespace Go.Proofs.YtocfkmdoalhjmaaDoor
set_option linter.unusedVariables false
set_option maxRecDepth 100000

theorem winN_eq {w w' : Nat} {l l' : List Int} {x y x' y' : Nat} (h : ∀ i j, i < 3 → j < 3 → atL w l (x + i) (y + j) = atL w' l' (x' + i) (y' + j)) : winN w l x y = winN w' l' x' y' := by
  have h00 := h 0 0 (by omega) (by omega)
  have h10 := h 1 0 (by omega) (by omega)
  have h20 := h 2 0 (by omega) (by omega)
  have h01 := h 0 1 (by omega) (by omega)
  have h11 := h 1 1 (by omega) (by omega)
  have h21 := h 2 1 (by omega) (by omega)
  have h02 := h 0 2 (by omega) (by omega)
  have h12 := h 1 2 (by omega) (by omega)
  have h22 := h 2 2 (by omega) (by omega)
  simp only [Nat.add_zero] at h00 h10 h20 h01 h11 h21 h02 h12 h22
  unfold winN winZ
  rw [h00, h10, h20, h01, h11, h21, h02, h12, h22]
/-- the image of a piece is a piece of the image -/
theorem step_cut {w h x y p q : Nat} {l t : List Int} (hp : 1 ≤ p) (hx : x + p + 2 ≤ w) (hy : y + q + 2 ≤ h) : stepL t (p + 2) (q + 2) (cutL w l x y (p + 2) (q + 2)) = cutL (w - 2) (stepL t w h l) x y p q := by
  unfold stepL
  show madeL p q _ = _
  unfold cutL
  refine madeL_congr (by omega) fun i j hi hj => ?_
  rw [atL_made (by omega) (by omega)]
  unfold stepF
  congr 1
  refine winN_eq fun a b ha hb => ?_
  rw [atL_made (by omega) (by omega), Nat.add_assoc, Nat.add_assoc]
/-- a window's number, its cells taken from other places -/
def mvT (f : Nat → Nat) (win : Nat) : Nat → Nat
  | 0 => 0
  | k + 1 => 2 * mvT f win k + win / 2 ^ (8 - f k) % 2
def qF (k : Nat) : Nat := [6, 3, 0, 7, 4, 1, 8, 5, 2].getD k 0
def mF (k : Nat) : Nat := [2, 1, 0, 5, 4, 3, 8, 7, 6].getD k 0
theorem mvT_lt (f : Nat → Nat) (win : Nat) : ∀ k, mvT f win k < 2 ^ k
  | 0 => by simp [mvT]
  | k + 1 => by
    have ih := mvT_lt f win k
    unfold mvT
    rw [Nat.pow_succ]
    omega
theorem mv_bits : ∀ (a b c d e f g h i : Fin 2), mvT qF (256 * a.val + 128 * b.val + 64 * c.val + 32 * d.val + 16 * e.val + 8 * f.val + 4 * g.val + 2 * h.val + i.val) 9 = 256 * g.val + 128 * d.val + 64 * a.val + 32 * h.val + 16 * e.val + 8 * b.val + 4 * i.val + 2 * f.val + c.val ∧ mvT mF (256 * a.val + 128 * b.val + 64 * c.val + 32 * d.val + 16 * e.val + 8 * f.val + 4 * g.val + 2 * h.val + i.val) 9 = 256 * c.val + 128 * b.val + 64 * a.val + 32 * f.val + 16 * e.val + 8 * d.val + 4 * i.val + 2 * h.val + g.val := by decide +kernel
/-- do a quarter turn and the mirror leave the table? -/
def evOk (t : List Int) (i : Nat) : Prop := t.getD (mvT qF i 9) 0 = t.getD i 0 ∧ t.getD (mvT mF i 9) 0 = t.getD i 0
instance (t : List Int) (i : Nat) : Decidable (evOk t i) := by unfold evOk; exact inferInstance
def evB (t : List Int) : Bool := (List.range 512).all fun i => decide (evOk t i)
theorem evB_true {t : List Int} (h : ∀ i, i < 512 → evOk t i) : evB t = true := by
  unfold evB
  rw [List.all_eq_true]
  intro i hi
  exact decide_eq_true (h i (List.mem_range.1 hi))
theorem evB_of {t : List Int} (h : evB t = true) {i : Nat} (hi : i < 512) : evOk t i := by
  unfold evB at h
  rw [List.all_eq_true] at h
  exact of_decide_eq_true (h i (List.mem_range.2 hi))
theorem evB_false {t : List Int} {i : Nat} (hi : i < 512) (h : ¬ evOk t i) : evB t = false := by
  cases hq : evB t with
  | false => rfl
  | true => exact absurd (evB_of hq hi) h
theorem win_move {w h : Nat} {l : List Int} (hp : IsPatch w h l) {x y : Nat} (hx : x + 2 < w) (hy : y + 2 < h) {w' : Nat} {l' : List Int} {x' y' : Nat} :
    ((∀ i j, i < 3 → j < 3 → atL w' l' (x' + i) (y' + j) = atL w l (x + j) (y + (2 - i))) → winN w' l' x' y' = mvT qF (winN w l x y) 9) ∧
    ((∀ i j, i < 3 → j < 3 → atL w' l' (x' + i) (y' + j) = atL w l (x + (2 - i)) (y + j)) → winN w' l' x' y' = mvT mF (winN w l x y) 9) := by
  obtain ⟨c1, e1, h1⟩ := atL_nat hp (show x < w by omega) (show y < h by omega)
  obtain ⟨c2, e2, h2⟩ := atL_nat hp (show x + 1 < w by omega) (show y < h by omega)
  obtain ⟨c3, e3, h3⟩ := atL_nat hp (show x + 2 < w by omega) (show y < h by omega)
  obtain ⟨c4, e4, h4⟩ := atL_nat hp (show x < w by omega) (show y + 1 < h by omega)
  obtain ⟨c5, e5, h5⟩ := atL_nat hp (show x + 1 < w by omega) (show y + 1 < h by omega)
  obtain ⟨c6, e6, h6⟩ := atL_nat hp (show x + 2 < w by omega) (show y + 1 < h by omega)
  obtain ⟨c7, e7, h7⟩ := atL_nat hp (show x < w by omega) (show y + 2 < h by omega)
  obtain ⟨c8, e8, h8⟩ := atL_nat hp (show x + 1 < w by omega) (show y + 2 < h by omega)
  obtain ⟨c9, e9, h9⟩ := atL_nat hp (show x + 2 < w by omega) (show y + 2 < h by omega)
  have hN : winN w l x y = 256 * c1 + 128 * c2 + 64 * c3 + 32 * c4 + 16 * c5 + 8 * c6 + 4 * c7 + 2 * c8 + c9 := by
    unfold winN winZ
    rw [e1, e2, e3, e4, e5, e6, e7, e8, e9]
    omega
  obtain ⟨b1, b2⟩ := mv_bits ⟨c1, by omega⟩ ⟨c2, by omega⟩ ⟨c3, by omega⟩ ⟨c4, by omega⟩ ⟨c5, by omega⟩ ⟨c6, by omega⟩ ⟨c7, by omega⟩ ⟨c8, by omega⟩ ⟨c9, by omega⟩
  simp only at b1 b2
  rw [hN, b1, b2]
  clear b1 b2 hN
  constructor
  · intro hA
    have a00 := hA 0 0 (by omega) (by omega)
    have a10 := hA 1 0 (by omega) (by omega)
    have a20 := hA 2 0 (by omega) (by omega)
    have a01 := hA 0 1 (by omega) (by omega)
    have a11 := hA 1 1 (by omega) (by omega)
    have a21 := hA 2 1 (by omega) (by omega)
    have a02 := hA 0 2 (by omega) (by omega)
    have a12 := hA 1 2 (by omega) (by omega)
    have a22 := hA 2 2 (by omega) (by omega)
    simp only [Nat.add_zero, Nat.sub_zero, Nat.reduceSub, Nat.sub_self] at a00 a10 a20 a01 a11 a21 a02 a12 a22
    clear hA
    unfold winN winZ
    rw [a00, a10, a20, a01, a11, a21, a02, a12, a22, e1, e2, e3, e4, e5, e6, e7, e8, e9]
    clear a00 a10 a20 a01 a11 a21 a02 a12 a22 e1 e2 e3 e4 e5 e6 e7 e8 e9
    omega
  · intro hA
    have a00 := hA 0 0 (by omega) (by omega)
    have a10 := hA 1 0 (by omega) (by omega)
    have a20 := hA 2 0 (by omega) (by omega)
    have a01 := hA 0 1 (by omega) (by omega)
    have a11 := hA 1 1 (by omega) (by omega)
    have a21 := hA 2 1 (by omega) (by omega)
    have a02 := hA 0 2 (by omega) (by omega)
    have a12 := hA 1 2 (by omega) (by omega)
    have a22 := hA 2 2 (by omega) (by omega)
    simp only [Nat.add_zero, Nat.sub_zero, Nat.reduceSub, Nat.sub_self] at a00 a10 a20 a01 a11 a21 a02 a12 a22
    clear hA
    unfold winN winZ
    rw [a00, a10, a20, a01, a11, a21, a02, a12, a22, e1, e2, e3, e4, e5, e6, e7, e8, e9]
    clear a00 a10 a20 a01 a11 a21 a02 a12 a22 e1 e2 e3 e4 e5 e6 e7 e8 e9
    omega
theorem step_q {w h : Nat} {l t : List Int} (hp : IsPatch w h l) (hw : 3 ≤ w) (hh : 3 ≤ h) (he : evB t = true) : stepL t h w (turnL w h l 1) = turnL (w - 2) (h - 2) (stepL t w h l) 1 := by
  unfold stepL
  show madeL (h - 2) (w - 2) _ = madeL (h - 2) (w - 2) _
  refine madeL_congr (by omega) fun x y hx hy => ?_
  have e1 : turnF (w - 2) (h - 2) (madeL (w - 2) (h - 2) (stepF t w l)) 1 x y = stepF t w l y (h - 2 - 1 - x) := by
    show atL (w - 2) _ y (h - 2 - 1 - x) = _
    rw [atL_made (by omega) (by omega)]
  rw [e1]
  unfold stepF
  have hlt := (winN_lt hp (show y + 2 < w by omega) (show h - 2 - 1 - x + 2 < h by omega)).1
  rw [(win_move hp (show y + 2 < w by omega) (show h - 2 - 1 - x + 2 < h by omega)).1 fun i j hi hj => ?_]
  · exact (evB_of he hlt).1
  · show atL h (madeL h w _) (x + i) (y + j) = _
    rw [atL_made (by omega) (by omega)]
    show atL w l (y + j) (h - 1 - (x + i)) = _
    exact atL_congr rfl (by omega)
theorem step_m {w h : Nat} {l t : List Int} (hp : IsPatch w h l) (hw : 3 ≤ w) (hh : 3 ≤ h) (he : evB t = true) : stepL t w h (turnL w h l 4) = turnL (w - 2) (h - 2) (stepL t w h l) 4 := by
  unfold stepL
  show madeL (w - 2) (h - 2) _ = madeL (w - 2) (h - 2) _
  refine madeL_congr (by omega) fun x y hx hy => ?_
  have e1 : turnF (w - 2) (h - 2) (madeL (w - 2) (h - 2) (stepF t w l)) 4 x y = stepF t w l (w - 2 - 1 - x) y := by
    show atL (w - 2) _ (w - 2 - 1 - x) y = _
    rw [atL_made (by omega) (by omega)]
  rw [e1]
  unfold stepF
  have hlt := (winN_lt hp (show w - 2 - 1 - x + 2 < w by omega) (show y + 2 < h by omega)).1
  rw [(win_move hp (show w - 2 - 1 - x + 2 < w by omega) (show y + 2 < h by omega)).2 fun i j hi hj => ?_]
  · exact (evB_of he hlt).2
  · show atL w (madeL w h _) (x + i) (y + j) = _
    rw [atL_made (by omega) (by omega)]
    show atL w l (w - 1 - (x + i)) (y + j) = _
    exact atL_congr (by omega) rfl
theorem stepL_patch {w h : Nat} {l t : List Int} (hp : IsPatch w h l) (ht : t.length = 512) (hs : ∀ x ∈ t, x = 0 ∨ x = 1) (hw : 3 ≤ w) (hh : 3 ≤ h) : IsPatch (w - 2) (h - 2) (stepL t w h l) := by
  have := hp.w2
  have := hp.h2
  refine ⟨by omega, by omega, by omega, by omega, madeL_len _ _ _, madeL_mem (P := fun x => x = 0 ∨ x = 1) (by omega) fun x y hx hy => ?_⟩
  have hlt := (winN_lt hp (show x + 2 < w by omega) (show y + 2 < h by omega)).1
  unfold stepF
  rw [show t.getD (winN w l x y) 0 = t[winN w l x y]'(by omega) by simp [show winN w l x y < t.length by omega]]
  exact hs _ (List.getElem_mem _)
/-- the image of a turned patch, where turns don't matter -/
theorem step_turn {w h T : Nat} {l t : List Int} (hp : IsPatch w h l) (ht : t.length = 512) (hs : ∀ x ∈ t, x = 0 ∨ x = 1) (hw : 3 ≤ w) (hh : 3 ≤ h) (he : evB t = true) (hT : T < 8) :
    stepL t (turnW w h T) (turnW h w T) (turnL w h l T) = turnL (w - 2) (h - 2) (stepL t w h l) T := by
  have hi := stepL_patch hp ht hs hw hh
  have q0 : stepL t (turnW w h 0) (turnW h w 0) (turnL w h l 0) = turnL (w - 2) (h - 2) (stepL t w h l) 0 := by
    have e1 : turnL w h l 0 = l := made_atL hp.w1 hp.len
    have e2 : turnL (w - 2) (h - 2) (stepL t w h l) 0 = stepL t w h l := made_atL hi.w1 hi.len
    rw [e1, e2]
    rfl
  have next : ∀ S, S < 3 → stepL t (turnW w h S) (turnW h w S) (turnL w h l S) = turnL (w - 2) (h - 2) (stepL t w h l) S → stepL t (turnW w h (S + 1)) (turnW h w (S + 1)) (turnL w h l (S + 1)) = turnL (w - 2) (h - 2) (stepL t w h l) (S + 1) := by
    intro S hS ih
    have hb : bothT S 1 = S + 1 := by
      have : S = 0 ∨ S = 1 ∨ S = 2 := by omega
      rcases this with rfl | rfl | rfl <;> rfl
    have h1 := turn_turn (w := w) (h := h) (l := l) hp.w1 hp.h1 (show S < 8 by omega) (show 1 < 8 by omega)
    have h2 := turn_turn (w := w - 2) (h := h - 2) (l := stepL t w h l) hi.w1 hi.h1 (show S < 8 by omega) (show 1 < 8 by omega)
    rw [hb] at h1 h2
    have hq := step_q (t := t) (turn_patch (t := S) hp) (by unfold turnW; split <;> omega) (by unfold turnW; split <;> omega) he
    rw [h1.2.2, ih] at hq
    have e1 : turnW w h S - 2 = turnW (w - 2) (h - 2) S := by unfold turnW; split <;> rfl
    have e2 : turnW h w S - 2 = turnW (h - 2) (w - 2) S := by unfold turnW; split <;> rfl
    rw [e1, e2, h2.2.2] at hq
    rw [← hq]
    have e3 : turnW w h (S + 1) = turnW h w S := h1.1.symm
    have e4 : turnW h w (S + 1) = turnW w h S := h1.2.1.symm
    rw [e3, e4]
  have mir : ∀ S, S < 4 → stepL t (turnW w h S) (turnW h w S) (turnL w h l S) = turnL (w - 2) (h - 2) (stepL t w h l) S → stepL t (turnW w h (S + 4)) (turnW h w (S + 4)) (turnL w h l (S + 4)) = turnL (w - 2) (h - 2) (stepL t w h l) (S + 4) := by
    intro S hS ih
    have hb : bothT S 4 = S + 4 := by
      have : S = 0 ∨ S = 1 ∨ S = 2 ∨ S = 3 := by omega
      rcases this with rfl | rfl | rfl | rfl <;> rfl
    have h1 := turn_turn (w := w) (h := h) (l := l) hp.w1 hp.h1 (show S < 8 by omega) (show 4 < 8 by omega)
    have h2 := turn_turn (w := w - 2) (h := h - 2) (l := stepL t w h l) hi.w1 hi.h1 (show S < 8 by omega) (show 4 < 8 by omega)
    rw [hb] at h1 h2
    have hq := step_m (t := t) (turn_patch (t := S) hp) (by unfold turnW; split <;> omega) (by unfold turnW; split <;> omega) he
    rw [h1.2.2, ih] at hq
    have e1 : turnW w h S - 2 = turnW (w - 2) (h - 2) S := by unfold turnW; split <;> rfl
    have e2 : turnW h w S - 2 = turnW (h - 2) (w - 2) S := by unfold turnW; split <;> rfl
    rw [e1, e2, h2.2.2] at hq
    rw [← hq]
    have e3 : turnW w h (S + 4) = turnW w h S := h1.1.symm
    have e4 : turnW h w (S + 4) = turnW h w S := h1.2.1.symm
    rw [e3, e4]
  have q1 := next 0 (by omega) q0
  have q2 := next 1 (by omega) q1
  have q3 := next 2 (by omega) q2
  have hc : T = 0 ∨ T = 1 ∨ T = 2 ∨ T = 3 ∨ T = 4 ∨ T = 5 ∨ T = 6 ∨ T = 7 := by omega
  rcases hc with rfl | rfl | rfl | rfl | rfl | rfl | rfl | rfl
  · exact q0
  · exact q1
  · exact q2
  · exact q3
  · exact mir 0 (by omega) q0
  · exact mir 1 (by omega) q1
  · exact mir 2 (by omega) q2
  · exact mir 3 (by omega) q3
end Go.Proofs.YtocfkmdoalhjmaaDoor
namespace Go.Proofs.YtocfkmdoalhjmaaDoor
open Go.RowKit
set_option linter.unusedVariables false
set_option maxRecDepth 100000

/-- a set's digits -/
def digsTo (z : Nat) : Nat → List UInt8
  | 0 => []
  | n + 1 => digsTo z n ++ (if z / 2 ^ n % 2 = 1 then [UInt8.ofNat (48 + n)] else [])
def digsN (z : Nat) : List UInt8 := digsTo z 9
theorem digsTo_len (z : Nat) : ∀ n, (digsTo z n).length ≤ n
  | 0 => Nat.le_refl _
  | n + 1 => by
    have := digsTo_len z n
    unfold digsTo
    split <;> simp <;> omega
theorem digit_nat : ∀ n : Fin 9, (UInt8.ofNat (48 + n.val)).toNat = 48 + n.val := by decide
theorem digs_yes {z n : Nat} (hn : n < 9) (h : z / 2 ^ n % 2 = 1) : Lib.byteCells (digsTo z n) ++ [Value.int .u8 ((48 + n : Nat) : Int)] = Lib.byteCells (digsTo z (n + 1)) := by
  have e : digsTo z (n + 1) = digsTo z n ++ [UInt8.ofNat (48 + n)] := by rw [digsTo, if_pos h]
  have e2 := digit_nat ⟨n, hn⟩
  simp only at e2
  rw [e]
  simp only [Lib.byteCells, List.map_append, List.map_cons, List.map_nil, e2]
theorem digs_no {z n : Nat} (h : ¬ z / 2 ^ n % 2 = 1) : digsTo z (n + 1) = digsTo z n := by rw [digsTo, if_neg h, List.append_nil]
set_option maxHeartbeats 8000000 in
theorem numbers_any (z : Nat) (hz : z < 512) (W : World) : Calls Tryd.prog 74 #[.int .i64 z] W fun e w' => e = .returned (.string ⟨(digsN z).toArray⟩) ∧ Below W.heap.size W w' := by
  obtain ⟨b, hb⟩ : ∃ b, W.heap.size = b := ⟨_, rfl⟩
  obtain ⟨Wb, hWb⟩ : ∃ Wb, W.alloc (.cells #[.pointer none, .slice none 0 0] 172) = Wb := ⟨_, rfl⟩
  have HO0 : Hid (Bld b b (Lib.byteCells (digsTo z 0)) Wb) := by show Bld b b _ Wb; rw [← hWb, ← hb]; exact bld_new rfl (Nat.le_refl _)
  have HB0 : Hid (Below b W Wb) := by rw [← hWb, ← hb]; exact balloc (bnil W) _
  have HBB := Lib.hid hb
  have HWB := Lib.hid hWb
  clear hWb
  go_enter Tryd.func74, Tryd.ntmps74
  go_wp2_with fail
  rw [HWB.out]
  clear hb
  go_loopw [5] (fun ix wr => ∃ n : Nat, n ≤ 9 ∧ ix = .int .i64 n ∧ Bld b b (Lib.byteCells (digsTo z n)) wr ∧ Below b W wr) (fun ix _ => 9 - (intOf ix).toNat)
  case atStart => exact ⟨0, by omega, rfl, HO0.out, HB0.out⟩
  case round =>
    obtain ⟨n, hn, rfl, ho, hbr⟩ := hrel
    have HO := Lib.hid ho
    have HB := Lib.hid hbr
    have hbs : b ≤ wr.heap.size := by have := hbr.size; have := HBB.out; omega
    clear ho hbr
    by_cases hin : n < 9
    · have i1 : (n : Int) < 9 := by omega
      have i0 : (0 : Int) ≤ (n : Int) := by omega
      have i64 : (n : Int) ≤ 64 := by omega
      obtain ⟨v, hv⟩ : ∃ v, z / 2 ^ n = v := ⟨_, rfl⟩
      have hvI : (z : Int) / 2 ^ n = (v : Int) := by rw [← hv, Int.natCast_ediv, Int.natCast_pow]; rfl
      have hv2 : v < 512 := by rw [← hv]; exact Nat.lt_of_le_of_lt (Nat.div_le_self _ _) hz
      have ha := and1_i64 (a := v) (by omega)
      have hlb : (Lib.byteCells (digsTo z n)).length + 1 ≤ 100000000 := by
        have := digsTo_len z n
        rw [Lib.byteCells_length]; omega
      have HLB := Lib.hid hlb
      by_cases hm : v % 2 = 1
      · have hy := digs_yes (z := z) hin (by rw [hv]; exact hm)
        have HY := Lib.hid hy
        rw [hm] at ha
        have hw8 : IntKind.u8.wrap (48 + (n : Int)) = ((48 + n : Nat) : Int) := by
          show ((48 + (n : Int)) % 256) = _
          omega
        have hb1 : bits .and .i64 (v : Int) 1 = 1 := ha
        clear hy hlb hv ha hm
        go_wp2_with fail
        refine (bld_write b b _ ((48 + n : Nat) : Int) _ HO.out HLB.out hbs).mono ?_; rintro e w6 ⟨rfl, ho6, hb6⟩
        rw [HY.out] at ho6
        have HO6 := Lib.hid ho6
        have HB6 := Lib.hid (HB.out.trans hb6)
        clear ho6 hb6
        go_wp2
        go_roundw
        case rel => exact ⟨n + 1, by omega, by go_num, HO6.out, HB6.out⟩
        case measure => simp [intOf]; omega
      · have hm0 : v % 2 = 0 := by omega
        have hno := digs_no (z := z) (n := n) (by rw [hv]; exact hm)
        rw [hm0] at ha
        have hb1 : bits .and .i64 (v : Int) 1 = 0 := ha
        have HO6 : Hid (Bld b b (Lib.byteCells (digsTo z (n + 1))) wr) := by rw [hno]; exact HO.out
        clear hlb hv ha hm hm0 hno
        go_wp2
        go_roundw
        case rel => exact ⟨n + 1, by omega, by go_num, HO6.out, HB.out⟩
        case measure => simp [intOf]; omega
    · obtain rfl : n = 9 := by omega
      have HO2 := Lib.hid (show Bld b b (Lib.byteCells (digsN z)) wr from HO.out)
      clear HO
      go_wp2_with fail
      refine (bld_string b b _ _ HO2.out hbs).mono ?_; rintro e w8 ⟨rfl, hb8⟩
      have hbe : Below W.heap.size W w8 := by rw [HBB.out]; exact HB.out.trans hb8
      have HBE := Lib.hid hbe
      clear hbe hb8
      go_wp2
      go_ret
      exact ⟨rfl, HBE.out⟩
end Go.Proofs.YtocfkmdoalhjmaaDoor
namespace Go.Proofs.YtocfkmdoalhjmaaDoor
open Go.RowKit
set_option linter.unusedVariables false
set_option maxRecDepth 100000

/-- the set of the numbers with which a cell (k: of 1) is 1 next, from the windows so far -/
def setsO (t : List Int) (k : Nat) : Nat → Nat
  | 0 => 0
  | i + 1 => if i / 16 % 2 = k then setsO t k i ||| ((t.getD i 0).toNat * 2 ^ aboutN i) else setsO t k i
theorem setsO_lt {t : List Int} (ht : IsTab t) (k : Nat) : ∀ i, i ≤ 512 → setsO t k i < 512
  | 0, _ => by simp [setsO]
  | i + 1, h => by
    have ih := setsO_lt ht k i (by omega)
    unfold setsO
    split
    · have hx : t.getD i 0 = 0 ∨ t.getD i 0 = 1 := by
        have hi : i < t.length := by rw [ht.len]; omega
        rw [show t.getD i 0 = t[i] by simp [hi]]
        exact ht.sym _ (List.getElem_mem hi)
      have h8 := (andNot16 ⟨i, by omega⟩).2.2.2
      simp only at h8
      have hp : 2 ^ aboutN i ≤ 2 ^ 8 := Nat.pow_le_pow_right (by omega) h8
      have h9 : (2 : Nat) ^ 8 = 256 := by decide
      refine Nat.or_lt_two_pow (n := 9) ih ?_
      have hm : (t.getD i 0).toNat ≤ 1 := by omega
      have := Nat.mul_le_mul_right (2 ^ aboutN i) hm
      have h10 : (2 : Nat) ^ 9 = 512 := by decide
      omega
    · exact ih
def setB (t : List Int) : Nat := setsO t 0 512
def setS (t : List Int) : Nat := setsO t 1 512
def counts (t : List Int) : Bool := decide (tabOf (setB t) (setS t) = t)
/-- a table's text -/
def tbS (t : List Int) : ByteArray := (⟨#[66]⟩ : ByteArray) ++ ⟨(digsN (setB t)).toArray⟩ ++ ⟨#[47, 83]⟩ ++ ⟨(digsN (setS t)).toArray⟩
def plTextS (t : List Int) : ByteArray := if tabD t = none ∧ counts t = true then tbS t else ⟨#[]⟩
def plTextB (t : List Int) : Bool := decide (tabD t = none) && counts t
def TxtRet (R : Nat → Addr) (W : World) (s : ByteArray) (b : Bool) (x : ErrD) (e : Ending) (w' : World) : Prop := ∃ ev, e = .returned (.tuple #[.string s, .bool b, ev]) ∧ EC R w' ev x ∧ Below W.heap.size W w'
/-- two numbers in a block -/
abbrev P2 (w : World) (g : Nat) (a b : Int) : Prop := w.heap[g]? = some (.cells #[.int .i64 a, .int .i64 b] 94)
theorem p2_cells {w : World} {g : Nat} {a b : Int} (h : P2 w g a b) : (w.cell? ⟨g, 0, none⟩ = some (.int .i64 a) ∧ w.cell? ⟨g, 1, none⟩ = some (.int .i64 b)) ∧ w.frozen? ⟨g, 0, none⟩ = false ∧ w.frozen? ⟨g, 1, none⟩ = false := by
  have h2 : w.heap[g]? = _ := h
  simp [World.cell?, World.frozen?, h2]
theorem P2.set0 {w : World} {g : Nat} {a b : Int} (h : P2 w g a b) (u : Int) : P2 (w.setCell ⟨g, 0, none⟩ (.int .i64 u)) g u b := by
  have h2 : w.heap[g]? = _ := h
  show (w.setCell ⟨g, 0, none⟩ (.int .i64 u)).heap[g]? = _
  simp [World.setCell, Array.getElem?_modify, h2]
theorem P2.set1 {w : World} {g : Nat} {a b : Int} (h : P2 w g a b) (u : Int) : P2 (w.setCell ⟨g, 1, none⟩ (.int .i64 u)) g a u := by
  have h2 : w.heap[g]? = _ := h
  show (w.setCell ⟨g, 1, none⟩ (.int .i64 u)).heap[g]? = _
  simp [World.setCell, Array.getElem?_modify, h2]
set_option maxHeartbeats 16000000 in
theorem pltext_any (a : Option Addr) (n c : Nat) (t : List Int) (W : World) (R : Nat → Addr) (hS : Sent W R) (hR : RK .i64 W a n t) (hm : n ≤ maxLen) :
    Calls Tryd.prog 30 #[.slice a n c] W (TxtRet R W (plTextS t) (plTextB t) (tabD t)) := by
  have T0 := Tk.nil W
  have T1 := T0.add (fun wv => Below W.heap.size W wv) (bnil W)
  clear T0
  have T2 := T1.add (fun wv => Sent wv R) (hS)
  clear T1
  have T3 := T2.add (fun wv => RK .i64 wv a n t) (hR)
  clear T2
  clear hS hR
  by_cases hd : tabD t ≠ none
  · skip
    have h1 : plTextS t = ⟨#[]⟩ := by unfold plTextS; rw [if_neg (fun h => hd h.1)]
    have h2 : plTextB t = false := by unfold plTextB; rw [decide_eq_false hd]; rfl
    have HOD := Lib.hid (And.intro h1 h2)
    have HD := Lib.hid hd
    clear h1 h2 hd
    go_enter Tryd.func30, Tryd.ntmps30
    go_wp2_with fail
    refine (plcheck_er a n c t W R T3.out.1.2 T3.out.2 hm HD.out).mono ?_; rintro e w1 ⟨g, rfl, he, hbw1⟩
    have T4 := T3.up hbw1
    clear T3
    have HE := Lib.hid he
    clear he
    go_wp2
    go_ret3
    rw [HOD.out.1, HOD.out.2]
    exact ⟨_, rfl, HE.out, T4.out.1.1.2⟩
  have hd0 : tabD t = none := Decidable.byContradiction hd
  have hT := tabD_none hd0
  have HT := Lib.hid hT
  have HD := Lib.hid hd0
  obtain rfl : n = 512 := by have h1 := (T3.out.2).len; rw [hT.len] at h1; exact h1
  clear hd hd0 hT
  go_enter Tryd.func30, Tryd.ntmps30
  go_wp2_with fail
  refine (plcheck_ok a 512 c t W R T3.out.1.2 T3.out.2 hm HT.out).mono ?_; rintro e w1 ⟨rfl, hbw1⟩
  have T4 := T3.up hbw1
  clear T3
  go_wp2_with fail
  obtain ⟨g, hg⟩ : ∃ g, w1.heap.size = g := ⟨_, rfl⟩
  obtain ⟨w2, hw2⟩ : ∃ w2, w1.alloc (.cells #[.int .i64 0, .int .i64 0] 94) = w2 := ⟨_, rfl⟩
  have HZ0 : Hid (P2 w2 g (setsO t 0 0 : Nat) (setsO t 1 0 : Nat)) := by show P2 w2 g 0 0; rw [← hw2, ← hg]; exact heap_alloc_new w1 _
  have HB0 : Hid (Below g w1 w2) := by rw [← hw2, ← hg]; exact balloc (bnil w1) _
  have HG := Lib.hid hg
  rw [hw2, hg]
  clear hw2 hg
  go_loopw [16] (fun ix wr => ∃ i : Nat, i ≤ 512 ∧ ix = .int .i64 i ∧ P2 wr g (setsO t 0 i : Nat) (setsO t 1 i : Nat) ∧ Below g w1 wr) (fun ix _ => 512 - (intOf ix).toNat)
  case atStart => exact ⟨0, by omega, rfl, HZ0.out, HB0.out⟩
  case round =>
    obtain ⟨i, hi, rfl, hz, hb⟩ := hrel
    have HZ := Lib.hid hz
    have HB := Lib.hid hb
    clear hz
    have hbw : Below w1.heap.size w1 wr := by rw [HG.out]; exact hb
    clear hb
    generalize wr = wo at *
    by_cases hin : i < 512
    · skip
      have T5 := T4.up hbw
      clear T4
      clear hbw
      obtain ⟨ab, ao, hab0, hab, hcell⟩ := (T5.out.2).addr (by omega)
      subst hab0
      have z0 := hcell i hin
      have hx : t.getD i 0 = 0 ∨ t.getD i 0 = 1 := by
        have hil : i < t.length := by rw [HT.out.len]; exact hin
        rw [show t.getD i 0 = t[i] by simp [hil]]
        exact HT.out.sym _ (List.getElem_mem hil)
      obtain ⟨X, hX⟩ : ∃ X : Nat, (t.getD i 0).toNat = X := ⟨_, rfl⟩
      have hXI : t.getD i 0 = (X : Int) := by omega
      have hX1 : X ≤ 1 := by omega
      rw [hXI] at z0
      obtain ⟨_, h2, _, h8⟩ := andNot16 ⟨i, hin⟩
      simp only at h2 h8
      have hb0 := setsO_lt HT.out 0 i (by omega)
      have hb1 := setsO_lt HT.out 1 i (by omega)
      have hn0 : setsO t 0 (i + 1) = if i / 16 % 2 = 0 then setsO t 0 i ||| (X * 2 ^ aboutN i) else setsO t 0 i := by rw [← hX]; rfl
      have hn1 : setsO t 1 (i + 1) = if i / 16 % 2 = 1 then setsO t 1 i ||| (X * 2 ^ aboutN i) else setsO t 1 i := by rw [← hX]; rfl
      obtain ⟨k, hk⟩ : ∃ k, aboutN i = k := ⟨_, rfl⟩
      rw [hk] at h8 hn0 hn1
      have HK := Lib.hid hk
      have hpow : 2 ^ k ≤ 256 := by
        have := Nat.pow_le_pow_right (n := 2) (by omega) h8
        have h9 : (2 : Nat) ^ 8 = 256 := by decide
        omega
      obtain ⟨Y, hY⟩ : ∃ Y, X * 2 ^ k = Y := ⟨_, rfl⟩
      have hY2 : Y ≤ 256 := by
        rw [← hY]
        have := Nat.mul_le_mul_right (2 ^ k) hX1
        omega
      have hYI : (X : Int) * 2 ^ k = (Y : Int) := by rw [← hY, Int.natCast_mul, Int.natCast_pow]; rfl
      have hYw : IntKind.i64.wrap (Y : Int) = (Y : Int) := IntWalk.i64_in _ (by omega)
      rw [hY] at hn0 hn1
      have k0 : (0 : Int) ≤ (k : Int) := by omega
      have k1 : (k : Int) ≤ 64 := by omega
      have i0 : (0 : Int) ≤ (i : Int) := by omega
      have i1 : (i : Int) < 512 := by omega
      obtain ⟨⟨u0, u1⟩, g0, g1⟩ := p2_cells HZ.out
      have hz := HZ.out
      generalize setsO t 0 i = A at *
      generalize setsO t 1 i = C at *
      clear hcell hx hX hXI hk hY
      by_cases hmid : i / 16 % 2 = 1
      · skip
        rw [hmid] at h2
        rw [if_neg (by omega)] at hn0
        rw [if_pos hmid] at hn1
        have hq1 : IntKind.i64.wrap 1 = 1 := by decide
        have h2b : bits .and .i64 (i : Int) 16 = 16 := h2
        have hor : bits .or .i64 (C : Int) (Y : Int) = ((C ||| Y : Nat) : Int) := or_i64 (by omega) (by omega)
        obtain ⟨Z, hZ⟩ : ∃ Z, C ||| Y = Z := ⟨_, rfl⟩
        rw [hZ] at hor hn1
        have hz2 := hz.set1 (Z : Int)
        have HZ2 : Hid (P2 (wo.setCell ⟨g, 1, none⟩ (.int .i64 (Z : Int))) g (setsO t 0 (i + 1) : Nat) (setsO t 1 (i + 1) : Nat)) := by rw [hn0, hn1]; exact hz2
        have HB2 := Lib.hid (HB.out.setCell (p := ⟨g, 1, none⟩) (Nat.le_refl g) (.int .i64 (Z : Int)))
        clear hz hz2 hn0 hn1 hZ h2 hmid
        go_wp2_with fail
        go_region_law (first
          | (go_simp; go_at_call 72; refine (about_any i hin _).mono ?_; rintro e w3 ⟨rfl, rfl⟩; rw [HK.out]))
        all_goals
          go_wp2
          go_roundw
          case rel => exact ⟨i + 1, by omega, by go_num, HZ2.out, by first | exact HB2.out | exact Below.drew HB2.out⟩
          case measure => simp [intOf]; omega
      · skip
        have hmid0 : i / 16 % 2 = 0 := by omega
        rw [hmid0] at h2
        rw [if_pos hmid0] at hn0
        rw [if_neg hmid] at hn1
        have hq1 : IntKind.i64.wrap 0 = 0 := by decide
        have h2b : bits .and .i64 (i : Int) 16 = 0 := h2
        have hor : bits .or .i64 (A : Int) (Y : Int) = ((A ||| Y : Nat) : Int) := or_i64 (by omega) (by omega)
        obtain ⟨Z, hZ⟩ : ∃ Z, A ||| Y = Z := ⟨_, rfl⟩
        rw [hZ] at hor hn0
        have hz2 := hz.set0 (Z : Int)
        have HZ2 : Hid (P2 (wo.setCell ⟨g, 0, none⟩ (.int .i64 (Z : Int))) g (setsO t 0 (i + 1) : Nat) (setsO t 1 (i + 1) : Nat)) := by rw [hn0, hn1]; exact hz2
        have HB2 := Lib.hid (HB.out.setCell (p := ⟨g, 0, none⟩) (Nat.le_refl g) (.int .i64 (Z : Int)))
        clear hz hz2 hn0 hn1 hZ h2 hmid
        go_wp2_with fail
        go_region_law (first
          | (go_simp; go_at_call 72; refine (about_any i hin _).mono ?_; rintro e w3 ⟨rfl, rfl⟩; rw [HK.out]))
        all_goals
          go_wp2
          go_roundw
          case rel => exact ⟨i + 1, by omega, by go_num, HZ2.out, by first | exact HB2.out | exact Below.drew HB2.out⟩
          case measure => simp [intOf]; omega
    · skip
      have T5 := T4.up hbw
      clear T4
      obtain rfl : i = 512 := by omega
      obtain ⟨⟨u0, u1⟩, g0, g1⟩ := p2_cells HZ.out
      have hb0 := setsO_lt HT.out 0 512 (Nat.le_refl _)
      have hb1 := setsO_lt HT.out 1 512 (Nat.le_refl _)
      have e0 : setsO t 0 512 = setB t := rfl
      have e1 : setsO t 1 512 = setS t := rfl
      rw [e0] at u0 hb0
      rw [e1] at u1 hb1
      obtain ⟨s0, hs0⟩ : ∃ s0, setB t = s0 := ⟨_, rfl⟩
      obtain ⟨s1, hs1⟩ : ∃ s1, setS t = s1 := ⟨_, rfl⟩
      rw [hs0] at u0 hb0
      rw [hs1] at u1 hb1
      have HS01 := Lib.hid (And.intro hs0 hs1)
      clear e0 e1 hs0 hs1 HZ
      have T6 := T5.add (fun wv => wv.cell? ⟨g, 0, none⟩ = some (.int .i64 s0) ∧ wv.cell? ⟨g, 1, none⟩ = some (.int .i64 s1)) (⟨u0, u1⟩)
      clear T5
      clear hbw
      go_wp2_with fail
      refine (counted_any s0 s1 hb0 hb1 wo).mono ?_; rintro e w5 ⟨g5, c5, rfl, ho5, hbw5⟩
      clear u0 u1 g0 g1
      have T7 := T6.up hbw5
      clear T6
      have HO5 := Lib.hid ho5.rk
      clear ho5
      go_wp2_with fail
      refine (slEq_any (some ⟨g5, 0, none⟩) a 512 512 c5 c (tabOf s0 s1) t w5 HO5.out T7.out.1.2 (by unfold maxLen; omega) hm).mono ?_; rintro e w6 ⟨rfl, m6, rfl⟩
      obtain ⟨wd, hwd⟩ : ∃ wd, w5.drewN m6 = wd := ⟨_, rfl⟩
      have hbd : Below w5.heap.size w5 wd := by rw [← hwd]; exact bdrewN (bnil w5) m6
      rw [hwd]
      clear hwd
      have T8 := T7.up hbd
      clear T7
      clear hbd
      by_cases heq : tabOf s0 s1 = t
      · skip
        have hcnt : counts t = true := by unfold counts; rw [HS01.out.1, HS01.out.2]; exact decide_eq_true heq
        have h1 : plTextS t = (⟨#[66]⟩ : ByteArray) ++ ⟨(digsN s0).toArray⟩ ++ ⟨#[47, 83]⟩ ++ ⟨(digsN s1).toArray⟩ := by unfold plTextS; rw [if_pos ⟨HD.out, hcnt⟩]; unfold tbS; rw [HS01.out.1, HS01.out.2]
        have h2 : plTextB t = true := by unfold plTextB; rw [decide_eq_true HD.out, hcnt]; rfl
        have HOD := Lib.hid (And.intro h1 h2)
        have heqb : decide (tabOf s0 s1 = t) = true := decide_eq_true heq
        rw [heqb]
        clear h1 h2 hcnt heq heqb
        have HS0 : Hid (wd.drew.cell? ⟨g, 0, none⟩ = some (.int .i64 s0) ∧ wd.drew.cell? ⟨g, 1, none⟩ = some (.int .i64 s1)) := ⟨T8.out.2.1, T8.out.2.2⟩
        obtain ⟨d0, hd0⟩ : ∃ d, (⟨(digsN s0).toArray⟩ : ByteArray) = d := ⟨_, rfl⟩
        obtain ⟨d1, hd1⟩ : ∃ d, (⟨(digsN s1).toArray⟩ : ByteArray) = d := ⟨_, rfl⟩
        have n0 := fun w => numbers_any s0 hb0 w
        have n1 := fun w => numbers_any s1 hb1 w
        have hod := HOD.out
        rw [hd0, hd1] at hod
        rw [hd0] at n0
        rw [hd1] at n1
        have HOD2 := Lib.hid hod
        have hz0 : d0.size ≤ 9 := by rw [← hd0]; have := digsTo_len s0 9; simpa [digsN, ByteArray.size] using this
        have hz1 : d1.size ≤ 9 := by rw [← hd1]; have := digsTo_len s1 9; simpa [digsN, ByteArray.size] using this
        have c1 : (⟨#[66]⟩ : ByteArray).size = 1 := rfl
        have c2 : (⟨#[47, 83]⟩ : ByteArray).size = 2 := rfl
        have ka := fun w : World => run_string_add_sum (P := Tryd.prog) w ⟨#[66]⟩ d0 (by omega)
        have kb := fun w : World => run_string_add_sum (P := Tryd.prog) w (⟨#[66]⟩ ++ d0) ⟨#[47, 83]⟩ (by rw [ByteArray.size_append]; omega)
        have kc := fun w : World => run_string_add_sum (P := Tryd.prog) w (⟨#[66]⟩ ++ d0 ++ ⟨#[47, 83]⟩) d1 (by rw [ByteArray.size_append, ByteArray.size_append]; omega)
        clear c1 c2 hz0 hz1
        have HN := Lib.hid (And.intro n0 n1)
        clear n0 n1 hod hd0 hd1
        go_wp2_with fail
        go_region_held3 (fun w' => w'.cell? ⟨g, 0, none⟩ = some (.int .i64 s0) ∧ w'.cell? ⟨g, 1, none⟩ = some (.int .i64 s1))
          (first | with_reducible exact HS8.out | with_reducible exact HS7.out | with_reducible exact HS0.out | go_keep)
          (first
            | (go_at_call_of 74 (Value.int IntKind.i64 (s1 : Int)); have q := HD7; clear q; refine (HN.out.2 _).mono ?_; rintro e w8 ⟨rfl, hb8⟩; have HD8 := Lib.hid (bstep HD7.out hb8); have HS8 := Lib.hid (And.intro (cpa hb8 (HS7.out).1) (cpa hb8 (HS7.out).2)); clear hb8)
            | (go_at_call_of 74 (Value.int IntKind.i64 (s0 : Int)); refine (HN.out.1 _).mono ?_; rintro e w7 ⟨rfl, hb7⟩; have HD7 := Lib.hid hb7; have HS7 := Lib.hid (And.intro (cpa hb7 (HS0.out).1) (cpa hb7 (HS0.out).2)); clear hb7))
        go_wp2
        go_ret3
        rw [HOD2.out.1, HOD2.out.2, HD.out]
        exact ⟨_, rfl, rfl, (T8.out.1.1.1.2).trans (((Below.drew (bnil wd)).trans HD8.out).mono (T8.out.1.1.1.2).size)⟩
      · skip
        have hcnt : counts t = false := by unfold counts; rw [HS01.out.1, HS01.out.2]; exact decide_eq_false heq
        have h1 : plTextS t = ⟨#[]⟩ := by unfold plTextS; rw [if_neg (fun h => by rw [hcnt] at h; exact absurd h.2 (by decide))]
        have h2 : plTextB t = false := by unfold plTextB; rw [hcnt, Bool.and_false]
        have HOD := Lib.hid (And.intro h1 h2)
        have heqb : decide (tabOf s0 s1 = t) = false := decide_eq_false heq
        rw [heqb]
        clear h1 h2 hcnt heq heqb
        go_wp2
        go_ret3
        rw [HOD.out.1, HOD.out.2, HD.out]
        exact ⟨_, rfl, rfl, T8.out.1.1.1.2⟩
end Go.Proofs.YtocfkmdoalhjmaaDoor
namespace Go.Proofs.YtocfkmdoalhjmaaDoor
set_option linter.unusedVariables false
set_option maxRecDepth 100000

/-- is the number n named on the side own? gone through byte by byte -/
def namedF (own n : Nat) : List UInt8 → Nat → Nat → Nat
  | [], _, nm => nm
  | c :: r, side, nm => namedF own n r (if c = 47 then 1 else side) (if (if c = 47 then 1 else side) = own ∧ (c.toNat : Int) - 48 = (n : Int) then 1 else nm)
theorem bit_grow {s d n : Nat} (hs : s < 2 ^ d) : (s + 2 ^ d) / 2 ^ n % 2 = if n = d then 1 else s / 2 ^ n % 2 := by
  have hp : ∀ k, 0 < 2 ^ k := fun k => Nat.pow_pos (by omega)
  rcases Nat.lt_trichotomy n d with h | h | h
  · rw [if_neg (by omega)]
    obtain ⟨k, rfl⟩ : ∃ k, d = n + (k + 1) := ⟨d - n - 1, by omega⟩
    rw [Nat.pow_add, Nat.pow_succ, Nat.add_mul_div_left _ _ (hp n)]
    omega
  · subst h
    rw [if_pos rfl, Nat.add_div_right _ (hp n), Nat.div_eq_of_lt hs]
  · rw [if_neg (by omega)]
    have h1 : 2 ^ (d + 1) ≤ 2 ^ n := Nat.pow_le_pow_right (by omega) (by omega)
    have h2 : 2 ^ (d + 1) = 2 ^ d * 2 := Nat.pow_succ ..
    rw [Nat.div_eq_of_lt (show s + 2 ^ d < 2 ^ n by omega), Nat.div_eq_of_lt (show s < 2 ^ n by omega)]
def sideB (own s0 s1 : Nat) : Nat := if own = 1 then s1 else s0
theorem namedF_skip {own n side nm : Nat} {c : UInt8} {r : List UInt8} (h : c ≠ 47) (h2 : ¬ ((c.toNat : Int) - 48 = (n : Int))) : namedF own n (c :: r) side nm = namedF own n r side nm := by
  conv => lhs; unfold namedF
  rw [if_neg h, if_neg (by rintro ⟨_, h3⟩; exact h2 h3)]
theorem namedF_dig {own n side nm d : Nat} {c : UInt8} {r : List UInt8} (h : c ≠ 47) (h2 : (c.toNat : Int) - 48 = (d : Int)) : namedF own n (c :: r) side nm = namedF own n r side (if side = own ∧ n = d then 1 else nm) := by
  conv => lhs; unfold namedF
  rw [if_neg h, h2]
  congr 1
  by_cases h3 : side = own ∧ n = d
  · rw [if_pos h3, if_pos ⟨h3.1, by omega⟩]
  · rw [if_neg h3, if_neg (by rintro ⟨h4, h5⟩; exact h3 ⟨h4, by omega⟩)]
theorem namedF_slash {own n side nm : Nat} {r : List UInt8} : namedF own n (47 :: r) side nm = namedF own n r 1 nm := by
  conv => lhs; unfold namedF
  have h47 : ((47 : UInt8).toNat : Int) = 47 := rfl
  rw [if_pos rfl, if_neg (by rintro ⟨_, h3⟩; omega)]
theorem u8_of {c d : UInt8} (h : c.toNat = d.toNat) : c = d := UInt8.toNat_inj.1 h
theorem named_life (own n : Nat) (ho : own ≤ 1) (hn : n ≤ 8) : ∀ (L : List UInt8) (i st s0 s1 : Nat) (last : Int) (b s : Nat), RdSt st last s0 s1 → lifeRun L i st last s0 s1 = .ok (b, s) →
    namedF own n L (if 2 ≤ st then 1 else 0) (sideB own s0 s1 / 2 ^ n % 2) = sideB own b s / 2 ^ n % 2
  | [], i, st, s0, s1, last, b, s, hR, h => by
    unfold lifeRun at h
    split at h
    · cases h; rfl
    · cases h
  | c :: r, i, st, s0, s1, last, b, s, hR, h => by
    unfold lifeRun at h
    cases hq : takeF st last s0 s1 c with
    | none => rw [hq] at h; cases h
    | some q =>
      obtain ⟨st', last', s0', s1'⟩ := q
      rw [hq] at h
      have hR' := take_next hR hq
      have ih := named_life own n ho hn r (i + 1) st' s0' s1' last' b s hR' h
      have hs3 := hR.s3
      rw [← ih]
      unfold takeF at hq
      by_cases c0 : st = 0
      · subst c0
        rw [if_pos rfl] at hq
        split at hq
        · rename_i hc
          cases hq
          subst hc
          rw [namedF_skip (by decide) (by have : ((66 : UInt8).toNat : Int) = 66 := rfl; omega)]
          simp
        · cases hq
      rw [if_neg c0] at hq
      by_cases c2 : st = 2
      · subst c2
        rw [if_pos rfl] at hq
        split at hq
        · rename_i hc
          cases hq
          subst hc
          rw [namedF_skip (by decide) (by have : ((83 : UInt8).toNat : Int) = 83 := rfl; omega)]
          simp
        · cases hq
      rw [if_neg c2] at hq
      by_cases c1 : st = 1 ∧ c = 47
      · rw [if_pos c1] at hq
        obtain ⟨rfl, rfl⟩ := c1
        cases hq
        rw [namedF_slash]
        simp
      rw [if_neg c1] at hq
      split at hq
      · cases hq
      rename_i hd
      have hlo := hR.lo
      have hc47 : c ≠ 47 := by
        rintro rfl
        have h47 : ((47 : UInt8).toNat : Int) = 47 := rfl
        omega
      obtain ⟨d, hd1⟩ : ∃ d, c.toNat - 48 = d := ⟨_, rfl⟩
      have hd2 : (c.toNat : Int) - 48 = (d : Int) := by omega
      rw [namedF_dig hc47 hd2]
      rw [hd2] at hd hq
      rw [hd1] at hq
      split at hq
      · rename_i hs
        cases hq
        subst hs
        have hg := pow_grow (hR.g0 rfl) hlo (show last < (d : Int) by omega) (by omega)
        have hb := bit_grow (n := n) hg.1
        congr 1
        unfold sideB
        by_cases hown : own = 1
        · subst hown; simp
        · have : own = 0 := by omega
          subst this
          simp only [show ¬ (0 : Nat) = 1 by omega, if_false]
          rw [hb]
          by_cases hnd : n = d <;> simp [hnd]
      · rename_i hs
        cases hq
        have h3 : st = 3 := by omega
        subst h3
        have hg := pow_grow (hR.g1 rfl) hlo (show last < (d : Int) by omega) (by omega)
        have hb := bit_grow (n := n) hg.1
        congr 1
        unfold sideB
        by_cases hown : own = 1
        · subst hown
          simp only [if_true]
          rw [hb]
          by_cases hnd : n = d <;> simp [hnd]
        · have : own = 0 := by omega
          subst this
          simp
theorem win_bits : ∀ (a b c d e f g h i : Fin 2), aboutN (256 * a.val + 128 * b.val + 64 * c.val + 32 * d.val + 16 * e.val + 8 * f.val + 4 * g.val + 2 * h.val + i.val) = a.val + b.val + c.val + d.val + f.val + g.val + h.val + i.val ∧ (256 * a.val + 128 * b.val + 64 * c.val + 32 * d.val + 16 * e.val + 8 * f.val + 4 * g.val + 2 * h.val + i.val) / 16 % 2 = e.val := by decide +kernel
theorem win_bitsN {a b c d e f g h i : Nat} (ha : a ≤ 1) (hb : b ≤ 1) (hc : c ≤ 1) (hd : d ≤ 1) (he : e ≤ 1) (hf : f ≤ 1) (hg : g ≤ 1) (hh : h ≤ 1) (hi : i ≤ 1) :
    aboutN (256 * a + 128 * b + 64 * c + 32 * d + 16 * e + 8 * f + 4 * g + 2 * h + i) = a + b + c + d + f + g + h + i ∧ (256 * a + 128 * b + 64 * c + 32 * d + 16 * e + 8 * f + 4 * g + 2 * h + i) / 16 % 2 = e :=
  win_bits ⟨a, by omega⟩ ⟨b, by omega⟩ ⟨c, by omega⟩ ⟨d, by omega⟩ ⟨e, by omega⟩ ⟨f, by omega⟩ ⟨g, by omega⟩ ⟨h, by omega⟩ ⟨i, by omega⟩
end Go.Proofs.YtocfkmdoalhjmaaDoor
namespace Go.Proofs.YtocfkmdoalhjmaaDoor
open Go.RowKit
set_option linter.unusedVariables false
set_option maxRecDepth 100000

/-- the cells of a window, added up one by one -/
def nbS (w : Nat) (l : List Int) (x y : Nat) : Nat → Nat
  | 0 => 0
  | k + 1 => nbS w l x y k + (atL w l (x + k % 3) (y + k / 3)).toNat
theorem nbS_le {w h : Nat} {l : List Int} (hp : IsPatch w h l) {x y : Nat} (hx : x + 2 < w) (hy : y + 2 < h) : ∀ k, k ≤ 9 → nbS w l x y k ≤ k
  | 0, _ => by simp [nbS]
  | k + 1, hk => by
    have ih := nbS_le hp hx hy k (by omega)
    obtain ⟨c, e, hc⟩ := atL_nat hp (show x + k % 3 < w by omega) (show y + k / 3 < h by omega)
    unfold nbS
    rw [e, Int.toNat_natCast]
    omega
theorem count_cell {w h : Nat} {l : List Int} (hp : IsPatch w h l) {x y : Nat} (hx : x + 2 < w) (hy : y + 2 < h) {s : ByteArray} {b st : Nat} (hr : lifeR s = .ok (b, st)) :
    ∃ O NB : Nat, atL w l (x + 1) (y + 1) = (O : Int) ∧ O ≤ 1 ∧ nbS w l x y 9 = NB + O ∧ NB ≤ 8 ∧ stepF (tabOf b st) w l x y = ((namedF O NB s.data.toList 0 0 : Nat) : Int) := by
  obtain ⟨c1, e1, h1⟩ := atL_nat hp (show x < w by omega) (show y < h by omega)
  obtain ⟨c2, e2, h2⟩ := atL_nat hp (show x + 1 < w by omega) (show y < h by omega)
  obtain ⟨c3, e3, h3⟩ := atL_nat hp (show x + 2 < w by omega) (show y < h by omega)
  obtain ⟨c4, e4, h4⟩ := atL_nat hp (show x < w by omega) (show y + 1 < h by omega)
  obtain ⟨c5, e5, h5⟩ := atL_nat hp (show x + 1 < w by omega) (show y + 1 < h by omega)
  obtain ⟨c6, e6, h6⟩ := atL_nat hp (show x + 2 < w by omega) (show y + 1 < h by omega)
  obtain ⟨c7, e7, h7⟩ := atL_nat hp (show x < w by omega) (show y + 2 < h by omega)
  obtain ⟨c8, e8, h8⟩ := atL_nat hp (show x + 1 < w by omega) (show y + 2 < h by omega)
  obtain ⟨c9, e9, h9⟩ := atL_nat hp (show x + 2 < w by omega) (show y + 2 < h by omega)
  have hN : winN w l x y = 256 * c1 + 128 * c2 + 64 * c3 + 32 * c4 + 16 * c5 + 8 * c6 + 4 * c7 + 2 * c8 + c9 := by
    unfold winN winZ
    rw [e1, e2, e3, e4, e5, e6, e7, e8, e9]
    omega
  have hS : nbS w l x y 9 = c1 + c2 + c3 + c4 + c5 + c6 + c7 + c8 + c9 := by
    simp only [nbS, Nat.reduceMod, Nat.reduceDiv, Nat.add_zero, e1, e2, e3, e4, e5, e6, e7, e8, e9, Int.toNat_natCast]
    omega
  obtain ⟨NB, hNB⟩ : ∃ NB, c1 + c2 + c3 + c4 + c6 + c7 + c8 + c9 = NB := ⟨_, rfl⟩
  clear e1 e2 e3 e4 e6 e7 e8 e9
  have k1 : nbS w l x y 9 = NB + c5 := by rw [hS, ← hNB]; clear hN hNB hS; omega
  have k2 : NB ≤ 8 := by rw [← hNB]; clear hN hNB hS; omega
  have hlt := (winN_lt hp hx hy).1
  obtain ⟨q1, q2⟩ := win_bitsN h1 h2 h3 h4 h5 h6 h7 h8 h9
  rw [← hN] at q1 q2
  clear hN hS
  have hnl : namedF c5 NB s.data.toList (if 2 ≤ 0 then 1 else 0) (sideB c5 0 0 / 2 ^ NB % 2) = sideB c5 b st / 2 ^ NB % 2 := named_life c5 NB h5 k2 s.data.toList 0 0 0 0 0 b st RdSt.start0 hr
  refine ⟨c5, NB, e5, h5, k1, k2, ?_⟩
  have hz : sideB c5 0 0 / 2 ^ NB % 2 = 0 := by
    have : sideB c5 0 0 = 0 := by unfold sideB; split <;> rfl
    rw [this, Nat.zero_div]
  rw [hz] at hnl
  have hg : (if 2 ≤ (0 : Nat) then 1 else 0) = 0 := rfl
  rw [hg] at hnl
  unfold stepF
  rw [tabOf_get hlt, hnl]
  unfold tabF sideB
  rw [q2, q1, hNB]
theorem lifeO_ok {s : ByteArray} (h : lifeD s = none) : ∃ b st, lifeR s = .ok (b, st) ∧ lifeO s = tabOf b st := by
  cases hr : lifeR s with
  | error i =>
    unfold lifeD at h
    rw [hr] at h
    split at h <;> cases h
  | ok x => exact ⟨x.1, x.2, rfl, by unfold lifeO; rw [if_pos h, hr]⟩
def awS22 : ByteArray := ⟨#[66, 51, 47, 83, 50, 51]⟩
def awP22 : List Int := [0, 0, 0, 0, 1, 0, 0, 1, 0, 0, 1, 0, 0, 0, 0]
theorem aw22_r : lifeR awS22 = .ok (8, 12) := by kernel_rfl
theorem aw22_d : lifeD awS22 = none := (lifeD_ok (by decide) aw22_r).1
theorem aw22_o : lifeO awS22 = tabOf 8 12 := (lifeD_ok (by decide) aw22_r).2
theorem aw22_7 : (tabOf 8 12).getD 7 0 = 1 := by rw [tabOf_get (by omega)]; decide
theorem aw22_16 : (tabOf 8 12).getD 16 0 = 0 := by rw [tabOf_get (by omega)]; decide
/-- the sets of a table of two sets -/
def setsT (b s k : Nat) : Nat → Nat
  | 0 => 0
  | i + 1 => if i / 16 % 2 = k then setsT b s k i ||| (tabF b s i * 2 ^ aboutN i) else setsT b s k i
theorem setsO_tab (b s k : Nat) : ∀ i, i ≤ 512 → setsO (tabOf b s) k i = setsT b s k i
  | 0, _ => rfl
  | i + 1, h => by
    unfold setsO setsT
    rw [setsO_tab b s k i (by omega), tabOf_get (by omega), Int.toNat_natCast]
theorem isTab_tab (b s : Nat) : IsTab (tabOf b s) := ⟨tabOf_len b s, tabOf_sym b s⟩
theorem aw22_t : tabD (tabOf 8 12) = none := tabD_of (isTab_tab 8 12)
theorem aw22_sb : setB (tabOf 8 12) = 8 := (setsO_tab 8 12 0 512 (by omega)).trans (by decide +kernel)
theorem aw22_ss : setS (tabOf 8 12) = 12 := (setsO_tab 8 12 1 512 (by omega)).trans (by decide +kernel)
theorem aw22_c : counts (tabOf 8 12) = true := by unfold counts; rw [aw22_sb, aw22_ss]; exact decide_eq_true rfl
theorem aw22_s : plTextS (tabOf 8 12) = awS22 := by
  unfold plTextS
  rw [if_pos ⟨aw22_t, aw22_c⟩]
  unfold tbS
  rw [aw22_sb, aw22_ss]
  kernel_rfl
theorem aw22_b : plTextB (tabOf 8 12) = true := by unfold plTextB; rw [aw22_t, aw22_c]; rfl
theorem aw22_sd : stepD (tabOf 8 12) 3 5 awP22 = none := by
  unfold stepD
  rw [aw22_t]
  have h : patchD 3 5 awP22 = none := by kernel_rfl
  simp only [h]
  rfl
theorem aw22_so : stepO (tabOf 8 12) 3 5 awP22 = (1, 3, [0, 1, 0]) := by
  unfold stepO
  rw [if_pos aw22_sd]
  have h : stepL (tabOf 8 12) 3 5 awP22 = [0, 1, 0] := by
    have w0 : winN 3 awP22 0 0 = 16 + 2 := by decide
    have w1 : winN 3 awP22 0 1 = 128 + 16 + 2 := by decide
    have w2 : winN 3 awP22 0 2 = 128 + 16 := by decide
    have e : stepL (tabOf 8 12) 3 5 awP22 = [stepF (tabOf 8 12) 3 awP22 0 0, stepF (tabOf 8 12) 3 awP22 0 1, stepF (tabOf 8 12) 3 awP22 0 2] := rfl
    rw [e]
    unfold stepF
    rw [w0, w1, w2, tabOf_get (by omega), tabOf_get (by omega), tabOf_get (by omega)]
    decide
  show ((3 : Int) - 2, (5 : Int) - 2, stepL (tabOf 8 12) 3 5 awP22) = _
  rw [h]
  rfl
end Go.Proofs.YtocfkmdoalhjmaaDoor
namespace Go.Proofs.YtocfkmdoalhjmaaDoor
open Go.RowKit
set_option linter.unusedVariables false
set_option maxRecDepth 100000

theorem litRK (w : World) (l : List Int) : RK .i64 (w.alloc (.cells (l.map (Value.int .i64)).toArray 3)) (some ⟨w.heap.size, 0, none⟩) l.length l :=
  ⟨rfl, by simpa using rd_new (w := w) (g := w.heap.size) (m := l.length) (sz := 1) (news := (l.map (Value.int .i64)).toArray) (e := 3) (fr := (0, 0)) rfl (by simp)⟩
theorem aw22_life (W : World) (R : Nat → Addr) (hS : Sent W R) : Calls Tryd.prog 16 #[.string ⟨#[66, 51, 47, 83, 50, 51]⟩] W fun e w' => ∃ a c, e = .returned (.tuple #[.slice a 512 c, .nilIface]) ∧ OwI w' W.heap.size a 512 c (tabOf 8 12) ∧ Below W.heap.size W w' := by
  refine (life_any awS22 W R hS).mono ?_
  rintro e w' ⟨a, n, c, ev, rfl, ho, he, hb⟩
  rw [aw22_d] at he
  rw [aw22_o] at ho
  obtain rfl : n = 512 := ho.rk.len.trans (tabOf_len 8 12)
  obtain rfl : ev = .nilIface := he
  exact ⟨a, c, rfl, ho, hb⟩
theorem aw22_text (a : Option Addr) (c : Nat) (W : World) (R : Nat → Addr) (hS : Sent W R) (hR : RK .i64 W a 512 (tabOf 8 12)) : Calls Tryd.prog 30 #[.slice a 512 c] W fun e w' => e = .returned (.tuple #[.string ⟨#[66, 51, 47, 83, 50, 51]⟩, .bool true, .nilIface]) ∧ Below W.heap.size W w' := by
  refine (pltext_any a 512 c (tabOf 8 12) W R hS hR (by unfold maxLen; omega)).mono ?_
  rintro e w' ⟨ev, rfl, he, hb⟩
  rw [aw22_t] at he
  obtain rfl : ev = .nilIface := he
  rw [aw22_s, aw22_b]
  exact ⟨rfl, hb⟩
theorem aw22_step (a aT : Option Addr) (c cT : Nat) (W : World) (R : Nat → Addr) (hS : Sent W R) (hR : SlI W a 15 c awP22) (hT : RK .i64 W aT 512 (tabOf 8 12)) : Calls Tryd.prog 17 #[.slice aT 512 cT, patV 3 5 a 15 c] W fun e w' => ∃ a' c', e = .returned (.tuple #[patV 1 3 a' 3 c', .nilIface]) ∧ OwI w' W.heap.size a' 3 c' [0, 1, 0] ∧ Below W.heap.size W w' := by
  refine (plstep_any 3 5 a aT 15 c 512 cT awP22 (tabOf 8 12) W R hS hR (by intro x hx; simp [awP22] at hx; omega) hT (by unfold maxLen; omega)).mono ?_
  rintro e w' ⟨a', n', c', ev, rfl, ho, he, hb⟩
  rw [aw22_sd] at he
  rw [aw22_so] at ho ⊢
  obtain rfl : n' = 3 := ho.rk.len
  obtain rfl : ev = .nilIface := he
  exact ⟨a', c', rfl, ho, hb⟩
set_option maxHeartbeats 16000000 in
theorem awake22 (W : World) (R : Nat → Addr) (hS : Sent W R) :
    Calls Tryd.prog 15 #[] W fun e w' => e = .returned (.bool true) ∧ Below W.heap.size W w' := by
  have T0 := Tk.nil W
  have T1 := T0.add (fun wv => Below W.heap.size W wv) (bnil W)
  clear T0
  have T2 := T1.add (fun wv => Sent wv R) (hS)
  clear T1
  clear hS
  go_enter Tryd.func15, Tryd.ntmps15
  go_wp2_with fail
  refine (aw22_life W R T2.out.2).mono ?_; rintro e w1 ⟨a1, c1, rfl, ho1, hbw1⟩
  have T3 := T2.up hbw1
  clear T2
  have T4 := T3.add (fun wv => RK .i64 wv a1 512 (tabOf 8 12)) (ho1.rk)
  clear T3
  clear ho1
  go_wp2_with fail
  refine (aw22_text a1 c1 w1 R T4.out.1.2 T4.out.2).mono ?_; rintro e w2 ⟨rfl, hbw2⟩
  have T5 := T4.up hbw2
  clear T4
  obtain ⟨wl, hwl⟩ : ∃ wl, w2.alloc (.cells #[.int .i64 0, .int .i64 0, .int .i64 0, .int .i64 0, .int .i64 1, .int .i64 0, .int .i64 0, .int .i64 1, .int .i64 0, .int .i64 0, .int .i64 1, .int .i64 0, .int .i64 0, .int .i64 0, .int .i64 0] 3) = wl := ⟨_, rfl⟩
  have hbwl : Below w2.heap.size w2 wl := by rw [← hwl]; exact balloc (bnil w2) _
  have T6 := T5.up hbwl
  clear T5
  have Hwl := Lib.hid hwl
  clear hwl hbwl
  have hlit : RK .i64 wl (some ⟨w2.heap.size, 0, none⟩) 15 awP22 := by rw [← Hwl.out]; exact litRK w2 awP22
  have hsl : SlI wl (some ⟨w2.heap.size, 0, none⟩) 15 15 awP22 := ⟨hlit, Nat.le_refl _, by decide, by decide, nofun⟩
  have T7 := T6.add (fun wv => SlI wv (some ⟨w2.heap.size, 0, none⟩) 15 15 awP22) (hsl)
  clear T6
  clear hlit hsl
  go_wp2_with fail
  rw [Hwl.out]
  refine (aw22_step _ a1 15 c1 wl R T7.out.1.1.2 T7.out.2 T7.out.1.2).mono ?_; rintro e w3 ⟨a3, c3, rfl, ho3, hbw3⟩
  have T8 := T7.up hbw3
  clear T7
  have T9 := T8.add (fun wv => RK .i64 wv a3 3 [0, 1, 0]) (ho3.rk)
  clear T8
  clear ho3
  obtain ⟨wp, hwp⟩ : ∃ wp, w3.alloc (.cells #[.int .i64 1, .int .i64 3, .slice a3 3 c3] 24) = wp := ⟨_, rfl⟩
  have hbwp : Below w3.heap.size w3 wp := by rw [← hwp]; exact balloc (bnil w3) _
  have T10 := T9.up hbwp
  clear T9
  have T11 := T10.add (fun wv => wv.cell? ⟨w3.heap.size, 0, none⟩ = some (.int .i64 1) ∧ wv.cell? ⟨w3.heap.size, 1, none⟩ = some (.int .i64 3) ∧ wv.cell? ⟨w3.heap.size, 2, none⟩ = some (.slice a3 3 c3)) (by rw [← hwp]; exact ⟨cnw (by simp) rfl, cnw (by simp) rfl, cnw (by simp) rfl⟩)
  clear T10
  have Hwp := Lib.hid hwp
  clear hwp hbwp
  obtain ⟨ab, ao, hab, _, htc⟩ := (T11.out.1.1.1.2).addr (by omega)
  have x7 := htc 7 (by omega)
  have x16 := htc 16 (by omega)
  rw [aw22_7] at x7
  rw [aw22_16] at x16
  subst hab
  have y7 : (w3.alloc (.cells #[.int .i64 1, .int .i64 3, .slice a3 3 c3] 24)).cell? ⟨ab, ao + 7, none⟩ = some (.int .i64 1) := by rw [Hwp.out]; exact x7
  have y16 : (w3.alloc (.cells #[.int .i64 1, .int .i64 3, .slice a3 3 c3] 24)).cell? ⟨ab, ao + 16, none⟩ = some (.int .i64 0) := by rw [Hwp.out]; exact x16
  clear htc
  have v_q0 : (w3.alloc (.cells #[.int .i64 1, .int .i64 3, .slice a3 3 c3] 24)).cell? ⟨w3.heap.size, 0, none⟩ = some (.int .i64 1) := by rw [Hwp.out]; exact T11.out.2.1
  have v_q1 : (w3.alloc (.cells #[.int .i64 1, .int .i64 3, .slice a3 3 c3] 24)).cell? ⟨w3.heap.size, 1, none⟩ = some (.int .i64 3) := by rw [Hwp.out]; exact T11.out.2.2.1
  have v_q2 : (w3.alloc (.cells #[.int .i64 1, .int .i64 3, .slice a3 3 c3] 24)).cell? ⟨w3.heap.size, 2, none⟩ = some (.slice a3 3 c3) := by rw [Hwp.out]; exact T11.out.2.2.2
  go_wp2_with fail
  rw [Hwp.out]
  clear v_q0 v_q1 v_q2
  obtain ⟨wm, hwm⟩ : ∃ wm, wp.alloc (.cells #[.int .i64 0, .int .i64 1, .int .i64 0] 3) = wm := ⟨_, rfl⟩
  have hbwm : Below wp.heap.size wp wm := by rw [← hwm]; exact balloc (bnil wp) _
  have T12 := T11.up hbwm
  clear T11
  have Hwm := Lib.hid hwm
  clear hwm hbwm
  have hsz : w3.heap.size + 1 = wp.heap.size := by rw [← Hwp.out]; simp
  have hlit : RK .i64 wm (some ⟨w3.heap.size + 1, 0, none⟩) 3 [0, 1, 0] := by rw [hsz, ← Hwm.out]; exact litRK wp [0, 1, 0]
  clear hsz
  rw [Hwm.out]
  refine (patches_eq 1 3 a3 (some ⟨w3.heap.size + 1, 0, none⟩) 3 3 c3 3 [0, 1, 0] wm T12.out.1.2 hlit (by decide)).mono ?_; rintro e w9 ⟨rfl, hb9⟩
  have T13 := T12.up hb9
  clear T12
  clear x7 x16 y7 y16 hlit
  go_wp2
  go_ret
  exact ⟨rfl, T13.out.1.1.1.1.1.2⟩
end Go.Proofs.YtocfkmdoalhjmaaDoor
namespace Go.Proofs.YtocfkmdoalhjmaaDoor
open Go.RowKit
set_option linter.unusedVariables false
set_option maxRecDepth 100000

def hexS : ByteArray := ⟨#[48, 49, 50, 51, 52, 53, 54, 55, 56, 57, 97, 98, 99, 100, 101, 102]⟩
/-- a digit's value; -1: none -/
def hexI (c : UInt8) : Int := if 48 ≤ c.toNat ∧ c.toNat ≤ 57 then (c.toNat : Int) - 48 else if 97 ≤ c.toNat ∧ c.toNat ≤ 102 then (c.toNat : Int) - 87 else -1
theorem hex_idx (c : UInt8) : Lib.indexByte hexS.data.toList c = hexI c := by
  have key : ∀ n : Fin 256, Lib.indexByte hexS.data.toList (UInt8.ofNat n.val) = hexI (UInt8.ofNat n.val) := by decide +kernel
  have h := key ⟨c.toNat, UInt8.toNat_lt c⟩
  simpa using h
theorem hexI_bd (c : UInt8) : -1 ≤ hexI c ∧ hexI c ≤ 15 := by unfold hexI; split <;> (try split) <;> omega
/-- the four cells of a digit -/
def fourL (c : UInt8) : List Int := [((hexI c).toNat / 8 : Nat), ((hexI c).toNat / 4 % 2 : Nat), ((hexI c).toNat / 2 % 2 : Nat), ((hexI c).toNat % 2 : Nat)]
def fromL (l : List UInt8) : List Int := l.flatMap fourL
theorem fromL_len (l : List UInt8) : (fromL l).length = 4 * l.length := by
  induction l with
  | nil => rfl
  | cons c r ih => show (fourL c ++ fromL r).length = _; rw [List.length_append, ih]; simp [fourL]; omega
theorem fromL_snoc (l : List UInt8) (c : UInt8) : fromL (l ++ [c]) = fromL l ++ fourL c := by simp [fromL, List.flatMap_append]
/-- the first place where a text of digits goes wrong -/
def fromE : List UInt8 → Nat → Option Nat
  | [], i => if i < 128 then some i else none
  | c :: r, i => if hexI c < 0 ∨ 128 ≤ i then some i else fromE r (i + 1)
def fromD (s : ByteArray) : ErrD := match fromE s.data.toList 0 with
  | some i => some ([(opPlane, (i : Int))], 6)
  | none => none
def fromO (s : ByteArray) : List Int := if fromD s = none then fromL s.data.toList else []
theorem take_snocU {l : List UInt8} {i : Nat} (h : i < l.length) : l.take (i + 1) = l.take i ++ [l[i]] := by rw [List.take_succ_eq_append_getElem h]
set_option maxHeartbeats 16000000 in
theorem from_any (s : ByteArray) (W : World) (R : Nat → Addr) (hS : Sent W R) (hsz : s.size ≤ maxLen) : Calls Tryd.prog 19 #[.string s] W (IntsErr R W (fromO s) (fromD s)) := by
  have hsm : s.size ≤ 9223372036854775807 := hsz
  obtain ⟨E, hE⟩ : ∃ E, fromE s.data.toList 0 = E := ⟨_, rfl⟩
  have HE := Lib.hid hE
  clear hE
  have T0 := Tk.nil W
  have T1 := T0.add (fun wv => Below W.heap.size W wv) (bnil W)
  clear T0
  have T2 := T1.add (fun wv => Sent wv R) (hS)
  clear T1
  clear hS
  go_enter Tryd.func19, Tryd.ntmps19
  go_wp2_with (first
    | (at_make; refine mk_cap rfl _ _ _ rfl W.heap.size et_int .i64 .i64 _ 512 rfl rfl rfl (by omega) (by unfold maxLen; omega) (Nat.le_refl _) ?_; intro w1 hown1 hb1 hsz1))
  obtain ⟨g, hg⟩ : ∃ g, W.heap.size = g := ⟨_, rfl⟩
  have HG := Lib.hid hg
  have HO1 : Hid (OwI w1 W.heap.size (some ⟨W.heap.size, 0, none⟩) 0 512 (fromL (s.data.toList.take 0))) := ⟨by simpa [fromL] using hown1⟩
  have HB1 := Lib.hid hb1
  clear hown1 hb1 hsz1 hg
  go_loopw [4, 10] (fun tx ix wr => ∃ (i : Nat) (a : Option Addr) (c : Nat), i ≤ s.size ∧ i ≤ 128 ∧ ix = .int .i64 (i : Nat) ∧ tx = .slice a (4 * i) c ∧ OwI wr W.heap.size a (4 * i) c (fromL (s.data.toList.take i)) ∧ fromE (s.data.toList.drop i) i = E ∧ Below W.heap.size W wr) (fun _ ix _ => s.size - (intOf ix).toNat)
  case atStart => exact ⟨0, _, 512, by omega, by omega, rfl, rfl, HO1.out, HE.out, HB1.out⟩
  case round =>
    obtain ⟨i, a, c, hi, hi8, rfl, rfl, ho, hrun, hb⟩ := hrel
    have HO := Lib.hid ho
    have HB := Lib.hid hb
    have HRUN := Lib.hid hrun
    clear HO1 HB1 ho hrun
    have T3 := T2.up hb
    clear T2
    clear hb
    generalize wr = wo at *
    by_cases his : i < s.size
    · skip
      have hil : i < s.data.toList.length := by simpa using his
      have hdr : s.data.toList.drop i = s[i] :: s.data.toList.drop (i + 1) := List.drop_eq_getElem_cons hil
      have hsn : s.data.toList.take (i + 1) = s.data.toList.take i ++ [s[i]] := take_snocU hil
      have hrun := HRUN.out
      rw [hdr] at hrun
      unfold fromE at hrun
      have HSN := Lib.hid hsn
      have hhb := hexI_bd s[i]
      have hix := hex_idx s[i]
      have i0 : (0 : Int) ≤ (i : Int) := by omega
      have i1 : (i : Int) < (s.size : Int) := by omega
      have hu8 : ((s[i].toNat : Nat) : Int).toNat.toUInt8 = s[i] := by simp
      have HIX : Hid (Lib.indexByte hexS.data.toList ((s[i].toNat : Nat) : Int).toNat.toUInt8 = hexI s[i]) := by show _ = _; rw [hu8]; exact hix
      obtain ⟨H, hH⟩ : ∃ H, hexI s[i] = H := ⟨_, rfl⟩
      rw [hH] at hhb hrun
      have HH := Lib.hid hH
      clear HRUN hdr hsn hix hu8 hH
      go_wp2_with fail
      refine (Tryd.strings_IndexByte hexS _ wo).mono ?_; rintro e w2 ⟨rfl, hw2⟩
      rw [hw2]
      clear hw2
      rw [HIX.out, HH.out]
      by_cases hneg : H < 0
      · skip
        rw [if_pos (Or.inl hneg)] at hrun
        have hbad := hrun.symm
        clear hrun
        have HOD : Hid (fromO s = [] ∧ fromD s = some ([(opPlane, (i : Int))], 6)) := by
          have hd : fromD s = some ([(opPlane, (i : Int))], 6) := by unfold fromD; rw [HE.out, hbad]
          exact ⟨by unfold fromO; rw [if_neg (by rw [hd]; exact nofun)], hd⟩
        clear hbad
        go_wp2_with fail
        refine (plane_wrong _ _ _ R (T3.out.2).glob rfl).mono ?_; rintro e w3 ⟨rfl, hw3⟩
        have hb3 : Below wo.heap.size wo w3 := by rw [hw3]; exact balloc (bnil wo) _
        have he3 : EC R w3 (.iface 117 (.pointer (some ⟨wo.heap.size, 0, none⟩))) (some ([(opPlane, (i : Int))], 6)) := by rw [hw3]; exact ec_err ((T3.out.2).up (balloc (bnil wo) (faultObj opPlane (i : Int) (.iface 199 (.pointer (some (R (rix 6)))))))) (isErr_new (Nat.le_refl _))
        clear hw3
        have T4 := T3.up hb3
        clear T3
        have HEC := Lib.hid he3
        clear he3 hb3
        go_wp2
        go_ret2
        rw [HOD.out.1, HOD.out.2]
        exact ⟨none, 0, 0, _, rfl, OwI.nil _ _, HEC.out, T4.out.1.2⟩
      by_cases h128 : i = 128
      · skip
        rw [if_pos (Or.inr (by omega))] at hrun
        have hbad := hrun.symm
        clear hrun
        have HOD : Hid (fromO s = [] ∧ fromD s = some ([(opPlane, (i : Int))], 6)) := by
          have hd : fromD s = some ([(opPlane, (i : Int))], 6) := by unfold fromD; rw [HE.out, hbad]
          exact ⟨by unfold fromO; rw [if_neg (by rw [hd]; exact nofun)], hd⟩
        clear hbad
        subst h128
        have hneg2 : ¬ H < 0 := hneg
        have hnb : decide (H < 0) = false := decide_eq_false hneg
        go_wp2_with fail
        refine (plane_wrong _ _ _ R (T3.out.2).glob rfl).mono ?_; rintro e w3 ⟨rfl, hw3⟩
        have hb3 : Below wo.heap.size wo w3 := by rw [hw3]; exact balloc (bnil wo) _
        have he3 : EC R w3 (.iface 117 (.pointer (some ⟨wo.heap.size, 0, none⟩))) (some ([(opPlane, (128 : Int))], 6)) := by rw [hw3]; exact ec_err ((T3.out.2).up (balloc (bnil wo) (faultObj opPlane (128 : Int) (.iface 199 (.pointer (some (R (rix 6)))))))) (isErr_new (Nat.le_refl _))
        clear hw3
        have T4 := T3.up hb3
        clear T3
        have HEC := Lib.hid he3
        clear he3 hb3
        go_wp2
        go_ret2
        rw [HOD.out.1, HOD.out.2]
        exact ⟨none, 0, 0, _, rfl, OwI.nil _ _, HEC.out, T4.out.1.2⟩
      rw [if_neg (by omega)] at hrun
      have HRN := Lib.hid hrun
      obtain ⟨D, hD⟩ : ∃ D : Nat, H = (D : Int) := ⟨H.toNat, by omega⟩
      subst hD
      have hD15 : D ≤ 15 := by omega
      have hfour : Hid (fourL s[i] = [((D / 8 : Nat) : Int), ((D / 4 % 2 : Nat) : Int), ((D / 2 % 2 : Nat) : Int), ((D % 2 : Nat) : Int)]) := by show _ = _; unfold fourL; rw [HH.out, Int.toNat_natCast]
      have s1 : (D : Int) / 8 = ((D / 8 : Nat) : Int) := by omega
      have s2 : (D : Int) / 4 = ((D / 4 : Nat) : Int) := by omega
      have s3 : (D : Int) / 2 = ((D / 2 : Nat) : Int) := by omega
      have a2 := and1_i64 (a := D / 4) (by omega)
      have a3 := and1_i64 (a := D / 2) (by omega)
      have a4 := and1_i64 (a := D) (by omega)
      have n1 : ¬ (D : Int) < 0 := by omega
      have n2 : ¬ 4 * i = 512 := by omega
      have n3 : ¬ (4 : Int) * (i : Int) = 512 := by omega
      have n4 : ((4 : Int) * (i : Int) == 512) = false := by rw [beq_eq_false_iff_ne]; exact n3
      have n5 : (((4 * i : Nat) : Int) == 512) = false := by rw [beq_eq_false_iff_ne]; omega
      have n6 : decide ((D : Int) < 0) = false := decide_eq_false n1
      clear hrun h128
      generalize D / 8 = D8 at *
      generalize D / 4 = E4 at *
      generalize D / 2 = E2 at *
      generalize E4 % 2 = D4 at *
      generalize E2 % 2 = D2 at *
      generalize D % 2 = D1 at *
      have hsb : W.heap.size ≤ wo.heap.size := HB.out.size
      go_wp2_with (first
        | (at_builtin; refine app_lit rfl _ _ _ rfl W.heap.size et_int _ (4 * i) _ HO.out.own (by rfl) 4 _ _ (by rfl) (by rfl) (by simp) (by rfl) (by unfold maxLen; omega) (by omega) hsb ?_; intro a5 c5 w5 ho5 hg5 hb5 hs5))
      have HO5 : Hid (OwI w5 W.heap.size a5 (4 * (i + 1)) c5 (fromL (s.data.toList.take (i + 1)))) := by
        rw [HSN.out, fromL_snoc, hfour.out]
        refine ⟨(show w5.ownsRow W.heap.size 3 1 (.slice a5 (4 * i + 4) c5) (4 * i + 4) _ from ?_)⟩
        simpa [List.map_append] using ho5
      have HB5 := Lib.hid (HB.out.trans hb5)
      clear ho5 hg5 hb5 hs5
      go_wp2
      go_roundw
      case rel => exact ⟨i + 1, a5, c5, by omega, by omega, by go_num, rfl, HO5.out, HRN.out, HB5.out⟩
      case measure => simp [intOf]; omega
    obtain rfl : i = s.size := by omega
    have hrun := HRUN.out
    have ho := HO.out
    rw [List.drop_of_length_le (by simp)] at hrun
    rw [List.take_of_length_le (by simp)] at ho
    unfold fromE at hrun
    have HO9 := Lib.hid ho
    clear HRUN HO ho
    by_cases hlt : s.size < 128
    · skip
      rw [if_pos hlt] at hrun
      have hbad := hrun.symm
      clear hrun
      have HOD : Hid (fromO s = [] ∧ fromD s = some ([(opPlane, (s.size : Int))], 6)) := by
        have hd : fromD s = some ([(opPlane, (s.size : Int))], 6) := by unfold fromD; rw [HE.out, hbad]
        exact ⟨by unfold fromO; rw [if_neg (by rw [hd]; exact nofun)], hd⟩
      clear hbad
      have hlI : ((4 * s.size : Nat) : Int) < 512 := by omega
      go_wp2_with fail
      refine (plane_wrong _ _ _ R (T3.out.2).glob rfl).mono ?_; rintro e w3 ⟨rfl, hw3⟩
      have hb3 : Below wo.heap.size wo w3 := by rw [hw3]; exact balloc (bnil wo) _
      have he3 : EC R w3 (.iface 117 (.pointer (some ⟨wo.heap.size, 0, none⟩))) (some ([(opPlane, (s.size : Int))], 6)) := by rw [hw3]; exact ec_err ((T3.out.2).up (balloc (bnil wo) (faultObj opPlane (s.size : Int) (.iface 199 (.pointer (some (R (rix 6)))))))) (isErr_new (Nat.le_refl _))
      clear hw3
      have T4 := T3.up hb3
      clear T3
      have HEC := Lib.hid he3
      clear he3 hb3
      go_wp2
      go_ret2
      rw [HOD.out.1, HOD.out.2]
      exact ⟨none, 0, 0, _, rfl, OwI.nil _ _, HEC.out, T4.out.1.2⟩
    rw [if_neg hlt] at hrun
    have HOD : Hid (fromO s = fromL s.data.toList ∧ fromD s = none) := by
      have hd : fromD s = none := by unfold fromD; rw [HE.out, ← hrun]
      exact ⟨by unfold fromO; rw [if_pos hd], hd⟩
    have hlI : ¬ ((4 * s.size : Nat) : Int) < 512 := by omega
    clear hrun
    go_wp2
    go_ret2
    rw [HOD.out.1, HOD.out.2]
    exact ⟨_, _, _, _, rfl, HO9.out, rfl, T3.out.1.2⟩
end Go.Proofs.YtocfkmdoalhjmaaDoor
namespace Go.Proofs.YtocfkmdoalhjmaaDoor
set_option linter.unusedVariables false
set_option maxRecDepth 100000

/-- a digit of a number below sixteen -/
def hexC (n : Nat) : UInt8 := hexS.data.toList.getD n 0
theorem hexI_C : ∀ n : Fin 16, hexI (hexC n.val) = (n.val : Int) := by decide +kernel
theorem hexC_I (c : UInt8) (h : ¬ hexI c < 0) : hexC (hexI c).toNat = c := by
  have key : ∀ n : Fin 256, hexI (UInt8.ofNat n.val) < 0 ∨ hexC (hexI (UInt8.ofNat n.val)).toNat = UInt8.ofNat n.val := by decide +kernel
  have hk := key ⟨c.toNat, UInt8.toNat_lt c⟩
  have e : UInt8.ofNat c.toNat = c := by simp
  rw [e] at hk
  rcases hk with h1 | h1
  · exact absurd h1 h
  · exact h1
theorem fromL_get : ∀ (l : List UInt8) (k j : Nat), k < l.length → j < 4 → (fromL l).getD (4 * k + j) 0 = (fourL (l.getD k 0)).getD j 0
  | [], k, j, hk, _ => absurd hk (by simp)
  | c :: r, 0, j, _, hj => by
    show (fourL c ++ fromL r).getD (4 * 0 + j) 0 = _
    rw [Nat.mul_zero, Nat.zero_add, List.getD_eq_getElem?_getD, List.getElem?_append_left (by simp [fourL]; omega), ← List.getD_eq_getElem?_getD]
    rfl
  | c :: r, k + 1, j, hk, hj => by
    show (fourL c ++ fromL r).getD (4 * (k + 1) + j) 0 = _
    have hl : (fourL c).length = 4 := rfl
    rw [List.getD_eq_getElem?_getD, List.getElem?_append_right (by rw [hl]; omega), hl, show 4 * (k + 1) + j - 4 = 4 * k + j by omega, ← List.getD_eq_getElem?_getD, fromL_get r k j (by simpa using hk) hj]
    rfl
theorem ext_getD {α : Type} (d : α) {l1 l2 : List α} (h : l1.length = l2.length) (hi : ∀ i, i < l1.length → l1.getD i d = l2.getD i d) : l1 = l2 := by
  apply List.ext_getElem? 
  intro i
  by_cases h1 : i < l1.length
  · have h2 : i < l2.length := by omega
    have := hi i h1
    rw [List.getD_eq_getElem?_getD, List.getD_eq_getElem?_getD, List.getElem?_eq_getElem h1, List.getElem?_eq_getElem h2] at this
    rw [List.getElem?_eq_getElem h1, List.getElem?_eq_getElem h2]
    exact congrArg some this
  · rw [List.getElem?_eq_none (by omega), List.getElem?_eq_none (by omega)]
/-- the number of four cells -/
def wtF (t : List Int) (k : Nat) : Nat := 8 * (t.getD (4 * k) 0).toNat + 4 * (t.getD (4 * k + 1) 0).toNat + 2 * (t.getD (4 * k + 2) 0).toNat + (t.getD (4 * k + 3) 0).toNat
/-- a table's digits -/
def hexT (t : List Int) : List UInt8 := (List.range 128).map fun k => hexC (wtF t k)
theorem tab_bit {t : List Int} (ht : IsTab t) {i : Nat} (hi : i < 512) : ∃ c : Nat, t.getD i 0 = (c : Int) ∧ c ≤ 1 := by
  have hil : i < t.length := by rw [ht.len]; exact hi
  rw [show t.getD i 0 = t[i] by simp [hil]]
  rcases ht.sym _ (List.getElem_mem hil) with h | h
  · exact ⟨0, h, by omega⟩
  · exact ⟨1, h, by omega⟩
theorem wtF_lt {t : List Int} (ht : IsTab t) {k : Nat} (hk : k < 128) : wtF t k < 16 := by
  obtain ⟨a, ea, ha⟩ := tab_bit ht (show 4 * k < 512 by omega)
  obtain ⟨b, eb, hb⟩ := tab_bit ht (show 4 * k + 1 < 512 by omega)
  obtain ⟨c, ec, hc⟩ := tab_bit ht (show 4 * k + 2 < 512 by omega)
  obtain ⟨d, ed, hd⟩ := tab_bit ht (show 4 * k + 3 < 512 by omega)
  unfold wtF
  rw [ea, eb, ec, ed]
  simp only [Int.toNat_natCast]
  omega
theorem from_hex {t : List Int} (ht : IsTab t) : fromL (hexT t) = t := by
  refine ext_getD 0 ?_ ?_
  · rw [fromL_len, ht.len]; simp [hexT]
  · intro i h1
    have hi : i < 512 := by rw [fromL_len] at h1; simp [hexT] at h1; omega
    obtain ⟨k, j, rfl, hk, hj⟩ : ∃ k j, i = 4 * k + j ∧ k < 128 ∧ j < 4 := ⟨i / 4, i % 4, by omega, by omega, by omega⟩
    rw [fromL_get _ _ _ (by simp [hexT]; omega) hj]
    have e3 : (hexT t).getD k 0 = hexC (wtF t k) := by simp [hexT, hk]
    have e4 := hexI_C ⟨wtF t k, wtF_lt ht hk⟩
    simp only at e4
    rw [e3]
    unfold fourL
    rw [e4, Int.toNat_natCast]
    obtain ⟨a, ea, ha⟩ := tab_bit ht (show 4 * k < 512 by omega)
    obtain ⟨b, eb, hb⟩ := tab_bit ht (show 4 * k + 1 < 512 by omega)
    obtain ⟨c, ec, hc⟩ := tab_bit ht (show 4 * k + 2 < 512 by omega)
    obtain ⟨d, ed, hd⟩ := tab_bit ht (show 4 * k + 3 < 512 by omega)
    have hw : wtF t k = 8 * a + 4 * b + 2 * c + d := by unfold wtF; rw [ea, eb, ec, ed]; simp only [Int.toNat_natCast]
    rw [hw]
    have hj4 : j = 0 ∨ j = 1 ∨ j = 2 ∨ j = 3 := by omega
    rcases hj4 with rfl | rfl | rfl | rfl
    · rw [Nat.add_zero, ea]; show (((8 * a + 4 * b + 2 * c + d) / 8 : Nat) : Int) = _; congr 1; omega
    · rw [eb]; show (((8 * a + 4 * b + 2 * c + d) / 4 % 2 : Nat) : Int) = _; congr 1; omega
    · rw [ec]; show (((8 * a + 4 * b + 2 * c + d) / 2 % 2 : Nat) : Int) = _; congr 1; omega
    · rw [ed]; show (((8 * a + 4 * b + 2 * c + d) % 2 : Nat) : Int) = _; congr 1; omega
theorem hex_from {l : List UInt8} (hl : l.length = 128) (hd : ∀ c ∈ l, ¬ hexI c < 0) : hexT (fromL l) = l := by
  refine ext_getD 0 ?_ ?_
  · simp [hexT, hl]
  · intro k h1
    have hk : k < 128 := by simpa [hexT] using h1
    have h2 : k < l.length := by omega
    have e1 : (hexT (fromL l)).getD k 0 = hexC (wtF (fromL l) k) := by simp [hexT, hk]
    have e2 : l.getD k 0 = l[k] := by simp [h2]
    rw [e1, e2]
    unfold wtF
    have g0 := fromL_get l k 0 h2 (by omega)
    have g1 := fromL_get l k 1 h2 (by omega)
    have g2 := fromL_get l k 2 h2 (by omega)
    have g3 := fromL_get l k 3 h2 (by omega)
    rw [Nat.add_zero] at g0
    rw [g0, g1, g2, g3, e2]
    have hn := hd _ (List.getElem_mem h2)
    have hb := hexI_bd l[k]
    have hC := hexC_I l[k] hn
    obtain ⟨D, hD⟩ : ∃ D : Nat, hexI l[k] = (D : Int) := ⟨(hexI l[k]).toNat, by omega⟩
    rw [hD] at hC hb
    rw [Int.toNat_natCast] at hC
    rw [← hC]
    congr 1
    unfold fourL
    rw [hC, hD, Int.toNat_natCast]
    show 8 * (((D / 8 : Nat) : Int)).toNat + 4 * (((D / 4 % 2 : Nat) : Int)).toNat + 2 * (((D / 2 % 2 : Nat) : Int)).toNat + (((D % 2 : Nat) : Int)).toNat = D
    simp only [Int.toNat_natCast]
    omega
end Go.Proofs.YtocfkmdoalhjmaaDoor
namespace Go.Proofs.YtocfkmdoalhjmaaDoor
set_option linter.unusedVariables false
set_option maxRecDepth 100000

/-- a set below a weight has no digit beyond it -/
theorem digs_small {z : Nat} : ∀ {m n : Nat}, z < 2 ^ m → m ≤ n → digsTo z n = digsTo z m
  | m, 0, hz, h => by rw [show m = 0 by omega]
  | m, n + 1, hz, h => by
    by_cases e : m = n + 1
    · rw [e]
    have h1 : z < 2 ^ n := Nat.lt_of_lt_of_le hz (Nat.pow_le_pow_right (by omega) (by omega))
    have hd : z / 2 ^ n = 0 := Nat.div_eq_of_lt h1
    rw [digsTo, hd, if_neg (by omega), List.append_nil]
    exact digs_small hz (by omega)
theorem digs_low {z d : Nat} : ∀ {n : Nat}, n ≤ d → digsTo (z + 2 ^ d) n = digsTo z n
  | 0, _ => rfl
  | n + 1, h => by
    have e : (z + 2 ^ d) / 2 ^ n % 2 = z / 2 ^ n % 2 := by
      have e2 : 2 ^ d = 2 ^ n * (2 * 2 ^ (d - n - 1)) := by
        rw [← Nat.mul_assoc, ← Nat.pow_succ, ← Nat.pow_add]; congr 1; omega
      rw [e2, Nat.add_mul_div_left _ _ (Nat.two_pow_pos n)]
      omega
    rw [digsTo, digsTo, e, digs_low (by omega)]
theorem u8_nat {c : UInt8} {d : Nat} (h : c.toNat = 48 + d) (hd : d ≤ 8) : c = UInt8.ofNat (48 + d) := by
  apply UInt8.toNat_inj.1
  rw [h]
  exact (digit_nat ⟨d, by omega⟩).symm
theorem digs_take {s m d : Nat} {c : UInt8} (hs : s < 2 ^ m) (hm : m ≤ d) (hd : d ≤ 8) (hc : c.toNat = 48 + d) : digsTo (s + 2 ^ d) (d + 1) = digsTo s m ++ [c] := by
  have h1 : s < 2 ^ d := Nat.lt_of_lt_of_le hs (Nat.pow_le_pow_right (by omega) hm)
  have e : (s + 2 ^ d) / 2 ^ d % 2 = 1 := by rw [Nat.add_div_right _ (Nat.two_pow_pos d), Nat.div_eq_of_lt h1]
  rw [digsTo, if_pos e, digs_low (Nat.le_refl d), digs_small hs hm, u8_nat hc hd]
/-- what a text that is taken to its end reads: by the state at which it begins -/
def restF (st : Nat) (last : Int) (s0 s1 b s : Nat) (L : List UInt8) : Prop :=
  if st = 0 then L = 66 :: (digsN b ++ 47 :: 83 :: digsN s)
  else if st = 1 then digsTo s0 (last + 1).toNat ++ L = digsN b ++ 47 :: 83 :: digsN s
  else if st = 2 then L = 83 :: digsN s ∧ b = s0
  else digsTo s1 (last + 1).toNat ++ L = digsN s ∧ b = s0
theorem digs_all {z : Nat} {last : Int} (h1 : -1 ≤ last) (h : last ≤ 8) (hz : z < 2 ^ (last + 1).toNat) : digsTo z (last + 1).toNat = digsN z := by
  exact (digs_small hz (by omega)).symm
theorem life_text : ∀ (L : List UInt8) (i st s0 s1 : Nat) (last : Int) (b s : Nat), RdSt st last s0 s1 → lifeRun L i st last s0 s1 = .ok (b, s) → restF st last s0 s1 b s L
  | [], i, st, s0, s1, last, b, s, hR, h => by
    unfold lifeRun at h
    split at h
    · rename_i h3
      cases h
      subst h3
      show digsTo s1 (last + 1).toNat ++ [] = digsN s1 ∧ s0 = s0
      rw [List.append_nil, digs_all hR.lo hR.hi (hR.g1 rfl)]
      exact ⟨rfl, rfl⟩
    · cases h
  | c :: r, i, st, s0, s1, last, b, s, hR, h => by
    rw [lifeRun] at h
    cases ht : takeF st last s0 s1 c with
    | none => rw [ht] at h; cases h
    | some x =>
      obtain ⟨st', last', s0', s1'⟩ := x
      rw [ht] at h
      have hR' := take_next hR ht
      simp only at h hR'
      have ih := life_text r (i + 1) st' s0' s1' last' b s hR' h
      have hs3 := hR.s3
      have hlo := hR.lo
      unfold takeF at ht
      by_cases c0 : st = 0
      · subst c0
        rw [if_pos rfl] at ht
        split at ht
        · rename_i hc
          cases ht
          subst hc
          have ih2 : digsTo s0 0 ++ r = digsN b ++ 47 :: 83 :: digsN s := ih
          show 66 :: r = 66 :: _
          rw [← ih2]; rfl
        · cases ht
      rw [if_neg c0] at ht
      by_cases c2 : st = 2
      · subst c2
        rw [if_pos rfl] at ht
        split at ht
        · rename_i hc
          cases ht
          subst hc
          have ih2 : digsTo s1 0 ++ r = digsN s ∧ b = s0 := ih
          show 83 :: r = 83 :: digsN s ∧ b = s0
          rw [← ih2.1]; exact ⟨rfl, ih2.2⟩
        · cases ht
      rw [if_neg c2] at ht
      by_cases c1 : st = 1 ∧ c = 47
      · obtain ⟨h1, rfl⟩ := c1
        subst h1
        rw [if_pos ⟨rfl, rfl⟩] at ht
        cases ht
        have ih2 : r = 83 :: digsN s ∧ b = s0 := ih
        show digsTo s0 (last + 1).toNat ++ 47 :: r = digsN b ++ 47 :: 83 :: digsN s
        rw [digs_all hR.lo hR.hi (hR.g0 rfl), ih2.1, ih2.2]
      rw [if_neg c1] at ht
      split at ht
      · cases ht
      rename_i hd
      obtain ⟨d, hd1⟩ : ∃ d : Nat, c.toNat = 48 + d := ⟨c.toNat - 48, by omega⟩
      rw [hd1] at ht hd
      have e1 : ((48 + d : Nat) : Int) - 48 = (d : Int) := by omega
      have e2 : 48 + d - 48 = d := by omega
      have e3 : ((d : Int) + 1).toNat = d + 1 := by omega
      rw [e1, e2] at ht
      rw [e1] at hd
      split at ht
      · rename_i h1
        cases ht
        subst h1
        have ih2 : digsTo (s0 + 2 ^ d) ((d : Int) + 1).toNat ++ r = digsN b ++ 47 :: 83 :: digsN s := ih
        show digsTo s0 (last + 1).toNat ++ c :: r = _
        rw [e3, digs_take (hR.g0 rfl) (by omega) (by omega) hd1] at ih2
        rw [← ih2, List.append_assoc]; rfl
      · rename_i h1
        have h3 : st = 3 := by omega
        cases ht
        subst h3
        have ih2 : digsTo (s1 + 2 ^ d) ((d : Int) + 1).toNat ++ r = digsN s ∧ b = s0 := ih
        show digsTo s1 (last + 1).toNat ++ c :: r = _ ∧ b = s0
        rw [e3, digs_take (hR.g1 rfl) (by omega) (by omega) hd1] at ih2
        rw [← ih2.1, List.append_assoc]; exact ⟨rfl, ih2.2⟩
/-- the sets that a table of two sets tells are these -/
theorem about_full : ∀ n : Fin 9, ∀ k : Fin 2, ∃ j : Fin 512, j.val / 16 % 2 = k.val ∧ aboutN j.val = n.val := by
  intro n k
  have key : ∀ n : Fin 9, ∀ k : Fin 2, aboutN ([0, 1, 3, 7, 15, 47, 111, 239, 495].getD n.val 0 + 16 * k.val) = n.val ∧ ([0, 1, 3, 7, 15, 47, 111, 239, 495].getD n.val 0 + 16 * k.val) / 16 % 2 = k.val ∧ [0, 1, 3, 7, 15, 47, 111, 239, 495].getD n.val 0 + 16 * k.val < 512 := by decide +kernel
  obtain ⟨h1, h2, h3⟩ := key n k
  exact ⟨⟨_, h3⟩, h2, h1⟩
theorem about_le : ∀ i, aboutN i ≤ 8 := by intro i; unfold aboutN; omega
theorem bit_mul {x m n : Nat} (hx : x ≤ 1) : (x * 2 ^ m).testBit n = (decide (x = 1) && decide (n = m)) := by
  have h : x = 0 ∨ x = 1 := by omega
  rcases h with rfl | rfl
  · simp
  · rw [Nat.one_mul, Nat.testBit_two_pow]
    simp [eq_comm]
theorem setsT_bit (b s k : Nat) : ∀ i n, (setsT b s k i).testBit n = true ↔ (∃ j, j < i ∧ j / 16 % 2 = k ∧ aboutN j = n) ∧ (if k = 1 then s else b).testBit n = true
  | 0, n => by simp [setsT]
  | i + 1, n => by
    have ih := setsT_bit b s k i n
    unfold setsT
    by_cases hi : i / 16 % 2 = k
    · rw [if_pos hi, Nat.testBit_or, Bool.or_eq_true, ih]
      have hx : tabF b s i ≤ 1 := by unfold tabF; omega
      rw [bit_mul hx]
      have ht : tabF b s i = (if k = 1 then s else b) / 2 ^ aboutN i % 2 := by unfold tabF; rw [hi]
      generalize (if k = 1 then s else b) = S at *
      have hbit : S.testBit (aboutN i) = decide (tabF b s i = 1) := by rw [ht, Nat.testBit_eq_decide_div_mod_eq]
      constructor
      · rintro (⟨⟨j, h1, h2, h3⟩, h4⟩ | h)
        · exact ⟨⟨j, by omega, h2, h3⟩, h4⟩
        · rw [Bool.and_eq_true] at h
          have hn := of_decide_eq_true h.2
          subst hn
          exact ⟨⟨i, by omega, hi, rfl⟩, hbit.trans h.1⟩
      · rintro ⟨⟨j, h1, h2, h3⟩, h4⟩
        rcases Nat.lt_or_ge j i with h | h
        · exact .inl ⟨⟨j, h, h2, h3⟩, h4⟩
        · obtain rfl : j = i := by omega
          subst h3
          rw [hbit] at h4
          rw [h4]
          exact .inr (by simp)
    · rw [if_neg hi, ih]
      constructor
      · rintro ⟨⟨j, h1, h2, h3⟩, h4⟩; exact ⟨⟨j, by omega, h2, h3⟩, h4⟩
      · rintro ⟨⟨j, h1, h2, h3⟩, h4⟩
        refine ⟨⟨j, ?_, h2, h3⟩, h4⟩
        rcases Nat.lt_or_ge j i with h | h
        · exact h
        · exact absurd (by rw [← h2, show j = i by omega]) hi
theorem setsT_all (b s k : Nat) (hb : b < 512) (hs : s < 512) (hk : k < 2) : setsT b s k 512 = if k = 1 then s else b := by
  apply Nat.eq_of_testBit_eq
  intro n
  have hh := setsT_bit b s k 512 n
  by_cases hn : n < 9
  · obtain ⟨j, h1, h2⟩ := about_full ⟨n, hn⟩ ⟨k, hk⟩
    have e : ∃ j, j < 512 ∧ j / 16 % 2 = k ∧ aboutN j = n := ⟨j.val, j.isLt, h1, h2⟩
    rw [Bool.eq_iff_iff, hh]
    exact ⟨fun h => h.2, fun h => ⟨e, h⟩⟩
  · have hz : (if k = 1 then s else b).testBit n = false := by
      apply Nat.testBit_lt_two_pow
      have h9 : (2 : Nat) ^ 9 ≤ 2 ^ n := Nat.pow_le_pow_right (by omega) (by omega)
      have h10 : (2 : Nat) ^ 9 = 512 := by decide
      split <;> omega
    rw [hz] at hh ⊢
    rw [Bool.eq_iff_iff, hh]
    simp
theorem life_lt : ∀ (L : List UInt8) (i st s0 s1 : Nat) (last : Int) (b s : Nat), RdSt st last s0 s1 → lifeRun L i st last s0 s1 = .ok (b, s) → b < 512 ∧ s < 512
  | [], i, st, s0, s1, last, b, s, hR, h => by
    unfold lifeRun at h
    split at h
    · cases h; exact ⟨hR.b0, hR.b1⟩
    · cases h
  | c :: r, i, st, s0, s1, last, b, s, hR, h => by
    rw [lifeRun] at h
    cases ht : takeF st last s0 s1 c with
    | none => rw [ht] at h; cases h
    | some x =>
      obtain ⟨st', last', s0', s1'⟩ := x
      rw [ht] at h
      have hR' := take_next hR ht
      exact life_lt r (i + 1) st' s0' s1' last' b s hR' h
theorem sets_tab {b s : Nat} (hb : b < 512) (hs : s < 512) : setB (tabOf b s) = b ∧ setS (tabOf b s) = s := by
  have h0 := setsT_all b s 0 hb hs (by omega)
  have h1 := setsT_all b s 1 hb hs (by omega)
  exact ⟨(setsO_tab b s 0 512 (by omega)).trans h0, (setsO_tab b s 1 512 (by omega)).trans h1⟩
theorem counts_tab {b s : Nat} (hb : b < 512) (hs : s < 512) : counts (tabOf b s) = true := by
  unfold counts
  rw [(sets_tab hb hs).1, (sets_tab hb hs).2]
  exact decide_eq_true rfl
theorem life_txt {s : ByteArray} {b st : Nat} (hr : lifeR s = .ok (b, st)) : plTextS (tabOf b st) = s ∧ plTextB (tabOf b st) = true := by
  have hl := life_lt _ _ _ _ _ _ _ _ RdSt.start0 hr
  have ht := life_text _ _ _ _ _ _ _ _ RdSt.start0 hr
  have ht2 : s.data.toList = 66 :: (digsN b ++ 47 :: 83 :: digsN st) := ht
  have h0 := tabD_of (isTab_tab b st)
  have hc := counts_tab hl.1 hl.2
  constructor
  · unfold plTextS
    rw [if_pos ⟨h0, hc⟩]
    unfold tbS
    rw [(sets_tab hl.1 hl.2).1, (sets_tab hl.1 hl.2).2]
    apply ByteArray.ext
    apply Array.ext'
    rw [ht2]
    simp [ByteArray.data_append]
  · unfold plTextB; rw [h0, hc]; rfl
theorem mv_about : ∀ i : Fin 512, (aboutN (mvT qF i.val 9) = aboutN i.val ∧ mvT qF i.val 9 / 16 % 2 = i.val / 16 % 2) ∧ aboutN (mvT mF i.val 9) = aboutN i.val ∧ mvT mF i.val 9 / 16 % 2 = i.val / 16 % 2 := by decide +kernel
theorem even_tab (b s : Nat) : evB (tabOf b s) = true := by
  refine evB_true fun i hi => ?_
  obtain ⟨⟨h1, h2⟩, h3, h4⟩ := mv_about ⟨i, hi⟩
  have l1 : mvT qF i 9 < 512 := mvT_lt qF i 9
  have l2 : mvT mF i 9 < 512 := mvT_lt mF i 9
  simp only at h1 h2 h3 h4
  unfold evOk
  rw [tabOf_get l1, tabOf_get l2, tabOf_get hi]
  unfold tabF
  rw [h1, h2, h3, h4]
  exact ⟨rfl, rfl⟩
theorem fromE_ok : ∀ (l : List UInt8) (i : Nat), (∀ c ∈ l, ¬ hexI c < 0) → i + l.length = 128 → fromE l i = none
  | [], i, _, h => by unfold fromE; rw [if_neg (by simp at h; omega)]
  | c :: r, i, hd, h => by
    unfold fromE
    have h2 := hd c (by simp)
    rw [List.length_cons] at h
    rw [if_neg (by omega)]
    exact fromE_ok r (i + 1) (fun x hx => hd x (by simp [hx])) (by omega)
theorem fromE_none : ∀ (l : List UInt8) (i : Nat), i ≤ 128 → fromE l i = none → (∀ c ∈ l, ¬ hexI c < 0) ∧ i + l.length = 128
  | [], i, hi, h => by
    unfold fromE at h
    split at h
    · cases h
    · exact ⟨(fun c hc => by cases hc), by simp; omega⟩
  | c :: r, i, hi, h => by
    unfold fromE at h
    split at h
    · cases h
    · rename_i hc
      obtain ⟨h1, h2⟩ := fromE_none r (i + 1) (by omega) h
      refine ⟨fun x hx => ?_, by rw [List.length_cons]; omega⟩
      rcases List.mem_cons.1 hx with rfl | hx
      · omega
      · exact h1 x hx
theorem hexT_dig {t : List Int} (ht : IsTab t) : ∀ c ∈ hexT t, ¬ hexI c < 0 := by
  intro c hc
  obtain ⟨k, hk, rfl⟩ := List.mem_map.1 hc
  have := hexI_C ⟨wtF t k, wtF_lt ht (List.mem_range.1 hk)⟩
  simp only at this
  rw [this]
  omega
theorem hexT_len (t : List Int) : (hexT t).length = 128 := by simp [hexT]
/-- the digits of a table, read again -/
theorem from_of_hex {t : List Int} (ht : IsTab t) : fromD ⟨(hexT t).toArray⟩ = none ∧ fromO ⟨(hexT t).toArray⟩ = t := by
  have he : fromE (hexT t) 0 = none := fromE_ok _ _ (hexT_dig ht) (by rw [hexT_len])
  have hd : fromD ⟨(hexT t).toArray⟩ = none := by
    unfold fromD
    show (match fromE (hexT t) 0 with | some i => _ | none => none) = none
    rw [he]
  refine ⟨hd, ?_⟩
  unfold fromO
  rw [if_pos hd]
  exact from_hex ht
theorem four_sym (c : UInt8) (h : ¬ hexI c < 0) : ∀ x ∈ fourL c, x = 0 ∨ x = 1 := by
  have hb := hexI_bd c
  intro x hx
  simp only [fourL, List.mem_cons, List.not_mem_nil, or_false] at hx
  rcases hx with rfl | rfl | rfl | rfl <;> omega
/-- digits that are taken, written again -/
theorem hex_of_from {s : ByteArray} (hd : fromD s = none) : IsTab (fromO s) ∧ (⟨(hexT (fromO s)).toArray⟩ : ByteArray) = s := by
  have he : fromE s.data.toList 0 = none := by
    unfold fromD at hd
    cases h : fromE s.data.toList 0 with
    | none => rfl
    | some i => rw [h] at hd; cases hd
  obtain ⟨h1, h2⟩ := fromE_none _ _ (by omega) he
  have h3 : s.data.toList.length = 128 := by omega
  have ho : fromO s = fromL s.data.toList := by unfold fromO; rw [if_pos hd]
  rw [ho]
  constructor
  · refine ⟨by rw [fromL_len, h3], fun x hx => ?_⟩
    obtain ⟨c, hc, hx⟩ := List.mem_flatMap.1 hx
    exact four_sym c (h1 c hc) x hx
  · rw [hex_from h3 h1]
end Go.Proofs.YtocfkmdoalhjmaaDoor
