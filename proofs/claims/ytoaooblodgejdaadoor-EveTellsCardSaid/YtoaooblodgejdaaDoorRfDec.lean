/- The contract of edenref23.Decode. -/
import Derived.Test.YtoaooblodgejdaaDoorCrtX
import Derived.Test.YtoaooblodgejdaaDoorErrB
import Derived.Test.YtoaooblodgejdaaDoorBase
import Derived.WalkKit
import Derived.Deep.QuietTactic
import Derived.BigQuiet
import Derived.Lib.Hide
namespace Go.Proofs.YtoaooblodgejdaaDoor
open Go.RowKit
set_option linter.unusedVariables false
set_option maxRecDepth 100000

theorem entsC_app (l m : List (Int × Int × Int)) : entsC (l ++ m) = entsC l ++ entsC m := by simp [entsC]

theorem ents_one (l : List (Int × Int × Int)) : ∀ u ∈ entsC l, u.oneCell' = true := by
  intro u hu
  simp only [entsC, List.mem_flatMap, entC, List.mem_cons, List.not_mem_nil, or_false] at hu
  obtain ⟨x, _, rfl | rfl | rfl⟩ := hu <;> rfl

set_option maxHeartbeats 2000000 in
theorem most_any (h : Int) (W : World) (h1 : 1 ≤ h) (h2 : h ≤ 4) :
    Calls Tryd.prog 109 #[.int .i64 h] W fun e w' => e = .returned (.int .i64 (most h)) ∧ w' = W := by
  go_enter Tryd.func109, Tryd.ntmps109
  go_wp2_with fail
  go_loopw [3, 4] (fun x i wr => ∃ (k : Nat), (k : Int) ≤ h ∧ i = .int .i64 k ∧ x = .int .i64 (4 * 2 ^ k) ∧ wr = W) (fun _ i _ => h.toNat - (intOf i).toNat)
  case atStart => exact ⟨0, by omega, rfl, rfl, rfl⟩
  case round =>
    obtain ⟨k, hk, rfl, rfl, rfl⟩ := hrel
    by_cases hlt : (k : Int) < h
    · obtain rfl | rfl | rfl | rfl : k = 0 ∨ k = 1 ∨ k = 2 ∨ k = 3 := by omega
      all_goals
        go_wp2
        go_roundw
        case rel => first | exact ⟨1, by omega, rfl, rfl, by trivial⟩ | exact ⟨2, by omega, rfl, rfl, by trivial⟩ | exact ⟨3, by omega, rfl, rfl, by trivial⟩ | exact ⟨4, by omega, rfl, rfl, by trivial⟩
        case measure => simp [intOf]; omega
    · obtain rfl : h = k := by omega
      go_wp2
      go_ret
      exact ⟨rfl, rfl⟩
/-- a row of the call's own lies from its base on -/
theorem fr_own {w : World} {B sz n k c : Nat} {e : TypeId} {a : Option Addr} {cs : List Value} (h : w.ownsRow B e sz (.slice a n c) k cs) : Fr B a := by
  intro b o hab
  subst hab
  obtain ⟨rfl, h2⟩ : o = 0 ∧ (Value.slice (some ⟨b, o, none⟩) n c).ownBlock = some b := by
    rcases h.2 with ⟨h1, _⟩ | ⟨g, _, _, h1, _⟩
    · cases h1
    · cases h1; exact ⟨rfl, rfl⟩
  exact (h.lt b h2).1
/-- the world behind the result's block -/
abbrev resW (W : World) : World := W.alloc (.cells #[.int .i64 0, .slice none 0 0, .slice none 0 0] 60)

def RfDecPost (W : World) (bs : List Int) (e : Ending) (w' : World) : Prop :=
  Below W.heap.size W w' ∧ ∃ x y a n c N ao no co aa na ca, e = .returned (.tuple #[.int .i64 x, .int .i64 y, .slice a n c, .agg #[.int .i64 N, .slice ao no co, .slice aa na ca]]) ∧ Fr W.heap.size a ∧ Fr W.heap.size ao ∧ Fr W.heap.size aa ∧
    match decF bs with
    | .ok (w, h, l) => x = w ∧ y = h ∧ n = l.length ∧ Rd w' a l.length 3 (entsC l) ∧ WantIs w' (.agg #[.int .i64 N, .slice ao no co, .slice aa na ca]) none
    | .error (at_, k) => x = 0 ∧ y = 0 ∧ a = none ∧ n = 0 ∧ c = 0 ∧ WantIs w' (.agg #[.int .i64 N, .slice ao no co, .slice aa na ca]) (some (opCert, at_, k))

/-- the entry that is being read: a block of the call's own -/
structure Cur (W w : World) (x y z : Int) : Prop where
  box : w.heap[W.heap.size + 1]? = some (.cells #[.int .i64 x, .int .i64 y, .int .i64 z] 90 (0, 0))
  bel : Below (W.heap.size + 1) (resW W) w

theorem Cur.cells {W w : World} {x y z : Int} (h : Cur W w x y z) : (w.cell? ⟨W.heap.size + 1, 0, none⟩ = some (.int .i64 x) ∧ w.cell? ⟨W.heap.size + 1, 1, none⟩ = some (.int .i64 y) ∧ w.cell? ⟨W.heap.size + 1, 2, none⟩ = some (.int .i64 z)) ∧
    w.frozen? ⟨W.heap.size + 1, 0, none⟩ = false ∧ w.frozen? ⟨W.heap.size + 1, 1, none⟩ = false ∧ w.frozen? ⟨W.heap.size + 1, 2, none⟩ = false := by
  simp [World.cell?, World.frozen?, h.box]
theorem Cur.start (W : World) : Cur W ((resW W).alloc (.cells #[.int .i64 0, .int .i64 0, .int .i64 0] 90)) 0 0 0 := by
  refine ⟨?_, ?_⟩
  · have := heap_alloc_new (resW W) (.cells #[.int .i64 0, .int .i64 0, .int .i64 0] 90 (0, 0))
    simpa using this
  · have := balloc (bnil (resW W)) (.cells #[.int .i64 0, .int .i64 0, .int .i64 0] 90)
    simpa using this
theorem Cur.set0 {W w : World} {x y z : Int} (h : Cur W w x y z) (u : Int) : Cur W (w.setCell ⟨W.heap.size + 1, 0, none⟩ (.int .i64 u)) u y z :=
  ⟨by simp [World.setCell, Array.getElem?_modify, h.box], h.bel.setCell (p := ⟨W.heap.size + 1, 0, none⟩) (Nat.le_refl _) _⟩
theorem Cur.set1 {W w : World} {x y z : Int} (h : Cur W w x y z) (u : Int) : Cur W (w.setCell ⟨W.heap.size + 1, 1, none⟩ (.int .i64 u)) x u z :=
  ⟨by simp [World.setCell, Array.getElem?_modify, h.box], h.bel.setCell (p := ⟨W.heap.size + 1, 1, none⟩) (Nat.le_refl _) _⟩
theorem Cur.set2 {W w : World} {x y z : Int} (h : Cur W w x y z) (u : Int) : Cur W (w.setCell ⟨W.heap.size + 1, 2, none⟩ (.int .i64 u)) x y u :=
  ⟨by simp [World.setCell, Array.getElem?_modify, h.box], h.bel.setCell (p := ⟨W.heap.size + 1, 2, none⟩) (Nat.le_refl _) _⟩
theorem Cur.up {W w w' : World} {x y z : Int} (h : Cur W w x y z) (hb : Below (W.heap.size + 2) w w') : Cur W w' x y z :=
  ⟨by rw [hb.block _ (by omega)]; exact h.box, h.bel.trans (hb.mono (by omega))⟩
theorem Cur.W {W w : World} {x y z : Int} (h : Cur W w x y z) : Below W.heap.size W w := (balloc (bnil W) _).trans (h.bel.mono (by omega))
theorem Cur.size {W w : World} {x y z : Int} (h : Cur W w x y z) : W.heap.size + 2 ≤ w.heap.size := by
  have := (Array.getElem?_eq_some_iff.1 h.box).1
  omega

def wv (bs : List Int) (k : Nat) : Int := if 2 < k then bs.getD 2 0 else 0
def hv (bs : List Int) (k : Nat) : Int := if 3 < k then bs.getD 3 0 else 0

/-- the loop's relation -/
structure DecAt (bs : List Int) (W : World) (k j : Nat) (a' : Option Addr) (c' : Nat) (xc xa xb : Int) (wr : World) : Prop where
  own : wr.ownsRow (W.heap.size + 2) 90 3 (.slice a' j c') j (entsC (entsOf ((bs.drop 4).take (3 * j))))
  cur : Cur W wr xc xa xb
  ok : okTo bs k
  pos : (k < 4 ∧ j = 0) ∨ (4 + 3 * j ≤ k ∧ k ≤ 4 + 3 * j + 2)
  col : 4 + 3 * j + 1 ≤ k → xc = bs.getD (4 + 3 * j) 0
  a : 4 + 3 * j + 2 ≤ k → xa = bs.getD (4 + 3 * j + 1) 0
def DecRel (bs : List Int) (W : World) (vw vh vl i : Value) (wr : World) : Prop :=
  ∃ (k j : Nat) (a' : Option Addr) (c' : Nat) (xc xa xb : Int), k ≤ bs.length ∧ i = .int .i64 k ∧ vw = .int .i64 (wv bs k) ∧ vh = .int .i64 (hv bs k) ∧ vl = .slice a' j c' ∧ DecAt bs W k j a' c' xc xa xb wr

theorem Cur.after {W w w5 : World} {x y z : Int} (h : Cur W w x y z) (hb : Below w.heap.size w w5) : Below (resW W).heap.size (resW W) w5 := by
  have hs := h.size
  have h1 : Below (resW W).heap.size (resW W) w := by simpa using h.bel
  exact h1.trans (hb.mono (by simp; omega))
theorem wv_next (bs : List Int) (k : Nat) (h : k ≠ 2) : wv bs (k + 1) = wv bs k := by
  unfold wv
  by_cases h2 : 2 < k
  · rw [if_pos (by omega), if_pos h2]
  · rw [if_neg (by omega), if_neg h2]
theorem hv_next (bs : List Int) (k : Nat) (h : k ≠ 3) : hv bs (k + 1) = hv bs k := by
  unfold hv
  by_cases h2 : 3 < k
  · rw [if_pos (by omega), if_pos h2]
  · rw [if_neg (by omega), if_neg h2]
theorem lim_ge4 (i w h : Int) (h4 : 4 ≤ i) : lim i w h = if (i - 4) % 3 = 0 then (0, w - 1) else (0, most h - 1) := by
  unfold lim
  rw [if_neg (by omega), if_neg (by omega), if_neg (by omega), if_neg (by omega)]
theorem getD_in (bs : List Int) (i : Nat) (d : Int) (h : i < bs.length) : bs.getD i d = bs.getD i 0 := by simp [h]
theorem decF_bad {bs : List Int} {k : Nat} (hbig : ¬ 131072 < bs.length) (hk : k < bs.length) (ho : okTo bs k) (hb : okAt bs k = false) : decF bs = .error ((k : Int), 8) := by
  unfold decF
  rw [if_neg hbig, firstBad_some hk ho hb]
theorem own_ne {w : World} {B sz n c : Nat} {e : TypeId} {a : Option Addr} {cs : List Value} (h : w.ownsRow (B + 2) e sz (.slice a n c) n cs) : (Value.slice a n c).ownBlock ≠ some (B + 1) := by
  intro e
  have := (h.lt _ e).1
  omega

set_option maxHeartbeats 8000000 in
theorem rfDecode_any (a : Option Addr) (c : Nat) (bs : List Int) (W : World) (hR : Rd W a bs.length 1 (bs.map (Value.int .u8))) (hB : ∀ x ∈ bs, 0 ≤ x ∧ x ≤ 255) (hlen : bs.length ≤ maxLen) :
    Calls Tryd.prog 83 #[.slice a bs.length c] W (RfDecPost W bs) := by
  have hlen' : bs.length ≤ 9223372036854775807 := hlen
  have HB := Lib.hid hB; clear hB
  have HR := Lib.hid hR; clear hR
  have fin : ∀ (at_ k : Int), decF bs = .error (at_, k) → ∀ (w5 : World) (b1 b2 g : Nat), g = W.heap.size → Below (resW W).heap.size (resW W) w5 → W.heap.size < b1 → W.heap.size < b2 →
      WantIs w5 (.agg #[.int .i64 k, .slice (some ⟨b1, 0, none⟩) 1 1, .slice (some ⟨b2, 0, none⟩) 1 1]) (some (opCert, at_, k)) →
      ∃ w6, (((w5.setCell ⟨g, 0, none⟩ (.int .i64 k)).setCell ⟨g, 1, none⟩ (.slice (some ⟨b1, 0, none⟩) 1 1)).setCell ⟨g, 2, none⟩ (.slice (some ⟨b2, 0, none⟩) 1 1)) = w6 ∧
        (w6.cell? ⟨g, 0, none⟩ = some (.int .i64 k) ∧ w6.cell? ⟨g, 1, none⟩ = some (.slice (some ⟨b1, 0, none⟩) 1 1) ∧ w6.cell? ⟨g, 2, none⟩ = some (.slice (some ⟨b2, 0, none⟩) 1 1)) ∧
        RfDecPost W bs (.returned (.tuple #[.int .i64 0, .int .i64 0, .slice none 0 0, .agg #[.int .i64 k, .slice (some ⟨b1, 0, none⟩) 1 1, .slice (some ⟨b2, 0, none⟩) 1 1]])) w6 := by
    intro at_ k he w5 b1 b2 g hg hb h1 h2 hw
    obtain ⟨w6, e6, cells, bel, hk, hs⟩ := res3_set (u0 := .int .i64 k) (u1 := .slice (some ⟨b1, 0, none⟩) 1 1) (u2 := .slice (some ⟨b2, 0, none⟩) 1 1) hg hb
    refine ⟨w6, e6, cells, bel, _, _, _, _, _, _, _, _, _, _, _, _, rfl, fr_none, fr_some (by omega), fr_some (by omega), ?_⟩
    rw [he]
    exact ⟨rfl, rfl, rfl, rfl, rfl, hw.other hk hs (by omega) (by omega)⟩
  have FIN := Lib.hid fin; clear fin
  by_cases hbig : 131072 < bs.length
  · have HD : Hid (decF bs = .error (0, 4)) := by unfold decF; rw [if_pos hbig]; rfl
    go_enter Tryd.func83, Tryd.ntmps83
    go_wp2_with fail
    refine (rawNew_fresh _ _ _ _ rfl).mono ?_; rintro e w5 ⟨b1, b2, rfl, l1, l2, hw5, hb5⟩
    obtain ⟨⟨q0, q1, q2⟩, f0, f1, f2⟩ := res3 rfl hb5
    go_wp2
    obtain ⟨w6, e6, ⟨r0, r1, r2⟩, hp⟩ := FIN.out _ _ HD.out w5 b1 b2 _ rfl hb5 (by simp at l1; omega) (by simp at l2; omega) hw5
    rw [e6]
    refine bodyPost_ret (v := .tuple #[.int .i64 0, .int .i64 0, .slice none 0 0, .agg #[.int .i64 4, .slice (some ⟨b1, 0, none⟩) 1 1, .slice (some ⟨b2, 0, none⟩) 1 1]]) (by simp [results, Tryd.results83, go_sem, r0, r1, r2]) rfl ?_
    exact hp
  · go_enter Tryd.func83, Tryd.ntmps83
    go_wp2_with fail
    go_loopw [6, 7, 8, 10] (fun vw vh vl i wr => DecRel bs W vw vh vl i wr) (fun _ _ _ i _ => bs.length - (intOf i).toNat)
    case atStart => exact ⟨0, 0, none, 0, 0, 0, 0, by omega, rfl, rfl, rfl, rfl, ⟨World.ownsRow_nil _ _ _ _, Cur.start W, fun i hi => absurd hi (by omega), .inl ⟨by omega, rfl⟩, fun h => absurd h (by omega), fun h => absurd h (by omega)⟩⟩
    case round =>
      obtain ⟨k, j, a', c', xc, xa, xb, hk, rfl, rfl, rfl, rfl, hD⟩ := hrel
      by_cases hlt : k < bs.length
      · obtain ⟨b, o, rfl, hbo, hcell⟩ := HR.out.2.resolve_left (by omega)
        have c0 : wr.cell? ⟨b, o + k, none⟩ = some (.int .u8 (bs.getD k 0)) := bs_cell hD.cur.W hbo hcell k hlt
        clear hcell
        obtain ⟨xb1, xb2⟩ := bd_at HB.out k
        have hbd := lim_bd bs k hD.ok
        have HT : Hid (okAt bs k = true → okTo bs (k + 1)) := fun h => okTo_succ hD.ok h
        have HBD : Hid (okAt bs k = false → decF bs = .error ((k : Int), 8)) := fun h => decF_bad hbig hlt hD.ok h
        have hiff : okAt bs k = true ↔ ((lim k (bW bs k) (bH bs k)).1 ≤ bs.getD k 0 ∧ bs.getD k 0 ≤ (lim k (bW bs k) (bH bs k)).2) := by simp [okAt]
        have HWN := Lib.hid (wv_next bs k)
        have HHN := Lib.hid (hv_next bs k)
        by_cases h4 : k < 4
        · have hj : j = 0 := by have := hD.pos; omega
          subst hj
          have CUR1 := hD.cur
          have HD := Lib.hid hD; clear hD
          obtain rfl | rfl | rfl | rfl : k = 0 ∨ k = 1 ∨ k = 2 ∨ k = 3 := by omega
          · have hiff2 : okAt bs 0 = true ↔ (69 ≤ bs.getD 0 0 ∧ bs.getD 0 0 ≤ 69) := hiff
            clear hiff hbd
            have HX : Hid (bs.getD 0 0 = bs.getD 0 0) := rfl
            rw [Nat.add_zero] at c0
            generalize hx : bs.getD 0 0 = x at c0 xb1 xb2 hiff2 HX
            have HX2 := Lib.hid hx; clear hx HX
            cases hok : okAt bs 0 with
            | true =>
              obtain ⟨y1, y2⟩ := hiff2.1 hok
              obtain rfl : x = 69 := by omega
              have HT2 := Lib.hid (HT.out hok)
              clear hiff2 hok
              go_wp2
              first | refine ⟨⟨_, _, _, _, ?rel, rfl, rfl, rfl, rfl⟩, ?measure⟩ | refine ⟨?rel, ?measure⟩ | go_roundw
              case rel => exact ⟨1, 0, a', c', xc, xa, xb, by omega, by go_num, by rw [HWN.out (by decide)], by rw [HHN.out (by decide)], rfl, ⟨HD.out.own, CUR1, HT2.out, .inl ⟨by omega, rfl⟩, fun h => absurd h (by omega), fun h => absurd h (by omega)⟩⟩
              case measure => simp [intOf]; omega
            | false =>
              have y3 : ¬ (69 ≤ x ∧ x ≤ 69) := fun h => by rw [hiff2.2 h] at hok; cases hok
              clear hiff2
              have yn : (x == 69) = false := by simp; omega
              rcases (by omega : x < 69 ∨ 69 < x) with y1 | y1
              all_goals
                clear y3
                go_wp2_with fail
                refine (rawNew_fresh _ _ _ _ rfl).mono ?_; rintro e w5 ⟨b1, b2, rfl, l1, l2, hw5, hb5⟩
                have hsz := CUR1.size
                have hb6 := CUR1.after hb5
                obtain ⟨⟨q0, q1, q2⟩, f0, f1, f2⟩ := res3 rfl hb6
                go_wp2
                obtain ⟨w6, e6, ⟨r0, r1, r2⟩, hp⟩ := FIN.out _ _ (HBD.out hok) w5 b1 b2 _ rfl hb6 (by first | omega | (simp at l1 hsz; omega)) (by first | omega | (simp at l2 hsz; omega)) hw5
                rw [e6]
                refine bodyPost_ret (v := .tuple #[.int .i64 0, .int .i64 0, .slice none 0 0, .agg #[.int .i64 8, .slice (some ⟨b1, 0, none⟩) 1 1, .slice (some ⟨b2, 0, none⟩) 1 1]]) (by simp [results, Tryd.results83, go_sem, r0, r1, r2]) rfl ?_
                exact hp
          · have hiff2 : okAt bs 1 = true ↔ (68 ≤ bs.getD 1 0 ∧ bs.getD 1 0 ≤ 68) := hiff
            clear hiff hbd
            have HX : Hid (bs.getD 1 0 = bs.getD 1 0) := rfl
            generalize hx : bs.getD 1 0 = x at c0 xb1 xb2 hiff2 HX
            have HX2 := Lib.hid hx; clear hx HX
            cases hok : okAt bs 1 with
            | true =>
              obtain ⟨y1, y2⟩ := hiff2.1 hok
              obtain rfl : x = 68 := by omega
              have HT2 := Lib.hid (HT.out hok)
              clear hiff2 hok
              go_wp2
              first | refine ⟨⟨_, _, _, _, ?rel, rfl, rfl, rfl, rfl⟩, ?measure⟩ | refine ⟨?rel, ?measure⟩ | go_roundw
              case rel => exact ⟨2, 0, a', c', xc, xa, xb, by omega, by go_num, by rw [HWN.out (by decide)], by rw [HHN.out (by decide)], rfl, ⟨HD.out.own, CUR1, HT2.out, .inl ⟨by omega, rfl⟩, fun h => absurd h (by omega), fun h => absurd h (by omega)⟩⟩
              case measure => simp [intOf]; omega
            | false =>
              have y3 : ¬ (68 ≤ x ∧ x ≤ 68) := fun h => by rw [hiff2.2 h] at hok; cases hok
              clear hiff2
              have yn : (x == 68) = false := by simp; omega
              rcases (by omega : x < 68 ∨ 68 < x) with y1 | y1
              all_goals
                clear y3
                go_wp2_with fail
                refine (rawNew_fresh _ _ _ _ rfl).mono ?_; rintro e w5 ⟨b1, b2, rfl, l1, l2, hw5, hb5⟩
                have hsz := CUR1.size
                have hb6 := CUR1.after hb5
                obtain ⟨⟨q0, q1, q2⟩, f0, f1, f2⟩ := res3 rfl hb6
                go_wp2
                obtain ⟨w6, e6, ⟨r0, r1, r2⟩, hp⟩ := FIN.out _ _ (HBD.out hok) w5 b1 b2 _ rfl hb6 (by first | omega | (simp at l1 hsz; omega)) (by first | omega | (simp at l2 hsz; omega)) hw5
                rw [e6]
                refine bodyPost_ret (v := .tuple #[.int .i64 0, .int .i64 0, .slice none 0 0, .agg #[.int .i64 8, .slice (some ⟨b1, 0, none⟩) 1 1, .slice (some ⟨b2, 0, none⟩) 1 1]]) (by simp [results, Tryd.results83, go_sem, r0, r1, r2]) rfl ?_
                exact hp
          · have hiff2 : okAt bs 2 = true ↔ (1 ≤ bs.getD 2 0 ∧ bs.getD 2 0 ≤ 8) := hiff
            clear hiff hbd
            have HX : Hid (bs.getD 2 0 = bs.getD 2 0) := rfl
            generalize hx : bs.getD 2 0 = x at c0 xb1 xb2 hiff2 HX
            have HX2 := Lib.hid hx; clear hx HX
            cases hok : okAt bs 2 with
            | true =>
              obtain ⟨y1, y2⟩ := hiff2.1 hok
              have HT2 := Lib.hid (HT.out hok)
              clear hiff2 hok
              go_wp2
              first | refine ⟨⟨_, _, _, _, ?rel, rfl, rfl, rfl, rfl⟩, ?measure⟩ | refine ⟨?rel, ?measure⟩ | go_roundw
              case rel => exact ⟨3, 0, a', c', xc, xa, xb, by omega, by go_num, by rw [← HX2.out]; rfl, by rw [HHN.out (by decide)], rfl, ⟨HD.out.own, CUR1, HT2.out, .inl ⟨by omega, rfl⟩, fun h => absurd h (by omega), fun h => absurd h (by omega)⟩⟩
              case measure => simp [intOf]; omega
            | false =>
              have y3 : ¬ (1 ≤ x ∧ x ≤ 8) := fun h => by rw [hiff2.2 h] at hok; cases hok
              clear hiff2
              rcases (by omega : x < 1 ∨ (1 ≤ x ∧ 8 < x)) with y1 | ⟨y1, y2⟩
              all_goals
                try (have yd : decide (x ≤ 8) = false := by simp; omega)
                clear y3
                go_wp2_with fail
                refine (rawNew_fresh _ _ _ _ rfl).mono ?_; rintro e w5 ⟨b1, b2, rfl, l1, l2, hw5, hb5⟩
                have hsz := CUR1.size
                have hb6 := CUR1.after hb5
                obtain ⟨⟨q0, q1, q2⟩, f0, f1, f2⟩ := res3 rfl hb6
                go_wp2
                obtain ⟨w6, e6, ⟨r0, r1, r2⟩, hp⟩ := FIN.out _ _ (HBD.out hok) w5 b1 b2 _ rfl hb6 (by first | omega | (simp at l1 hsz; omega)) (by first | omega | (simp at l2 hsz; omega)) hw5
                rw [e6]
                refine bodyPost_ret (v := .tuple #[.int .i64 0, .int .i64 0, .slice none 0 0, .agg #[.int .i64 8, .slice (some ⟨b1, 0, none⟩) 1 1, .slice (some ⟨b2, 0, none⟩) 1 1]]) (by simp [results, Tryd.results83, go_sem, r0, r1, r2]) rfl ?_
                exact hp
          · have hiff2 : okAt bs 3 = true ↔ (1 ≤ bs.getD 3 0 ∧ bs.getD 3 0 ≤ 4) := hiff
            clear hiff hbd
            have HX : Hid (bs.getD 3 0 = bs.getD 3 0) := rfl
            generalize hx : bs.getD 3 0 = x at c0 xb1 xb2 hiff2 HX
            have HX2 := Lib.hid hx; clear hx HX
            cases hok : okAt bs 3 with
            | true =>
              obtain ⟨y1, y2⟩ := hiff2.1 hok
              have HT2 := Lib.hid (HT.out hok)
              clear hiff2 hok
              go_wp2
              first | refine ⟨⟨_, _, _, _, ?rel, rfl, rfl, rfl, rfl⟩, ?measure⟩ | refine ⟨?rel, ?measure⟩ | go_roundw
              case rel => exact ⟨4, 0, a', c', xc, xa, xb, by omega, by go_num, by rw [HWN.out (by decide)], by rw [← HX2.out]; rfl, rfl, ⟨HD.out.own, CUR1, HT2.out, .inr ⟨by omega, by omega⟩, fun h => absurd h (by omega), fun h => absurd h (by omega)⟩⟩
              case measure => simp [intOf]; omega
            | false =>
              have y3 : ¬ (1 ≤ x ∧ x ≤ 4) := fun h => by rw [hiff2.2 h] at hok; cases hok
              clear hiff2
              rcases (by omega : x < 1 ∨ (1 ≤ x ∧ 4 < x)) with y1 | ⟨y1, y2⟩
              all_goals
                try (have yd : decide (x ≤ 4) = false := by simp; omega)
                clear y3
                go_wp2_with fail
                refine (rawNew_fresh _ _ _ _ rfl).mono ?_; rintro e w5 ⟨b1, b2, rfl, l1, l2, hw5, hb5⟩
                have hsz := CUR1.size
                have hb6 := CUR1.after hb5
                obtain ⟨⟨q0, q1, q2⟩, f0, f1, f2⟩ := res3 rfl hb6
                go_wp2
                obtain ⟨w6, e6, ⟨r0, r1, r2⟩, hp⟩ := FIN.out _ _ (HBD.out hok) w5 b1 b2 _ rfl hb6 (by first | omega | (simp at l1 hsz; omega)) (by first | omega | (simp at l2 hsz; omega)) hw5
                rw [e6]
                refine bodyPost_ret (v := .tuple #[.int .i64 0, .int .i64 0, .slice none 0 0, .agg #[.int .i64 8, .slice (some ⟨b1, 0, none⟩) 1 1, .slice (some ⟨b2, 0, none⟩) 1 1]]) (by simp [results, Tryd.results83, go_sem, r0, r1, r2]) rfl ?_
                exact hp
        · obtain ⟨hw1, hw2⟩ := hbd.1 (by omega)
          obtain ⟨hh1, hh2⟩ := hbd.2 (by omega)
          have ew : wv bs k = bW bs k := by unfold wv bW; rw [if_pos (by omega), if_pos (by omega), getD_in bs 2 1 (by omega)]
          have eh : hv bs k = bH bs k := by unfold hv bH; rw [if_pos (by omega), if_pos (by omega), getD_in bs 3 1 (by omega)]
          have HWN2 : Hid (wv bs (k + 1) = bW bs k) := by rw [HWN.out (by omega)]; exact ew
          have HHN2 : Hid (hv bs (k + 1) = bH bs k) := by rw [HHN.out (by omega)]; exact eh
          rw [ew, eh]
          clear ew eh HWN HHN hbd
          obtain ⟨M, hM, hM1, hM2⟩ : ∃ M, most (bH bs k) = M ∧ 8 ≤ M ∧ M ≤ 64 := ⟨_, rfl, by have := most_cases _ hh1 hh2; omega, by have := most_cases _ hh1 hh2; omega⟩
          have hmost : ∀ w : World, Calls Tryd.prog 109 #[.int .i64 (bH bs k)] w fun e w' => e = .returned (.int .i64 M) ∧ w = w' := fun w => by
            rw [← hM]
            exact (most_any (bH bs k) w hh1 hh2).mono fun e w' h => ⟨h.1, h.2.symm⟩
          have HMO := Lib.hid hmost; clear hmost
          have n0 : ((k : Int) == 0) = false := by simp; omega
          have n1 : ((k : Int) == 1) = false := by simp; omega
          have n2 : ((k : Int) == 2) = false := by simp; omega
          have n3 : ((k : Int) == 3) = false := by simp; omega
          have hpos : 4 + 3 * j ≤ k ∧ k ≤ 4 + 3 * j + 2 := by have := hD.pos; omega
          have hl := lim_ge4 (k : Int) (bW bs k) (bH bs k) (by omega)
          rw [hM] at hl
          clear hM
          have g3 : (3 : Int) < (k : Int) := by omega
          have hown := hD.own
          have hcur := hD.cur
          obtain ⟨⟨s0, s1, s2⟩, f0, f1, f2⟩ := hcur.cells
          have hzz := hcur.size
          have HP := Lib.hid hpos
          have HOK := Lib.hid hD.ok
          have hcol := hD.col
          have ha := hD.a
          have HBI : Hid (bs.getD k 0 = bs.getD k 0) := rfl
          clear hD
          rcases (by omega : k = 4 + 3 * j ∨ k = 4 + 3 * j + 1 ∨ k = 4 + 3 * j + 2) with e | e | e
          · have m0 : ((k : Int) % 3 == 0) = false := by simp; omega
            have m1 : ((k : Int) % 3 == 1) = true := by simp; omega
            have m2 : ((k : Int) % 3 == 2) = false := by simp; omega
            rw [if_pos (by omega)] at hl
            rw [hl] at hiff
            clear hl
            clear hcol ha
            have hjk : j ≤ k := by omega
            have E := Lib.hid e; clear e hpos
            generalize hx : bs.getD k 0 = x at c0 xb1 xb2 hiff HBI
            have HX := Lib.hid hx; clear hx HBI
            generalize bW bs k = ww at *
            generalize bH bs k = hh at *
            have CUR1 := hcur.set0 x
            have hcc := CUR1.cells
            have own1 : (wr.setCell ⟨W.heap.size + 1, 0, none⟩ (.int .i64 x)).ownsRow (W.heap.size + 2) 90 3 (.slice a' j c') j _ := own_set_other hown (own_ne hown) _
            obtain ⟨⟨t0, t1, t2⟩, _⟩ := hcc
            cases hok : okAt bs k with
            | true =>
              obtain ⟨y1, y2⟩ := hiff.1 hok
              have HT2 := Lib.hid (HT.out hok)
              clear hiff hok
              have y3 : x < ww := by omega
              go_wp2_with fail
              first | refine ⟨⟨_, _, _, _, ?rel, rfl, rfl, rfl, rfl⟩, ?measure⟩ | refine ⟨?rel, ?measure⟩ | go_roundw
              case rel => exact ⟨k + 1, j, a', c', x, xa, xb, by omega, by go_num, by rw [HWN2.out], by rw [HHN2.out], rfl, ⟨own1, CUR1, HT2.out, .inr (by have := E.out; omega), fun h => by rw [← HX.out, E.out], fun h => absurd h (by have := E.out; omega)⟩⟩
              case measure => simp [intOf]; omega
            | false =>
              have y3 : ¬ (0 ≤ x ∧ x ≤ ww - 1) := fun h => by rw [hiff.2 h] at hok; cases hok
              clear hiff
              have y4 : ww ≤ x := by omega
              have yd : decide (x < ww) = false := by simp; omega
              clear y3
              have CUR2 := CUR1
              go_wp2_with fail
              refine (rawNew_fresh _ _ _ _ rfl).mono ?_; rintro e w5 ⟨b1, b2, rfl, l1, l2, hw5, hb5⟩
              have hsz := CUR2.size
              have hb6 := CUR2.after hb5
              obtain ⟨⟨q0, q1, q2⟩, f0', f1', f2'⟩ := res3 rfl hb6
              go_wp2
              obtain ⟨w6, e6, ⟨r0, r1, r2⟩, hp⟩ := FIN.out _ _ (HBD.out hok) w5 b1 b2 _ rfl hb6 (by first | omega | (simp at l1 hsz; omega)) (by first | omega | (simp at l2 hsz; omega)) hw5
              rw [e6]
              refine bodyPost_ret (v := .tuple #[.int .i64 0, .int .i64 0, .slice none 0 0, .agg #[.int .i64 8, .slice (some ⟨b1, 0, none⟩) 1 1, .slice (some ⟨b2, 0, none⟩) 1 1]]) (by simp [results, Tryd.results83, go_sem, r0, r1, r2]) rfl ?_
              exact hp
          · have m0 : ((k : Int) % 3 == 0) = false := by simp; omega
            have m1 : ((k : Int) % 3 == 1) = false := by simp; omega
            have m2 : ((k : Int) % 3 == 2) = true := by simp; omega
            rw [if_neg (by omega)] at hl
            rw [hl] at hiff
            clear hl
            have hcol2 := hcol (by omega)
            clear hcol ha
            have hjk : j ≤ k := by omega
            have E := Lib.hid e; clear e hpos
            generalize hx : bs.getD k 0 = x at c0 xb1 xb2 hiff HBI
            have HX := Lib.hid hx; clear hx HBI
            generalize bW bs k = ww at *
            generalize bH bs k = hh at *
            have CUR1 := hcur.set1 x
            have hcc := CUR1.cells
            have own1 : (wr.setCell ⟨W.heap.size + 1, 1, none⟩ (.int .i64 x)).ownsRow (W.heap.size + 2) 90 3 (.slice a' j c') j _ := own_set_other hown (own_ne hown) _
            obtain ⟨⟨t0, t1, t2⟩, _⟩ := hcc
            cases hok : okAt bs k with
            | true =>
              obtain ⟨y1, y2⟩ := hiff.1 hok
              have HT2 := Lib.hid (HT.out hok)
              clear hiff hok
              have y3 : x < M := by omega
              go_wp2_with (first
                | (go_at_call 109; refine (HMO.out _).mono ?_; rintro e w' ⟨rfl, rfl⟩))
              first | refine ⟨⟨_, _, _, _, ?rel, rfl, rfl, rfl, rfl⟩, ?measure⟩ | refine ⟨?rel, ?measure⟩ | go_roundw
              case rel => exact ⟨k + 1, j, a', c', xc, x, xb, by omega, by go_num, by rw [HWN2.out], by rw [HHN2.out], rfl, ⟨own1, CUR1, HT2.out, .inr (by have := E.out; omega), fun h => hcol2, fun h => by rw [← HX.out, E.out]⟩⟩
              case measure => simp [intOf]; omega
            | false =>
              have y3 : ¬ (0 ≤ x ∧ x ≤ M - 1) := fun h => by rw [hiff.2 h] at hok; cases hok
              clear hiff
              have y4 : M ≤ x := by omega
              have yd : decide (x < M) = false := by simp; omega
              clear y3
              have CUR2 := CUR1
              go_wp2_with (first
                    | (go_at_call 109; refine (HMO.out _).mono ?_; rintro e w' ⟨rfl, rfl⟩))
              refine (rawNew_fresh _ _ _ _ rfl).mono ?_; rintro e w5 ⟨b1, b2, rfl, l1, l2, hw5, hb5⟩
              have hsz := CUR2.size
              have hb6 := CUR2.after hb5
              obtain ⟨⟨q0, q1, q2⟩, f0', f1', f2'⟩ := res3 rfl hb6
              go_wp2
              obtain ⟨w6, e6, ⟨r0, r1, r2⟩, hp⟩ := FIN.out _ _ (HBD.out hok) w5 b1 b2 _ rfl hb6 (by first | omega | (simp at l1 hsz; omega)) (by first | omega | (simp at l2 hsz; omega)) hw5
              rw [e6]
              refine bodyPost_ret (v := .tuple #[.int .i64 0, .int .i64 0, .slice none 0 0, .agg #[.int .i64 8, .slice (some ⟨b1, 0, none⟩) 1 1, .slice (some ⟨b2, 0, none⟩) 1 1]]) (by simp [results, Tryd.results83, go_sem, r0, r1, r2]) rfl ?_
              exact hp
          · have m0 : ((k : Int) % 3 == 0) = true := by simp; omega
            have m1 : ((k : Int) % 3 == 1) = false := by simp; omega
            have m2 : ((k : Int) % 3 == 2) = false := by simp; omega
            rw [if_neg (by omega)] at hl
            rw [hl] at hiff
            clear hl
            have hcol2 := hcol (by omega)
            have ha2 := ha (by omega)
            clear hcol ha
            have hjk : j ≤ k := by omega
            have E := Lib.hid e; clear e hpos
            generalize hx : bs.getD k 0 = x at c0 xb1 xb2 hiff HBI
            have HX := Lib.hid hx; clear hx HBI
            generalize bW bs k = ww at *
            generalize bH bs k = hh at *
            have CUR1 := hcur.set2 x
            have hcc := CUR1.cells
            have own1 : (wr.setCell ⟨W.heap.size + 1, 2, none⟩ (.int .i64 x)).ownsRow (W.heap.size + 2) 90 3 (.slice a' j c') j _ := own_set_other hown (own_ne hown) _
            obtain ⟨⟨t0, t1, t2⟩, _⟩ := hcc
            cases hok : okAt bs k with
            | true =>
              obtain ⟨y1, y2⟩ := hiff.1 hok
              have HT2 := Lib.hid (HT.out hok)
              clear hiff hok
              have y3 : x < M := by omega
              go_wp2_with (first
                | (go_at_call 109; refine (HMO.out _).mono ?_; rintro e w' ⟨rfl, rfl⟩)
                | (at_builtin; refine apl rfl _ _ _ rfl (W.heap.size + 2) et_ent _ j _ own1 rfl 1 wr.heap.size _ rfl (by simp [World.setCell]) rfl rfl (by unfold maxLen; omega) (by omega) (by simp [World.setCell]; omega) ?_; intro a6 c6 w6 h6))
              first | refine ⟨⟨_, _, _, _, ?rel, rfl, rfl, rfl, rfl⟩, ?measure⟩ | refine ⟨?rel, ?measure⟩ | go_roundw
              case rel =>
                have hsn := entsOf_snoc (bs.drop 4) j (by simp; have := E.out; omega)
                refine ⟨k + 1, j + 1, a6, c6, xc, xa, x, by omega, by go_num, by rw [HWN2.out], by rw [HHN2.out], rfl, ⟨?_, CUR1.up h6.below, HT2.out, .inr (by have := E.out; omega), fun h => absurd h (by have := E.out; omega), fun h => absurd h (by have := E.out; omega)⟩⟩
                rw [show 3 * (j + 1) = 3 * j + 3 from by omega, hsn, entsC_snoc]
                have e0 : (bs.drop 4).getD (3 * j) 0 = bs[4 + 3 * j]?.getD 0 := by simp [List.getD_eq_getElem?_getD]
                have e1 : (bs.drop 4).getD (3 * j + 1) 0 = bs[4 + 3 * j + 1]?.getD 0 := by simp [List.getD_eq_getElem?_getD, Nat.add_assoc]
                have e2 : (bs.drop 4).getD (3 * j + 2) 0 = x := by rw [← HX.out, E.out]; simp [List.getD_eq_getElem?_getD, Nat.add_assoc]
                rw [e0, e1, e2]
                exact h6.own
              case measure => simp [intOf]; omega
            | false =>
              have y3 : ¬ (0 ≤ x ∧ x ≤ M - 1) := fun h => by rw [hiff.2 h] at hok; cases hok
              clear hiff
              have y4 : M ≤ x := by omega
              have yd : decide (x < M) = false := by simp; omega
              clear y3
              go_wp2_with (first
                    | (go_at_call 109; refine (HMO.out _).mono ?_; rintro e w' ⟨rfl, rfl⟩)
                    | (at_builtin; refine apl rfl _ _ _ rfl (W.heap.size + 2) et_ent _ j _ own1 rfl 1 wr.heap.size _ rfl (by simp [World.setCell]) rfl rfl (by unfold maxLen; omega) (by omega) (by simp [World.setCell]; omega) ?_; intro a6 c6 w6 h6))
              refine (rawNew_fresh _ _ _ _ rfl).mono ?_; rintro e w5 ⟨b1, b2, rfl, l1, l2, hw5, hb5⟩
              have CUR2 := CUR1.up h6.below
              have hsz := CUR2.size
              have hb6 := CUR2.after hb5
              obtain ⟨⟨q0, q1, q2⟩, f0', f1', f2'⟩ := res3 rfl hb6
              go_wp2
              obtain ⟨w6, e6, ⟨r0, r1, r2⟩, hp⟩ := FIN.out _ _ (HBD.out hok) w5 b1 b2 _ rfl hb6 (by first | omega | (simp at l1 hsz; omega)) (by first | omega | (simp at l2 hsz; omega)) hw5
              rw [e6]
              refine bodyPost_ret (v := .tuple #[.int .i64 0, .int .i64 0, .slice none 0 0, .agg #[.int .i64 8, .slice (some ⟨b1, 0, none⟩) 1 1, .slice (some ⟨b2, 0, none⟩) 1 1]]) (by simp [results, Tryd.results83, go_sem, r0, r1, r2]) rfl ?_
              exact hp
      · obtain rfl : k = bs.length := by omega
        have hfb := firstBad_none hD.ok
        have HD : Hid (decF bs = if bs.length < 4 ∨ ¬ ((bs.length : Int) - 4) % 3 = 0 then .error (bs.length, 8) else .ok (bs.getD 2 1, bs.getD 3 1, entsOf (bs.drop 4))) := by
          unfold decF; rw [if_neg hbig, hfb]; rfl
        have CUR1 := hD.cur
        have hown := hD.own
        have hpos := hD.pos
        clear hD hfb
        by_cases hgood : bs.length < 4 ∨ ¬ ((bs.length : Int) - 4) % 3 = 0
        · have hbadF := HD.out
          rw [if_pos hgood] at hbadF
          have HBF := Lib.hid hbadF; clear hbadF HD
          have t1 : bs.length < 4 ∨ ((bs.length : Int) % 3 != 1) = true := by
            rcases hgood with h | h
            · exact .inl h
            · exact .inr (by simp; omega)
          clear hgood hpos
          by_cases hk4 : bs.length < 4
          all_goals
            first
              | (have tt := t1.resolve_left hk4; clear t1)
              | clear t1
            go_wp2_with fail
            refine (rawNew_fresh _ _ _ _ rfl).mono ?_; rintro e w5 ⟨b1, b2, rfl, l1, l2, hw5, hb5⟩
            have hsz := CUR1.size
            have hb6 := CUR1.after hb5
            obtain ⟨⟨q0, q1, q2⟩, f0, f1, f2⟩ := res3 rfl hb6
            go_wp2
            obtain ⟨w6, e6, ⟨r0, r1, r2⟩, hp⟩ := FIN.out _ _ HBF.out w5 b1 b2 _ rfl hb6 (by omega) (by omega) hw5
            rw [e6]
            refine bodyPost_ret (v := .tuple #[.int .i64 0, .int .i64 0, .slice none 0 0, .agg #[.int .i64 8, .slice (some ⟨b1, 0, none⟩) 1 1, .slice (some ⟨b2, 0, none⟩) 1 1]]) (by simp [results, Tryd.results83, go_sem, r0, r1, r2]) rfl ?_
            exact hp
        · have hokF := HD.out
          rw [if_neg hgood] at hokF
          have h4 : 4 ≤ bs.length := by omega
          have t1 : ((bs.length : Int) % 3 != 1) = false := by simp; omega
          have hjl : 4 + 3 * j = bs.length := by omega
          have ew : wv bs bs.length = bs.getD 2 1 := by unfold wv; rw [if_pos (by omega), getD_in bs 2 1 (by omega)]
          have eh : hv bs bs.length = bs.getD 3 1 := by unfold hv; rw [if_pos (by omega), getD_in bs 3 1 (by omega)]
          have el : (bs.drop 4).take (3 * j) = bs.drop 4 := List.take_of_length_le (by simp; omega)
          have ej : (entsOf (bs.drop 4)).length = j := entsOf_len j _ (by simp; omega)
          rw [el] at hown
          rw [ew, eh]
          have HOF := Lib.hid hokF
          have EJ := Lib.hid ej
          clear HD hgood hpos hokF ew eh el ej hjl
          generalize entsOf (bs.drop 4) = es at *
          have hb6 : Below (resW W).heap.size (resW W) wr := CUR1.after (bnil _)
          obtain ⟨⟨q0, q1, q2⟩, f0, f1, f2⟩ := res3 rfl hb6
          go_wp2
          obtain ⟨w6, e6, ⟨r0, r1, r2⟩, bel, hk6, hs6⟩ := res3_set (u0 := .int .i64 0) (u1 := .slice none 0 0) (u2 := .slice none 0 0) rfl hb6
          rw [e6]
          refine bodyPost_ret (v := .tuple #[.int .i64 (bs.getD 2 1), .int .i64 (bs.getD 3 1), .slice a' j c', .agg #[.int .i64 0, .slice none 0 0, .slice none 0 0]]) (by simp [results, Tryd.results83, go_sem, r0, r1, r2]) rfl ?_
          refine ⟨bel, _, _, _, _, _, _, _, _, _, _, _, _, rfl, (fr_own hown).base (by omega), fr_none, fr_none, ?_⟩
          rw [HOF.out]
          refine ⟨rfl, rfl, EJ.out.symm, ?_, errVal_none _⟩
          rw [EJ.out]
          have hrd := (owns_rd hown).2
          by_cases h0 : j = 0
          · exact ⟨hrd.1, .inl h0⟩
          · obtain ⟨g, rfl, hg1, _⟩ := own_form hown (by omega)
            exact hrd.other hk6 hs6 (by omega)
end Go.Proofs.YtoaooblodgejdaaDoor
