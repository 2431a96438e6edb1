/- The contracts of word.Text, word.Parse. -/
import Derived.Test.YtnmegpplfbkpcaaDoorWordB
import Derived.WalkKit
import Derived.Lib.Hide
namespace Go.Proofs.YtnmegpplfbkpcaaDoor
open Go.RowKit
set_option linter.unusedVariables false
set_option maxRecDepth 100000

/-- a text's bytes as numbers -/
def sB (s : ByteArray) : List Int := s.data.toList.map fun c => (c.toNat : Int)
theorem sB_len (s : ByteArray) : (sB s).length = s.size := by simp [sB]
theorem sB_at (s : ByteArray) (k : Nat) (h : k < s.size) : (sB s).getD k 0 = (s[k].toNat : Int) := by
  have h2 : k < s.data.toList.length := by simpa using h
  simp [sB, List.getD_eq_getElem?_getD, List.getElem?_map, List.getElem?_eq_getElem h2]
  rfl
theorem sB_bd (s : ByteArray) : ∀ x ∈ sB s, 0 ≤ x ∧ x ≤ 255 := by
  intro x hx
  obtain ⟨c, _, rfl⟩ := List.mem_map.1 hx
  have := c.toNat_lt
  omega
theorem strOf_sB (s : ByteArray) : strOfNums (sB s) = s := by
  apply ByteArray.ext
  apply Array.ext'
  rw [strOfNums_data, sB, List.map_map]
  refine (List.map_congr_left fun c _ => ?_).trans (List.map_id _)
  simp

/-- a word's text -/
def textL (l : List Int) : List Int := l.map fun x => 48 + x
theorem textL_len (l : List Int) : (textL l).length = l.length := by simp [textL]
theorem textL_snoc (l : List Int) (k : Nat) (hk : k < l.length) : (textL (l.take (k + 1))).map (Value.int .u8) = (textL (l.take k)).map (Value.int .u8) ++ (#[Value.int .u8 (48 + l.getD k 0)] : Array Value).toList := by
  have e : l.take (k + 1) = l.take k ++ [l.getD k 0] := by rw [List.take_succ_eq_append_getElem hk]; simp [hk]
  rw [e]
  simp only [textL, List.map_append, List.map_cons, List.map_nil]

set_option maxHeartbeats 2000000 in
theorem text_ok (k : Int) (a : Option Addr) (n c : Nat) (l : List Int) (W : World) (R : Nat → Addr) (hG : Glob W R) (hR : RK .i64 W a n l) (hm : n ≤ maxLen) (he : chkErr k l = none) :
    Calls Tryd.prog 52 #[.int .i64 k, .slice a n c] W fun e w' => e = .returned (.tuple #[.string (strOfNums (textL l)), .nilIface]) ∧ Below W.heap.size W w' := by
  have hlen := hR.len
  obtain ⟨k1, k2, h4096, hall⟩ := chk_none he
  have hn : n ≤ 4096 := by omega
  have HL := Lib.hid hlen; clear hlen
  have HALL := Lib.hid hall; clear hall
  have HE := Lib.hid he; clear he
  have HG := Lib.hid hG; clear hG
  have HR := Lib.hid hR; clear hR
  go_enter Tryd.func52, Tryd.ntmps52
  go_wp2_with fail
  refine (check_ok k a n c l _ R HG.out HR.out hm HE.out).mono ?_; rintro e w1 ⟨rfl, hb1⟩
  go_wp2_with (first
    | (at_make; refine mk_cap rfl _ _ _ rfl w1.heap.size et_u8 .i64 .i64 _ n rfl rfl rfl (by omega) (by unfold maxLen; omega) (Nat.le_refl _) ?_; intro w2 hown2 hb2 hsz2))
  go_loopw [7, 21] (fun v i wr => ∃ (j : Nat) (a' : Option Addr) (c' : Nat), j ≤ n ∧ i = .int .i64 j ∧ v = .slice a' j c' ∧ wr.ownsRow w1.heap.size 5 1 (.slice a' j c') j ((textL (l.take j)).map (Value.int .u8)) ∧ Below w1.heap.size w1 wr) (fun _ i _ => n - (intOf i).toNat)
  case atStart => exact ⟨0, _, _, by omega, rfl, rfl, by simpa [textL] using hown2, hb2⟩
  case round =>
    obtain ⟨j, a', c', hj, rfl, rfl, hown, hb⟩ := hrel
    by_cases hlt : j < n
    · obtain ⟨b, o, rfl, hbo, hc⟩ := (HR.out.up (hb1.trans (hb.mono hb1.size))).addr (by omega)
      have x0 := hc j hlt
      clear hc
      have i0 : (0 : Int) ≤ (j : Int) := by omega
      have i1 : (j : Int) < (n : Int) := by omega
      have HS := Lib.hid (textL_snoc l j (by have := HL.out; omega))
      have hz : 0 ≤ l.getD j 0 ∧ l.getD j 0 < k := HALL.out _ (by have := HL.out; simp [show j < l.length by omega])
      generalize l.getD j 0 = z at *
      have hz4 : z = 0 ∨ z = 1 ∨ z = 2 ∨ z = 3 := by omega
      have hsz := hb.size
      rcases hz4 with rfl | rfl | rfl | rfl
      all_goals
        go_wp2_with (first
          | (at_builtin; refine apl rfl _ _ _ rfl w1.heap.size et_u8 _ _ _ hown rfl 1 _ _ rfl rfl rfl rfl (by unfold maxLen; omega) (by omega) hsz ?_; intro a5 c5 w5 h5))
        go_roundw
        case rel =>
          refine ⟨j + 1, a5, c5, by omega, by go_num, rfl, ?_, hb.trans h5.below⟩
          rw [HS.out]; exact h5.own
        case measure => simp [intOf]; omega
    · obtain rfl : j = n := by omega
      have et : l.take j = l := List.take_of_length_le (by have := HL.out; omega)
      rw [et] at hown
      clear et
      have cv := conv_str (c := c') Tryd.underlying121 Tryd.underlying5 Tryd.underlying9 (owns_rd hown).2
      clear hown
      go_wp2
      go_ret2
      exact ⟨rfl, hb1.trans (hb.mono hb1.size)⟩

set_option maxHeartbeats 1000000 in
theorem text_err (k : Int) (a : Option Addr) (n c : Nat) (l : List Int) (W : World) (R : Nat → Addr) (hG : Glob W R) (hR : RK .i64 W a n l) (hm : n ≤ maxLen) (x : Int × Int) (he : chkErr k l = some x) :
    Calls Tryd.prog 52 #[.int .i64 k, .slice a n c] W fun e w' => ∃ g, e = .returned (.tuple #[.string ByteArray.empty, .iface 100 (.pointer (some ⟨g, 0, none⟩))]) ∧ IsErr W.heap.size R w' (.iface 100 (.pointer (some ⟨g, 0, none⟩))) opWord x.1 x.2 ∧ Below W.heap.size W w' := by
  have HE := Lib.hid he; clear he
  have HG := Lib.hid hG; clear hG
  have HR := Lib.hid hR; clear hR
  go_enter Tryd.func52, Tryd.ntmps52
  go_wp2_with fail
  refine (check_err k a n c l _ R HG.out HR.out hm x HE.out).mono ?_; rintro e w1 ⟨g, rfl, he1, hb1⟩
  have HE1 := Lib.hid he1; clear he1
  go_wp2
  go_ret2
  exact ⟨g, rfl, HE1.out, hb1⟩

/-! ### Parse -/
def parBad (k x : Int) : Bool := badB k (x - 48)
def parErr (k : Int) (s : ByteArray) : Option (Int × Int) :=
  if alphB k = false then some (0, 3) else if 4096 < s.size then some (0, 4) else if 0 ≤ idxI (parBad k) (sB s) then some (idxI (parBad k) (sB s), 6) else none
def parL (s : ByteArray) : List Int := (sB s).map fun x => x - 48
theorem par_none {k : Int} {s : ByteArray} (h : parErr k s = none) : 1 ≤ k ∧ k ≤ 4 ∧ s.size ≤ 4096 ∧ ∀ x ∈ parL s, 0 ≤ x ∧ x < k := by
  unfold parErr at h
  split at h
  · cases h
  split at h
  · cases h
  split at h
  · cases h
  rename_i h1 h2 h3
  have := alph_true.1 (by simpa using h1)
  refine ⟨this.1, this.2, by omega, fun x hx => ?_⟩
  obtain ⟨y, hy, rfl⟩ := List.mem_map.1 hx
  exact badB_false.1 (idxI_neg h3 y hy)
theorem parL_len (s : ByteArray) : (parL s).length = s.size := by simp [parL, sB_len]
theorem parL_snoc (s : ByteArray) (j : Nat) (hj : j < s.size) : ((parL s).take (j + 1)).map (Value.int .i64) = ((parL s).take j).map (Value.int .i64) ++ (#[Value.int .i64 ((s[j].toNat : Int) - 48)] : Array Value).toList := by
  rw [List.take_succ_eq_append_getElem (by rw [parL_len]; exact hj)]
  have := sB_at s j hj
  simp [parL]
  simp [List.getD_eq_getElem?_getD, show j < (sB s).length from by rw [sB_len]; exact hj] at this
  exact this

set_option maxHeartbeats 2000000 in
theorem parse_ok (k : Int) (s : ByteArray) (W : World) (R : Nat → Addr) (he : parErr k s = none) :
    Calls Tryd.prog 40 #[.int .i64 k, .string s] W fun e w' => ∃ a c, e = .returned (.tuple #[.slice a s.size c, .nilIface]) ∧ w'.ownsRow W.heap.size 3 1 (.slice a s.size c) s.size ((parL s).map (Value.int .i64)) ∧ Below W.heap.size W w' := by
  obtain ⟨k1, k2, h4096, hall⟩ := par_none he
  have HA : Hid (alphB k = true) := alph_true.2 ⟨k1, k2⟩
  have HALL := Lib.hid hall; clear hall
  have HE := Lib.hid he; clear he
  go_enter Tryd.func40, Tryd.ntmps40
  go_wp2_with fail
  refine (alph_any k _).mono ?_; rintro e w' ⟨rfl, rfl⟩
  rw [HA.out]
  go_wp2_with (first
    | (at_make; refine mk_cap rfl _ _ _ rfl W.heap.size et_int .i64 .i64 _ s.size rfl rfl rfl (by omega) (by unfold maxLen; omega) (Nat.le_refl _) ?_; intro w2 hown2 hb2 hsz2))
  go_loopw [6, 24] (fun v i wr => ∃ (j : Nat) (a' : Option Addr) (c' : Nat), j ≤ s.size ∧ i = .int .i64 j ∧ v = .slice a' j c' ∧ wr.ownsRow W.heap.size 3 1 (.slice a' j c') j (((parL s).take j).map (Value.int .i64)) ∧ Below W.heap.size W wr) (fun _ i _ => s.size - (intOf i).toNat)
  case atStart => exact ⟨0, _, _, by omega, rfl, rfl, by simpa using hown2, hb2⟩
  case round =>
    obtain ⟨j, a', c', hj, rfl, rfl, hown, hb⟩ := hrel
    by_cases hlt : j < s.size
    · have HS := Lib.hid (parL_snoc s j hlt)
      have hz : 0 ≤ (s[j].toNat : Int) - 48 ∧ (s[j].toNat : Int) - 48 < k := HALL.out _ (by
        have h2 := sB_at s j hlt
        have h3 : j < (sB s).length := by rw [sB_len]; exact hlt
        simp [List.getD_eq_getElem?_getD, h3] at h2
        exact List.mem_map.2 ⟨(sB s)[j], List.getElem_mem h3, by rw [h2]⟩)
      obtain ⟨z1, z2⟩ := hz
      have z3 : (s[j].toNat : Int) ≤ 255 := by have := s[j].toNat_lt; omega
      have hsz := hb.size
      go_wp2_with (first
        | (at_builtin; refine apl rfl _ _ _ rfl W.heap.size et_int _ _ _ hown rfl 1 _ _ rfl rfl rfl rfl (by unfold maxLen; omega) (by omega) hsz ?_; intro a5 c5 w5 h5))
      go_roundw
      case rel =>
        refine ⟨j + 1, a5, c5, by omega, by go_num, rfl, ?_, hb.trans h5.below⟩
        rw [HS.out]; exact h5.own
      case measure => simp [intOf]; omega
    · obtain rfl : j = s.size := by omega
      have et : (parL s).take s.size = parL s := List.take_of_length_le (by rw [parL_len]; omega)
      rw [et] at hown
      clear et
      go_wp2
      go_ret2
      exact ⟨a', c', rfl, hown, hb⟩

set_option maxHeartbeats 2000000 in
theorem parse_err (k : Int) (s : ByteArray) (W : World) (R : Nat → Addr) (hG : Glob W R) (hs : s.size ≤ maxLen) (x : Int × Int) (he : parErr k s = some x) :
    Calls Tryd.prog 40 #[.int .i64 k, .string s] W fun e w' => ∃ g, e = .returned (.tuple #[.slice none 0 0, .iface 100 (.pointer (some ⟨g, 0, none⟩))]) ∧ IsErr W.heap.size R w' (.iface 100 (.pointer (some ⟨g, 0, none⟩))) opWord x.1 x.2 ∧ Below W.heap.size W w' := by
  have hs' : s.size ≤ 9223372036854775807 := hs
  have HG := Lib.hid hG; clear hG
  unfold parErr at he
  split at he
  · rename_i ha
    cases he
    have HA := Lib.hid ha; clear ha
    go_enter Tryd.func40, Tryd.ntmps40
    go_wp2_with fail
    refine (alph_any k _).mono ?_; rintro e w' ⟨rfl, rfl⟩
    rw [HA.out]
    go_wp2_with fail
    refine (word_wrong _ _ _ R HG.out rfl).mono ?_; rintro e w' ⟨rfl, rfl⟩
    go_wp2
    go_ret2
    exact ⟨_, rfl, isErr_new (Nat.le_refl _), balloc (bnil W) _⟩
  split at he
  · rename_i ha hbig
    cases he
    have HA : Hid (alphB k = true) := Lib.hid (by simpa using ha)
    clear ha
    go_enter Tryd.func40, Tryd.ntmps40
    go_wp2_with fail
    refine (alph_any k _).mono ?_; rintro e w' ⟨rfl, rfl⟩
    rw [HA.out]
    go_wp2_with fail
    refine (word_wrong _ _ _ R HG.out rfl).mono ?_; rintro e w' ⟨rfl, rfl⟩
    go_wp2
    go_ret2
    exact ⟨_, rfl, isErr_new (Nat.le_refl _), balloc (bnil W) _⟩
  split at he
  · rename_i ha hbig h0
    cases he
    have HA : Hid (alphB k = true) := Lib.hid (by simpa using ha)
    clear ha
    obtain ⟨i, hi⟩ : ∃ i : Nat, (sB s).findIdx? (parBad k) = some i := by
      unfold idxI at h0
      split at h0
      · exact ⟨_, by assumption⟩
      · omega
    have hI : idxI (parBad k) (sB s) = (i : Int) := by unfold idxI; rw [hi]
    rw [hI]
    rw [List.findIdx?_eq_some_iff_getElem] at hi
    obtain ⟨hlt0, hbad, hall⟩ := hi
    have hil : i < s.size := by rw [sB_len] at hlt0; exact hlt0
    have hall2 : ∀ (j : Nat) (hj : j < s.size), j < i → 0 ≤ (s[j].toNat : Int) - 48 ∧ (s[j].toNat : Int) - 48 < k := by
      intro j hj hji
      have h1 := hall j hji
      have h2 := sB_at s j hj
      have h3 : j < (sB s).length := by rw [sB_len]; exact hj
      simp [List.getD_eq_getElem?_getD, h3] at h2
      rw [h2] at h1
      exact badB_false.1 (by simpa [parBad] using h1)
    have hbad2 : (s[i].toNat : Int) < 48 ∨ (48 ≤ (s[i].toNat : Int) ∧ k ≤ (s[i].toNat : Int) - 48) := by
      have h2 := sB_at s i hil
      simp [List.getD_eq_getElem?_getD, hlt0] at h2
      rw [h2] at hbad
      have := badB_true.1 (show badB k ((s[i].toNat : Int) - 48) = true by simpa [parBad] using hbad)
      omega
    have HALL := Lib.hid hall2
    have HBAD := Lib.hid hbad2
    have hbig2 : s.size ≤ 4096 := by omega
    clear h0 hI hlt0 hbad hall hall2 hbad2 hbig
    go_enter Tryd.func40, Tryd.ntmps40
    go_wp2_with fail
    refine (alph_any k _).mono ?_; rintro e w' ⟨rfl, rfl⟩
    rw [HA.out]
    go_wp2_with (first
      | (at_make; refine mk_cap rfl _ _ _ rfl W.heap.size et_int .i64 .i64 _ s.size rfl rfl rfl (by omega) (by unfold maxLen; omega) (Nat.le_refl _) ?_; intro w2 hown2 hb2 hsz2))
    go_loopw [6, 24] (fun v ix wr => ∃ (j : Nat) (a' : Option Addr) (c' : Nat) (xs : List Value), j ≤ i ∧ ix = .int .i64 j ∧ v = .slice a' j c' ∧ wr.ownsRow W.heap.size 3 1 (.slice a' j c') j xs ∧ Below W.heap.size W wr) (fun _ ix _ => s.size - (intOf ix).toNat)
    case atStart => exact ⟨0, _, _, _, by omega, rfl, rfl, hown2, hb2⟩
    case round =>
      obtain ⟨j, a', c', xs, hj, rfl, rfl, hown, hb⟩ := hrel
      have hsz := hb.size
      have z3 : (s[j].toNat : Int) ≤ 255 := by have := s[j].toNat_lt; omega
      by_cases hlt : j < i
      · have hjs : j < s.size := by omega
        obtain ⟨z1, z2⟩ := HALL.out j hjs hlt
        go_wp2_with (first
          | (at_builtin; refine apl rfl _ _ _ rfl W.heap.size et_int _ _ _ hown rfl 1 _ _ rfl rfl rfl rfl (by unfold maxLen; omega) (by omega) hsz ?_; intro a5 c5 w5 h5))
        go_roundw
        case rel => exact ⟨j + 1, a5, c5, _, by omega, by go_num, rfl, h5.own, hb.trans h5.below⟩
        case measure => simp [intOf]; omega
      · obtain rfl : j = i := by omega
        have hbd := HBAD.out
        rcases hbd with hz | ⟨hz1, hz2⟩
        all_goals
          go_wp2_with fail
          refine (word_wrong _ _ _ R (HG.out.up hb) rfl).mono ?_; rintro e w' ⟨rfl, rfl⟩
          go_wp2
          go_ret2
          exact ⟨_, rfl, isErr_new hsz, balloc hb _⟩
  · cases he
end Go.Proofs.YtnmegpplfbkpcaaDoor
