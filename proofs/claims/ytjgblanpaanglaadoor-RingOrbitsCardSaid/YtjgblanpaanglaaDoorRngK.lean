/- ring.key: a ring's text. -/
import Derived.Test.YtjgblanpaanglaaDoorRngW
import Derived.Test.YtjgblanpaanglaaDoorBldS
namespace Go.Proofs.YtjgblanpaanglaaDoor
open Go.RowKit
set_option linter.unusedVariables false
set_option maxRecDepth 100000

def keyB (wl : List Int) : List UInt8 := wl.map fun x => UInt8.ofNat (48 + x.toNat)
def keyS (wl : List Int) : ByteArray := ⟨(keyB wl).toArray⟩
theorem dec_one {i : Nat} (h : i < 10) : Lib.decDigits i = [UInt8.ofNat (48 + i)] := by
  unfold Lib.decDigits
  rw [dif_pos h]
theorem strCells_list (l : List UInt8) : Lib.strCells ⟨l.toArray⟩ = Lib.byteCells l := by simp [Lib.strCells, Lib.byteCells]
theorem keyB_inj : ∀ {l v : List Int}, (∀ x ∈ l, 0 ≤ x ∧ x < 10) → (∀ x ∈ v, 0 ≤ x ∧ x < 10) → keyB l = keyB v → l = v
  | [], [], _, _, _ => rfl
  | [], y :: s, _, _, e => by simp [keyB] at e
  | x :: r, [], _, _, e => by simp [keyB] at e
  | x :: r, y :: s, h1, h2, e => by
    have hx := h1 x (List.mem_cons_self ..)
    have hy := h2 y (List.mem_cons_self ..)
    simp only [keyB, List.map_cons, List.cons.injEq] at e
    obtain ⟨e1, e2⟩ := e
    have ih := keyB_inj (fun z hz => h1 z (List.mem_cons_of_mem _ hz)) (fun z hz => h2 z (List.mem_cons_of_mem _ hz)) e2
    have e3 := congrArg UInt8.toNat e1
    simp only [UInt8.toNat_ofNat'] at e3
    have e4 : x = y := by omega
    rw [e4, ih]
set_option maxHeartbeats 8000000 in
theorem key_any (aw : Option Addr) (nw cw : Nat) (wl : List Int) (W : World) (hW : RK .i64 W aw nw wl) (hs : ∀ x ∈ wl, 0 ≤ x ∧ x < 10) (hn : nw ≤ 4096) :
    Calls Tryd.prog 44 #[.slice aw nw cw] W fun e w' => e = .returned (.string (keyS wl)) ∧ Below W.heap.size W w' := by
  have HW := Lib.hid hW
  have HL := Lib.hid hW.len
  have HS := Lib.hid hs
  have HB0 : Hid (Bld W.heap.size W.heap.size [] (W.alloc (.cells #[.pointer none, .slice none 0 0] 90))) := bld_new rfl (Nat.le_refl _)
  have HX0 : Hid (Below W.heap.size W (W.alloc (.cells #[.pointer none, .slice none 0 0] 90))) := balloc (bnil W) _
  clear hW hs
  go_enter Tryd.func44, Tryd.ntmps44
  go_wp2_with fail
  go_loopw [8] (fun ix wr => ∃ i : Nat, i ≤ nw ∧ ix = .int .i64 (i : Nat) ∧ Bld W.heap.size W.heap.size (Lib.byteCells (keyB (wl.take i))) wr ∧ Below W.heap.size W wr) (fun ix _ => nw - (intOf ix).toNat)
  case atStart => exact ⟨0, by omega, rfl, HB0.out, HX0.out⟩
  case round =>
    obtain ⟨i, hi, rfl, hbl, hb⟩ := hrel
    have HBL := Lib.hid hbl
    have HB := Lib.hid hb
    clear hbl hb
    by_cases hin : i < nw
    · obtain ⟨b, o, rfl, _, hcell⟩ := (HW.out.up HB.out).addr (by omega)
      have z0 := hcell i hin
      have hxm : wl.getD i 0 ∈ wl := by
        have := HL.out
        rw [show wl.getD i 0 = wl[i] by simp [show i < wl.length by omega]]
        exact List.getElem_mem _
      have hx := HS.out _ hxm
      have htk : wl.take (i + 1) = wl.take i ++ [wl.getD i 0] := by
        have := HL.out
        rw [List.take_succ_eq_append_getElem (by omega), show wl.getD i 0 = wl[i] by simp [show i < wl.length by omega]]
      obtain ⟨x, hxx⟩ : ∃ x : Nat, wl.getD i 0 = (x : Int) := ⟨(wl.getD i 0).toNat, by omega⟩
      rw [hxx] at z0 hx htk
      have hx9 : x < 10 := by omega
      have HTK := Lib.hid htk
      obtain ⟨tx, htx⟩ : ∃ tx : ByteArray, (⟨(Lib.decDigits x).toArray⟩ : ByteArray) = tx := ⟨_, rfl⟩
      have htz : tx = ⟨#[UInt8.ofNat (48 + x)]⟩ := by rw [← htx, dec_one hx9]
      have HTX := Lib.hid htx
      have HTZ := Lib.hid htz
      clear htx htz
      have i0 : (0 : Int) ≤ (i : Int) := by omega
      have i1 : (i : Int) < (nw : Int) := by omega
      clear hcell hxm hxx htk hx
      go_wp2_with fail
      refine (Tryd.strconv_Itoa_small x (by omega) _).mono ?_; rintro e w1 ⟨rfl, rfl⟩
      rw [HTX.out]
      go_wp2_with fail
      refine (bld_writeS W.heap.size W.heap.size (Lib.byteCells (keyB (wl.take i))) tx _ HBL.out (by rw [HTZ.out]; have := HL.out; simp [Lib.byteCells, keyB, ByteArray.size]; omega) (by rw [HTZ.out]; simp [ByteArray.size]) HB.out.size).mono ?_; rintro e w2 ⟨⟨m, rfl⟩, hbl2, hb2⟩
      rw [HTZ.out] at hbl2
      have HL2 : Hid (Bld W.heap.size W.heap.size (Lib.byteCells (keyB (wl.take (i + 1)))) w2) := by
        show Bld _ _ _ _
        rw [HTK.out]
        have e : Lib.byteCells (keyB (wl.take i ++ [(x : Int)])) = Lib.byteCells (keyB (wl.take i)) ++ Lib.strCells ⟨#[UInt8.ofNat (48 + x)]⟩ := by simp [Lib.byteCells, keyB, Lib.strCells]
        rw [e]
        exact hbl2
      have HB2 := Lib.hid (HB.out.trans hb2)
      clear hbl2 hb2
      go_wp2
      go_roundw
      case rel => exact ⟨i + 1, by omega, by go_num, HL2.out, HB2.out⟩
      case measure => simp [intOf]; omega
    · obtain rfl : nw = i := by omega
      have i2 : ¬ (nw : Int) < (nw : Int) := by omega
      have hbl := HBL.out
      rw [List.take_of_length_le (by have := HL.out; omega)] at hbl
      have HBZ := Lib.hid hbl
      clear hbl
      go_wp2_with fail
      refine (bld_string W.heap.size W.heap.size (keyB wl) _ HBZ.out HB.out.size).mono ?_; rintro e w3 ⟨rfl, hb3⟩
      go_wp2
      go_ret
      exact ⟨rfl, HB.out.trans hb3⟩
end Go.Proofs.YtjgblanpaanglaaDoor
