/- edenref01.Faults; edenlaw01.few, built. -/
import Derived.Test.YtckipboebllkhaaDoorFChC
import Derived.Deep.Cut
namespace Go.Proofs.YtckipboebllkhaaDoor
open Go.RowKit Go.Extern.Stop Go.Stop Go.Extern
set_option linter.unusedVariables false
set_option maxRecDepth 100000

theorem et_flt : ET Tryd.prog 44 52 (.agg #[.string ByteArray.empty, .int .i64 0]) 2 24 := ⟨Tryd.underlying44, info_parts (by kernel_rfl), rfl, by decide⟩
theorem et_err : ET Tryd.prog 42 26 .nilIface 1 16 := ⟨Tryd.underlying42, info_parts (by kernel_rfl), rfl, by decide⟩
def fltC (l : List (ByteArray × Int)) : List Value := l.flatMap fun x => [.string x.1, .int .i64 x.2]
theorem fltC_app (a b : List (ByteArray × Int)) : fltC (a ++ b) = fltC a ++ fltC b := by simp [fltC]
set_option maxHeartbeats 8000000 in
theorem refFaults_any (R E : Nat → Addr) (s : Option Addr) (n c i0 : Nat) (N : Nat → Nd) (hn : n ≤ 12) (hi0 : i0 < n) (W : World) (h : NdR W s n N) :
    Calls Tryd.prog 18 #[.slice s n c, .int .i64 (i0 : Nat)] W fun e w' => ∃ a k c', e = .returned (.slice a k c') ∧ k = (faultsF (ndT R E N i0)).length ∧ w'.ownsRow W.heap.size 52 2 (.slice a k c') k (fltC (faultsF (ndT R E N i0))) ∧ Below W.heap.size W w' := by
  have HN := Lib.hid h
  clear h
  go_enter Tryd.func18, Tryd.ntmps18
  go_wp2_with fail
  go_loopw [1, 5] (fun iv lv wr => ∃ (i k : Nat) (a : Option Addr) (c' : Nat) (done : List (ByteArray × Int)), iv = .int .i64 (i : Nat) ∧ lv = .slice a k c' ∧ k + i ≤ i0 ∧ faultsF (ndT R E N i0) = done ++ faultsF (ndT R E N i) ∧ done.length = k ∧ wr.ownsRow W.heap.size 52 2 (.slice a k c') k (fltC done) ∧ Below W.heap.size W wr) (fun iv _ _ => (intOf iv).toNat)
  case atStart => exact ⟨i0, 0, none, 0, [], rfl, rfl, by omega, rfl, rfl, World.ownsRow_nil _ _ _ _, bnil W⟩
  case round =>
    obtain ⟨i, k, a, c', done, rfl, rfl, hk, hd, hl, ho, hb⟩ := hrel
    have HD := Lib.hid hd
    have HL := Lib.hid hl
    have HO := Lib.hid ho
    have HB := Lib.hid hb
    clear hd hl ho hb
    go_wp2_with fail
    refine (first_any R E s n c N hn i (by omega) _ (HN.out.up HB.out)).mono ?_
    rintro e w2 ⟨hb2, h2⟩
    have HB2 := Lib.hid hb2
    clear hb2
    rcases h2 with ⟨rfl, h3⟩ | ⟨m, rfl, hm, h3, h4⟩
    · have hend : faultsF (ndT R E N i0) = done := by rw [HD.out, faultsF_none h3, List.append_nil]
      have HEND := Lib.hid hend
      clear hend h3
      go_wp2
      go_ret
      exact ⟨_, k, _, rfl, by rw [HEND.out, HL.out], by rw [HEND.out]; exact owns_up HO.out HB2.out, HB.out.trans (HB2.out.mono HB.out.size)⟩
    · have m0 : (0 : Int) ≤ (m : Int) := by omega
      have m1 : ¬ (m : Int) < 0 := by omega
      have H34 := Lib.hid (And.intro h3 h4)
      clear h3 h4
      go_wp2_with fail
      refine (norm_pos s n c m N _ (HN.out.up (HB.out.trans (HB2.out.mono HB.out.size))) (by omega) hn).mono ?_; rintro e w3 ⟨A, B, rfl, hab, hb3⟩
      have HB3 := Lib.hid (HB.out.trans ((HB2.out.trans (hb3.mono HB2.out.size)).mono HB.out.size))
      have HAB := Lib.hid hab
      have ho3 := owns_up (owns_up HO.out HB2.out) hb3
      obtain ⟨K, hK⟩ : ∃ K, nkind N m = K := ⟨_, rfl⟩
      obtain ⟨opx, hop⟩ : ∃ opx, (N m).op = opx := ⟨_, rfl⟩
      obtain ⟨atx, hat⟩ : ∃ atx, (N m).at_ = atx := ⟨_, rfl⟩
      generalize (N m).num = nmx at *
      rw [hK, hop, hat]
      have HK := Lib.hid (And.intro hK (And.intro hop hat))
      clear hb3 hab hK hop hat
      obtain ⟨w4, h4⟩ : ∃ w4, w3.alloc (.cells #[.int .i64 K, .int .i64 nmx, .int .i64 atx, .int .i64 A, .int .i64 B, .string opx] 88) = w4 := ⟨_, rfl⟩
      obtain ⟨g7, hg7⟩ : ∃ g7, w3.heap.size = g7 := ⟨_, rfl⟩
      have hb4 : Below w3.heap.size w3 w4 := by rw [← h4]; exact balloc (bnil w3) _
      have c0 : w4.cell? ⟨g7, 0, none⟩ = some (.int .i64 K) := by rw [← h4, ← hg7]; simp
      have c2 : w4.cell? ⟨g7, 2, none⟩ = some (.int .i64 atx) := by rw [← h4, ← hg7]; simp
      have c3 : w4.cell? ⟨g7, 3, none⟩ = some (.int .i64 A) := by rw [← h4, ← hg7]; simp
      have c5 : w4.cell? ⟨g7, 5, none⟩ = some (.string opx) := by rw [← h4, ← hg7]; simp
      have ho4 := owns_up ho3 hb4
      have hne : (Value.slice a k c').ownBlock ≠ some g7 := fun e => by have := own_lt ho3 g7 e; omega
      have HO4 := Lib.hid ho4
      have HNE := Lib.hid hne
      have HB4 := Lib.hid (HB3.out.trans (hb4.mono HB3.out.size))
      have hz4 := HB4.out.size
      have hg4 : g7 < w4.heap.size := World.block_lt_of_cell? _ _ c0
      have H4 := Lib.hid h4
      have HC := Lib.hid (And.intro c0 (And.intro c3 hg4))
      clear ho3 ho4 hne hb4 h4 c0 c3 hg4
      go_upto_region 6 with (fail)
      rw [H4.out]
      try simp only [hg7]
      rcases H34.out.2 with ⟨k2, hf⟩ | ⟨k3, hf⟩
      · obtain rfl : K = 2 := HK.out.1.symm.trans k2
        have hfin : faultsF (ndT R E N i0) = done ++ [(opx, atx)] := by
          have h5 := faultsF_some (H34.out.1.trans hf)
          rw [HD.out, h5.1, HK.out.2.1, HK.out.2.2]; rfl
        have HFIN := Lib.hid hfin
        clear k2 hf hfin
        go_wp2_with (first
          | (at_builtin; refine apl rfl _ _ _ rfl W.heap.size et_flt _ k _ HO4.out rfl 1 _ _ rfl rfl rfl rfl (by unfold maxLen; omega) (by omega) hz4 ?_; intro a6 c6 w6 h6; have H6 := Lib.hid h6; have d0 := (h6.cell ⟨g7, 0, none⟩ HC.out.2.2 (fun e => absurd e HNE.out)).trans HC.out.1; have d3 := (h6.cell ⟨g7, 3, none⟩ HC.out.2.2 (fun e => absurd e HNE.out)).trans HC.out.2.1; clear h6))
        go_ret
        exact ⟨_, k + 1, _, rfl, by rw [HFIN.out, List.length_append, HL.out]; rfl, by have h5 := H6.out.own; rw [HFIN.out, fltC_app]; exact h5, HB4.out.trans H6.out.below⟩
      · obtain rfl : K = 3 := HK.out.1.symm.trans k3
        have hm0 := kind_pos (N := N) (i := m) (by rw [k3]; omega)
        obtain ⟨rfl, _⟩ := HAB.out hm0
        have hlt := (pa_lt (N := N) hm0).2
        have hnx : faultsF (ndT R E N i0) = (done ++ [(opx, atx)]) ++ faultsF (ndT R E N (pa N m)) := by
          have h5 := faultsF_some (H34.out.1.trans hf)
          rw [HD.out, h5.1, HK.out.2.1, HK.out.2.2, List.append_assoc]; rfl
        have HNX := Lib.hid hnx
        clear k3 hf hnx
        go_wp2_with (first
          | (at_builtin; refine apl rfl _ _ _ rfl W.heap.size et_flt _ k _ HO4.out rfl 1 _ _ rfl rfl rfl rfl (by unfold maxLen; omega) (by omega) hz4 ?_; intro a6 c6 w6 h6; have H6 := Lib.hid h6; have d0 := (h6.cell ⟨g7, 0, none⟩ HC.out.2.2 (fun e => absurd e HNE.out)).trans HC.out.1; have d3 := (h6.cell ⟨g7, 3, none⟩ HC.out.2.2 (fun e => absurd e HNE.out)).trans HC.out.2.1; clear h6))
        go_roundw
        case rel => exact ⟨pa N m, k + 1, a6, c6, done ++ [(opx, atx)], rfl, rfl, by omega, HNX.out, by rw [List.length_append, HL.out]; rfl, by have h5 := H6.out.own; rw [fltC_app]; exact h5, HB4.out.trans H6.out.below⟩
        case measure => simp [intOf]; omega
end Go.Proofs.YtckipboebllkhaaDoor
