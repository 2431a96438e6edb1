/- edenlaw01.FaultChains. -/
import Derived.Test.YtckipboebllkhaaDoorFChE
import Derived.Test.YtckipboebllkhaaDoorFltG
import Derived.Deep.Cut
import Derived.Deep.CutRange
import Derived.Deep.RegionWith
namespace Go.Proofs.YtckipboebllkhaaDoor
open Go.RowKit Go.Extern.Stop Go.Stop Go.Extern
set_option linter.unusedVariables false
set_option maxRecDepth 100000

/-- a slice of the document's Faults reads as these -/
def FlR (w : World) (s : Option Addr) (k : Nat) (L : List (ByteArray × Int)) : Prop :=
  k = L.length ∧ (k = 0 ∨ ∃ b o, s = some ⟨b, o, none⟩ ∧ b < w.heap.size ∧ ∀ j, j < k → w.cell? ⟨b, o + j * 2, none⟩ = some (.string (L.getD j (ByteArray.empty, 0)).1) ∧ w.cell? ⟨b, o + j * 2 + 1, none⟩ = some (.int .i64 (L.getD j (ByteArray.empty, 0)).2))
theorem fltC_at (L : List (ByteArray × Int)) : ∀ j, j < L.length → (fltC L)[j * 2]? = some (.string (L.getD j (ByteArray.empty, 0)).1) ∧ (fltC L)[j * 2 + 1]? = some (.int .i64 (L.getD j (ByteArray.empty, 0)).2) := by
  induction L with
  | nil => intro j h; simp at h
  | cons x r ih =>
    intro j h
    cases j with
    | zero => exact ⟨rfl, rfl⟩
    | succ j =>
      have := ih j (by simpa using h)
      rw [show (j + 1) * 2 = j * 2 + 2 from by omega, show j * 2 + 2 + 1 = j * 2 + 1 + 2 from by omega]
      exact ⟨this.1, this.2⟩
theorem FlR.own {w : World} {B n c : Nat} {e : TypeId} {a : Option Addr} {L : List (ByteArray × Int)} (h : w.ownsRow B e 2 (.slice a n c) n (fltC L)) (hn : n = L.length) : FlR w a n L := by
  obtain ⟨_, hr⟩ := owns_rd h
  refine ⟨hn, ?_⟩
  rcases hr.2 with h0 | ⟨b, o, h1, h2, h3⟩
  · exact .inl h0
  · refine .inr ⟨b, o, h1, h2, fun j hj => ?_⟩
    have hc := fltC_at L j (by omega)
    exact ⟨h3 _ _ hc.1, h3 _ _ hc.2⟩
theorem FlR.up {w w' : World} {s : Option Addr} {k : Nat} {L : List (ByteArray × Int)} (h : FlR w s k L) (hb : Below w.heap.size w w') : FlR w' s k L := by
  refine ⟨h.1, ?_⟩
  rcases h.2 with h0 | ⟨b, o, h1, h2, h3⟩
  · exact .inl h0
  · exact .inr ⟨b, o, h1, Nat.lt_of_lt_of_le h2 hb.size, fun j hj => ⟨cpF hb (h3 j hj).1, cpF hb (h3 j hj).2⟩⟩
theorem opsF_getD (t : ErrT) (j : Nat) : (opsF t).getD j ByteArray.empty = ((faultsF t).getD j (ByteArray.empty, 0)).1 := by
  unfold opsF
  simp only [List.getD_eq_getElem?_getD, List.getElem?_map]
  cases (faultsF t)[j]? <;> rfl
theorem faultsF_le : ∀ t : ErrT, (faultsF t).length ≤ sz t
  | .none => by simp [faultsF]
  | .root _ => by simp [faultsF]
  | .fault _ _ t => by have := faultsF_le t; simp [faultsF, sz]; omega
  | .own t => by have := faultsF_le t; simp only [faultsF, sz]; omega
  | .shut _ => by simp [faultsF]
  | .both a b => by
    have h1 := faultsF_le a
    have h2 := faultsF_le b
    show (if firstF a = none then faultsF b else faultsF a).length ≤ sz a + sz b + 1
    split <;> omega
theorem sz_under (op : ByteArray) (at_ : Int) (t : ErrT) : sz (underT op at_ t) ≤ sz t + 1 := by cases t <;> simp [underT, sz]
theorem sz_new (R : Nat → Addr) (op : ByteArray) (at_ n : Int) : sz (newT R op at_ n) ≤ 2 := by
  unfold newT
  split <;> simp [sz]
theorem ndT_sz (R E : Nat → Addr) (N : Nat → Nd) : ∀ i, sz (ndT R E N i) ≤ 3 ^ (i + 1) := by
  intro i
  induction i using Nat.strongRecOn with
  | ind i ih =>
    have hp : 1 ≤ 3 ^ i := Nat.pos_of_ne_zero (by simp)
    have h3 : 3 ^ (i + 1) = 3 * 3 ^ i := by rw [Nat.pow_succ, Nat.mul_comm]
    have hle : 0 < i → ∀ j, j < i → sz (ndT R E N j) ≤ 3 ^ i := fun h0 j hj => Nat.le_trans (ih j hj) (Nat.pow_le_pow_right (by decide) hj)
    rcases kinds N i with k | k | k | k | k | k | k
    · rw [ndT_0 k]; simp [sz]; omega
    · rw [ndT_1 k]; simp [sz]; omega
    · rw [ndT_2 k]; have := sz_new R (N i).op (N i).at_ (N i).num; omega
    · have h0 := kind_pos (N := N) (i := i) (by omega)
      rw [ndT_3 k]; have := sz_under (N i).op (N i).at_ (ndT R E N (pa N i)); have := hle h0 _ (pa_lt (N := N) h0).2; omega
    · have h0 := kind_pos (N := N) (i := i) (by omega)
      rw [ndT_4 k]; have := hle h0 _ (pa_lt (N := N) h0).2; simp only [sz]; omega
    · have h0 := kind_pos (N := N) (i := i) (by omega)
      rw [ndT_5 k]; have := hle h0 _ (pa_lt (N := N) h0).2; simp only [sz]; omega
    · have h0 := kind_pos (N := N) (i := i) (by omega)
      rw [ndT_6 k]; have := hle h0 _ (pa_lt (N := N) h0).2; have := hle h0 _ (pb_lt (N := N) h0).2; simp only [sz]; omega
theorem ndT_faults (R E : Nat → Addr) (N : Nat → Nd) {i : Nat} (h : i < 12) : (faultsF (ndT R E N i)).length ≤ 1000000 := by
  have h1 := faultsF_le (ndT R E N i)
  have h2 := ndT_sz R E N i
  have h3 : 3 ^ (i + 1) ≤ 3 ^ 12 := Nat.pow_le_pow_right (by decide) h
  have h4 : 3 ^ 12 = 531441 := by decide
  omega
theorem isN_iff {w : World} {t : ErrT} {v : Value} (h : TR w t v) : (v = .nilIface ∧ isN t = true) ∨ (∃ ty p, v = .iface ty p) ∧ isN t = false := by
  cases t with
  | none => exact .inl ⟨h, rfl⟩
  | root a => exact .inr ⟨⟨_, _, h.1⟩, rfl⟩
  | fault op at_ t => obtain ⟨g, x, h1, _⟩ := h; exact .inr ⟨⟨_, _, h1⟩, rfl⟩
  | own t => obtain ⟨x, h1, _⟩ := h; exact .inr ⟨⟨_, _, h1⟩, rfl⟩
  | shut t => obtain ⟨x, h1, _⟩ := h; exact .inr ⟨⟨_, _, h1⟩, rfl⟩
  | both a b => obtain ⟨x, y, h1, _⟩ := h; exact .inr ⟨⟨_, _, h1⟩, rfl⟩
theorem inLast (L : List (ByteArray × Int)) (h : 0 < L.length) : inOp L = (L.getD (L.length - 1) (ByteArray.empty, 0)).1 ∧ inAt L = (L.getD (L.length - 1) (ByteArray.empty, 0)).2 := by
  have e : L.getLast? = L[L.length - 1]? := List.getLast?_eq_getElem?
  unfold inOp inAt
  rw [e]
  simp only [List.getD_eq_getElem?_getD]
  rw [List.getElem?_eq_getElem (show L.length - 1 < L.length by omega)]
  exact ⟨rfl, rfl⟩
set_option maxHeartbeats 16000000 in
theorem fchain_row (s : Option Addr) (n c : Nat) (N : Nat → Nd) (w : World) (R : Nat → Addr) (hE : Env w R) (hN : NdR w s n N) (hnc : n ≤ c) (hcm : c ≤ maxLen) :
    Calls Tryd.prog 5 #[.slice s n c] w fun e w' => e = .returned (.bool true) ∧ Below w.heap.size w w' := by
  have HE := Lib.hid hE
  have HN := Lib.hid hN
  clear hE hN
  go_enter Tryd.func5, Tryd.ntmps5
  go_wp2_with fail
  refine (awake01 _ R HE.out).mono ?_; rintro e w1 ⟨rfl, hb1⟩
  have HB1 := Lib.hid hb1
  clear hb1
  go_wp2_with fail
  refine (few_any s n c _ hnc hcm).mono ?_; rintro e w1' ⟨m, rfl, hmn, hm12, rfl⟩
  have HM := Lib.hid ((HN.out.up HB1.out).take hmn)
  clear HN hmn hnc
  go_wp2_with fail
  refine (built_any R s m c N hm12 _ (HE.out.sent.up HB1.out) HM.out).mono ?_; rintro e w2 ⟨g, c', E, vals, rfl, hst⟩
  have HST := Lib.hid hst
  clear hst
  go_wp2_with fail
  go_loopw [4] (fun iv wr => ∃ i : Nat, i ≤ m ∧ iv = .int .i64 (i : Nat) ∧ Below w2.heap.size w2 wr) (fun iv _ => m - (intOf iv).toNat)
  case atStart => exact ⟨0, by omega, rfl, bnil w2⟩
  case round =>
    obtain ⟨i, hi, rfl, hb⟩ := hrel
    have HB := Lib.hid hb
    clear hb
    by_cases him : i < m
    · have i0 : (0 : Int) ≤ (i : Int) := by omega
      have i1 : (i : Int) < (m : Int) := by omega
      have iw : IntKind.i64.wrap ((i : Int) + 1) = ((i + 1 : Nat) : Int) := by rw [IntWalk.i64_in _ (by omega)]; rfl
      have z0 := cpF HB.out (HST.out.cell him)
      obtain ⟨v, hv⟩ : ∃ v, vals i = v := ⟨_, rfl⟩
      have htr := (HST.out.tr i him).up HB.out
      rw [hv] at z0 htr
      have hfa := ndT_faults R E N (i := i) (by omega)
      have HTR := Lib.hid htr
      have HFA := Lib.hid hfa
      have hbw : Below w.heap.size w wr := HB1.out.trans ((HST.out.below.trans (HB.out.mono HST.out.below.size)).mono HB1.out.size)
      have HBW := Lib.hid hbw
      have HMW := Lib.hid ((HM.out.up HST.out.below).up HB.out)
      clear hv htr hfa hbw
      generalize wr = wA at *
      go_wp2_with fail
      refine (refFaults_any R E s m c i N hm12 him _ HMW.out).mono ?_; rintro e w3 ⟨af, kf, cf, rfl, hkf, hof, hb3⟩
      have hfl := FlR.own hof hkf
      have HFL := Lib.hid hfl
      have HB3 := Lib.hid hb3
      have HNIL := Lib.hid fun w' (hb : Below w3.heap.size w3 w') => nil_any R E s m c N hm12 i him w' ((HMW.out.up HB3.out).up hb)
      have HCD := Lib.hid fun w' (hb : Below w3.heap.size w3 w') => code_all R _ _ w' ((HTR.out.up HB3.out).up hb) ((HE.out.sent.up HBW.out).up HB3.out |>.up hb)
      have HRC := Lib.hid fun w' (hb : Below w3.heap.size w3 w') => refCode_any R E s m c i N hm12 him w' ((HE.out.sent.up HBW.out).up HB3.out |>.up hb) (fun j hj => HST.out.fresh j hj) ((HMW.out.up HB3.out).up hb)
      have HDP := Lib.hid fun w' (hb : Below w3.heap.size w3 w') => deep_all _ _ w' ((HTR.out.up HB3.out).up hb) ((HE.out.et.up HBW.out).up HB3.out |>.up hb) HFA.out
      have hiso := isN_iff HTR.out
      clear hof hb3 hfl
      generalize ndT R E N i = T at *
      have hfl2 : (faultsF T).length = kf := hkf.symm
      have HKF := Lib.hid hkf
      generalize codeF R T = cR at *
      rw [hfl2] at HDP
      clear hkf hfl2
      go_upto_region 10 with (fail)
      go_cut [55] from 22 to 150 (fun s55 wx => s55 = .bool false ∧ Below w3.heap.size w3 wx)
      case first =>
        have HBX : Hid (Below w3.heap.size w3 w3.drew) := Below.drew (bnil w3)
        rcases hiso with ⟨rfl, hisn⟩ | ⟨⟨ty, p, rfl⟩, hisn⟩
        · go_region_with (first
              | (go_at_call 19; refine (HNIL.out _ HBX.out).mono ?_; rintro e w4 ⟨rfl, hb4⟩; rw [hisn]; have HBX := Lib.hid (bstep HBX.out hb4); clear hb4)
              | (go_at_call 10; refine (HCD.out _ HBX.out).mono ?_; rintro e w4 ⟨rfl, hb4⟩; have HBX := Lib.hid (bstep HBX.out hb4); clear hb4)
              | (go_at_call 20; refine (HRC.out _ HBX.out).mono ?_; rintro e w4 ⟨rfl, hb4⟩; have HBX := Lib.hid (bstep HBX.out hb4); clear hb4)
              | (go_at_call 21; refine (HDP.out _ HBX.out).mono ?_; rintro e w4 ⟨rfl, hb4⟩; have HBX := Lib.hid (bstep HBX.out hb4); clear hb4))
          all_goals
            go_wp2_with fail
            go_meet
            exact ⟨rfl, HBX.out⟩
        · go_region_with (first
              | (go_at_call 19; refine (HNIL.out _ HBX.out).mono ?_; rintro e w4 ⟨rfl, hb4⟩; rw [hisn]; have HBX := Lib.hid (bstep HBX.out hb4); clear hb4)
              | (go_at_call 10; refine (HCD.out _ HBX.out).mono ?_; rintro e w4 ⟨rfl, hb4⟩; have HBX := Lib.hid (bstep HBX.out hb4); clear hb4)
              | (go_at_call 20; refine (HRC.out _ HBX.out).mono ?_; rintro e w4 ⟨rfl, hb4⟩; have HBX := Lib.hid (bstep HBX.out hb4); clear hb4)
              | (go_at_call 21; refine (HDP.out _ HBX.out).mono ?_; rintro e w4 ⟨rfl, hb4⟩; have HBX := Lib.hid (bstep HBX.out hb4); clear hb4))
          all_goals
            go_wp2_with fail
            go_meet
            exact ⟨rfl, HBX.out⟩
      case rest =>
        obtain ⟨rfl, hbc⟩ := hcut
        have HBC := Lib.hid hbc
        clear hbc HNIL HCD HRC HDP hiso
        have hbcw := HB3.out.trans (HBC.out.mono HB3.out.size)
        have HBCW := Lib.hid hbcw
        clear hbcw
        go_wp2_with fail
        refine (outer_all T v _ (HTR.out.up HBCW.out) ((HE.out.et.up HBW.out).up HBCW.out)).mono ?_; rintro e w5 ⟨rfl, hb5⟩
        have HB5 := Lib.hid (HBCW.out.trans (hb5.mono HBCW.out.size))
        have HF5 := Lib.hid ((HFL.out.up HBC.out).up hb5)
        clear hb5
        go_wp2_with fail
        refine (inner_all T v _ (HTR.out.up HB5.out) ((HE.out.et.up HBW.out).up HB5.out) HFA.out).mono ?_; rintro e w6 ⟨rfl, hb6⟩
        have HB6 := Lib.hid (HB5.out.trans (hb6.mono HB5.out.size))
        have HF6 := Lib.hid (HF5.out.up hb6)
        clear hb6
        go_wp2_with fail
        refine (trail_all T v _ (HTR.out.up HB6.out) ((HE.out.et.up HBW.out).up HB6.out) HFA.out).mono ?_; rintro e w7 ⟨a7, n7, c7, rfl, ho7, hb7⟩
        rw [opsF_str] at ho7
        obtain rfl : n7 = kf := by have h := ho7.1; simp [strC, opsF_len] at h; have := HKF.out; omega
        have HS7 := Lib.hid (SR.own ho7)
        have HB7 := Lib.hid (HB6.out.trans (hb7.mono HB6.out.size))
        have HF7 := Lib.hid (HF6.out.up hb7)
        clear ho7 hb7 HF5 HF6
        cases hff : firstF T with
        | none =>
          have hl0 : faultsF T = [] := faultsF_none hff
          have hk0 : n7 = 0 := by rw [HKF.out, hl0]; rfl
          have HL0 := Lib.hid hl0
          clear hl0 hff
          rw [HL0.out]
          rw [show outOp none = ⟨#[]⟩ from rfl, show outAt none = 0 from rfl, show outOk none = false from rfl, show inOp [] = ⟨#[]⟩ from rfl, show inAt [] = 0 from rfl, show inOk [] = false from rfl]
          subst hk0
          go_wp2
          go_roundw
          case rel => exact ⟨i + 1, by omega, rfl, HB.out.trans (HB7.out.mono HB.out.size)⟩
          case measure => simp [intOf]; omega
        | some z =>
          obtain ⟨op1, at1, s1⟩ := z
          have hfs := (faultsF_some hff).1
          have hlen : 0 < (faultsF T).length := by rw [hfs]; simp
          have hin := inLast _ hlen
          have hok : inOk (faultsF T) = true := by rw [hfs]; rfl
          have h00 : (faultsF T).getD 0 (ByteArray.empty, 0) = (op1, at1) := by rw [hfs]; rfl
          have hat : ∀ j, (opsF T).getD j ByteArray.empty = ((faultsF T).getD j (ByteArray.empty, 0)).1 := opsF_getD T
          rw [hok, hin.1, hin.2, ← HKF.out]
          rw [show outOp (some (op1, at1, s1)) = op1 from rfl, show outAt (some (op1, at1, s1)) = at1 from rfl, show outOk (some (op1, at1, s1)) = true from rfl]
          obtain ⟨q, rfl⟩ : ∃ q, n7 = q + 1 := ⟨n7 - 1, by have := HKF.out; omega⟩
          have hq6 : q + 1 ≤ 1000000 := by have := HKF.out; have := HFA.out; omega
          rcases HF7.out.2 with h0 | ⟨bf, of_, rfl, hbf, hcf⟩
          · omega
          have x0 := (hcf 0 (by omega)).1
          have x1 := (hcf 0 (by omega)).2
          have y0 := (hcf q (by omega)).1
          have y1 := (hcf q (by omega)).2
          rw [h00, show of_ + 0 * 2 = of_ from by omega] at x0 x1
          have HAT := Lib.hid hat
          have HCF := Lib.hid hcf
          clear hcf hat hfs hlen hin hok h00 hff
          rw [show q + 1 - 1 = q from rfl]
          generalize hL : faultsF T = L at *
          obtain ⟨opq, hopq⟩ : ∃ opq, (L.getD q (ByteArray.empty, 0)).1 = opq := ⟨_, rfl⟩
          obtain ⟨atq, hatq⟩ : ∃ atq, (L.getD q (ByteArray.empty, 0)).2 = atq := ⟨_, rfl⟩
          rw [hopq] at y0 ⊢
          rw [hatq] at y1 ⊢
          clear hopq hatq
          have kk : ((q + 1 : Nat) : Int) = (q : Int) + 1 := rfl
          have k0 : (0 : Int) < (q : Int) + 1 := by omega
          have k1 : (q : Int) < (q : Int) + 1 := by omega
          have k2 : (0 : Int) ≤ (q : Int) := by omega
          have kw : IntKind.i64.wrap (q : Int) = (q : Int) := IntWalk.i64_in _ (by omega)
          obtain ⟨w8, h8⟩ : ∃ w8, w7.alloc (.cells #[.string opq, .int .i64 atq] 52) = w8 := ⟨_, rfl⟩
          obtain ⟨g8, hg8⟩ : ∃ g8, w7.heap.size = g8 := ⟨_, rfl⟩
          have hb8 : Below w7.heap.size w7 w8 := by rw [← h8]; exact balloc (bnil w7) _
          have z1 : w8.cell? ⟨g8, 0, none⟩ = some (.string opq) := by rw [← h8, ← hg8]; simp
          have z2 : w8.cell? ⟨g8, 1, none⟩ = some (.int .i64 atq) := by rw [← h8, ← hg8]; simp
          have x08 := cpF hb8 x0
          have x18 := cpF hb8 x1
          have H8 := Lib.hid h8
          have HB8 := Lib.hid hb8
          clear h8 hb8
          go_upto_region 21 with (fail)
          rw [H8.out]
          try simp only [hg8]
          clear x0 x1 y0 y1 H8
          go_wp2_with fail
          go_loopw [15] (fun kv wx => ∃ j d : Nat, j ≤ q + 1 ∧ kv = .int .i64 (j : Nat) ∧ wx = w8.drewN d) (fun kv _ => q + 1 - (intOf kv).toNat)
          case atStart => exact ⟨0, 0, by omega, rfl, rfl⟩
          case round =>
            obtain ⟨j, d, hj, rfl, rfl⟩ := hrel
            by_cases hjq : j < q + 1
            · obtain ⟨b2, o2, rfl, hb2', x2⟩ := (HS7.out.up HB8.out).addr (by omega)
              have y1 := x2 j hjq
              have y2 := cpF HB8.out (HCF.out j hjq).1
              rw [HAT.out] at y1
              clear x2
              generalize (L.getD j (ByteArray.empty, 0)).1 = sj at *
              have j0 : (0 : Int) ≤ (j : Int) := by omega
              have j1 : (j : Int) < (q : Int) + 1 := by omega
              have jw : IntKind.i64.wrap ((j : Int) + 1) = ((j + 1 : Nat) : Int) := by rw [IntWalk.i64_in _ (by omega)]; rfl
              go_wp2_with fail
              go_quiet (fail)
              generalize nq = d1 at *
              go_wp2
              go_roundw
              case rel => exact ⟨j + 1, d + d1, by omega, by go_num, by simp⟩
              case measure => simp [intOf]; omega
            · obtain rfl : j = q + 1 := by omega
              have j1 : ¬ (q : Int) + 1 < (q : Int) + 1 := by omega
              have hbe : Below w2.heap.size w2 (w8.drewN d) := bdrewN (HB.out.trans ((HB7.out.trans (HB8.out.mono HB7.out.size)).mono HB.out.size)) d
              have HBE := Lib.hid hbe
              clear hbe
              go_wp2
              go_roundw
              case rel => exact ⟨i + 1, by omega, rfl, HBE.out⟩
              case measure => simp [intOf]; omega
    · obtain rfl : i = m := by omega
      have i1 : ¬ (i : Int) < (i : Int) := by omega
      go_wp2
      go_ret
      exact ⟨rfl, HB1.out.trans ((HST.out.below.trans (HB.out.mono HST.out.below.size)).mono HB1.out.size)⟩
end Go.Proofs.YtckipboebllkhaaDoor
