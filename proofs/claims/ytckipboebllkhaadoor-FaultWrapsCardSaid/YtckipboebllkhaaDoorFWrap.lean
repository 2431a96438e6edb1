/- edenlaw01.FaultWraps. -/
import Derived.Test.YtckipboebllkhaaDoorFltG
import Derived.Deep.Cut
import Derived.Deep.LoopGhost
namespace Go.Proofs.YtckipboebllkhaaDoor
open Go.RowKit Go.Extern.Stop Go.Stop Go.Extern
set_option linter.unusedVariables false
set_option maxRecDepth 100000

theorem run_neq_iface_ptr_same {P : Program} (w : World) {ti tp te : TypeId} {ms : Array (String × TypeId)} {i j : TypeInfo} (a : Addr)
    (hi : P.underlying ti = some (.interface ms)) (hp : P.underlying tp = some (.pointer te)) (hinfo : P.info? tp = some i) (hcomp : i.comparable = true) (hte : P.info? te = some j) :
    (binOp .neq ti (.iface tp (.pointer (some a))) (.iface tp (.pointer (some a)))).run P w = .ok (.bool false) w := by
  simp only [binOp]
  simp [Op.equal, Op.maxDepth, run_equalIn_iface_ptr_same w 9998 a hi hp hinfo hcomp hte]
theorem fComp : (Tryd.prog.info? 57).map (·.comparable) = some true := by kernel_rfl
theorem fSize : (Tryd.prog.info? 61).map (·.size) = some 3 := by kernel_rfl
theorem fComparable (w : World) : (entCmp #[.agg #[.pointer (some ⟨16, 57, none⟩)]]).run Tryd.prog w = .ok (.bool true) w := by kernel_rfl
/-- Faults, one within another, down to the one at g0 -/
def ChF (w : World) (g0 : Nat) : Nat → Value → Prop
  | 0, v => v = .iface 57 (.pointer (some ⟨g0, 0, none⟩)) ∧ ∃ op at_ x, w.heap[g0]? = some (faultObj op at_ x)
  | k + 1, v => ∃ g op at_ x, v = .iface 57 (.pointer (some ⟨g, 0, none⟩)) ∧ w.heap[g]? = some (faultObj op at_ x) ∧ ChF w g0 k x
theorem ChF.up {w w' : World} {g0 : Nat} (hb : Below w.heap.size w w') : ∀ {k : Nat} {v : Value}, ChF w g0 k v → ChF w' g0 k v
  | 0, v, h => by
    obtain ⟨h1, op, at_, x, h2⟩ := h
    exact ⟨h1, op, at_, x, by rw [hb.block _ (Array.getElem?_eq_some_iff.1 h2).1]; exact h2⟩
  | k + 1, v, h => by
    obtain ⟨g, op, at_, x, h1, h2, h3⟩ := h
    exact ⟨g, op, at_, x, h1, by rw [hb.block _ (Array.getElem?_eq_some_iff.1 h2).1]; exact h2, h3.up hb⟩
theorem ChF.shape {w : World} {g0 : Nat} : ∀ {k : Nat} {v : Value}, ChF w g0 k v → ∃ g op at_ x, v = .iface 57 (.pointer (some ⟨g, 0, none⟩)) ∧ w.heap[g]? = some (faultObj op at_ x)
  | 0, v, h => by obtain ⟨h1, op, at_, x, h2⟩ := h; exact ⟨g0, op, at_, x, h1, h2⟩
  | k + 1, v, h => by obtain ⟨g, op, at_, x, h1, h2, _⟩ := h; exact ⟨g, op, at_, x, h1, h2⟩
theorem ChF.at0 {w : World} {g0 : Nat} : ∀ {k : Nat} {v : Value}, ChF w g0 k v → ∃ op at_ x, w.heap[g0]? = some (faultObj op at_ x)
  | 0, v, h => h.2
  | k + 1, v, h => by obtain ⟨g, op, at_, x, h1, h2, h3⟩ := h; exact h3.at0
set_option maxHeartbeats 4000000 in
theorem is_fault (g0 : Nat) (w : World) : ∀ (k : Nat) (v : Value), ChF w g0 k v →
    Calls Tryd.prog 48 #[v, .iface 57 (.pointer (some ⟨g0, 0, none⟩)), .bool true] w (fun e w' => e = .returned (.bool true) ∧ w = w') := by
  obtain ⟨i, hi, hcmp⟩ := Option.map_eq_some_iff.1 fComp
  obtain ⟨j, hj, hjs⟩ := Option.map_eq_some_iff.1 fSize
  have nF := noIsF
  have uF := hasUnwrapF
  have mU := methodUnwrap
  intro k v hv
  obtain ⟨op0, at0, x0, h0⟩ := hv.at0
  go_enter Tryd.func48, Tryd.ntmps48
  go_wp2_with fail
  go_loopg [0] k (fun m v wr => ChF w g0 m v ∧ wr = w)
  case atStart => exact ⟨hv, rfl⟩
  case round =>
    clear hv
    obtain ⟨hv, rfl⟩ := hrel
    cases gk with
    | zero =>
      obtain ⟨rfl, _⟩ := hv
      have heq := run_eql_iface_ptr_same (P := Tryd.prog) wr ⟨g0, 0, none⟩ Tryd.underlying26 Tryd.underlying57 hi hcmp hj
      go_wp2
      go_ret
      exact ⟨rfl, rfl⟩
    | succ m =>
      obtain ⟨g, op, at_, x, rfl, hg, hc⟩ := hv
      by_cases hgg : g = g0
      · subst hgg
        have heq := run_eql_iface_ptr_same (P := Tryd.prog) wr ⟨g, 0, none⟩ Tryd.underlying26 Tryd.underlying57 hi hcmp hj
        clear hc hg h0
        go_wp2
        go_ret
        exact ⟨rfl, rfl⟩
      · have heq := run_eql_iface_ptr_other (P := Tryd.prog) wr Tryd.underlying26 Tryd.underlying57 hi hcmp hj (by rw [hjs]; decide) (show (⟨g, 0, none⟩ : Addr) ≠ ⟨g0, 0, none⟩ from fun e => hgg (congrArg Addr.block e)) hg h0
        obtain ⟨c0, c1, c2⟩ := cell_fault hg
        have HC := Lib.hid hc
        obtain ⟨g3, op3, at3, x3, rfl, _⟩ := hc.shape
        clear hc hg h0
        go_wp2
        go_roundg m
        case measure => omega
        case rel => exact ⟨HC.out, rfl⟩
set_option maxHeartbeats 4000000 in
theorem is_fault_all (g0 : Nat) (w : World) (k : Nat) (v : Value) (hv : ChF w g0 k v) :
    Calls Tryd.prog 25 #[v, .iface 57 (.pointer (some ⟨g0, 0, none⟩))] w (fun e w' => e = .returned (.bool true) ∧ w = w') := by
  have h8 := @run_callFunc_extern Tryd.prog 47 _ Extern.ReflectliteType.typeOf Tryd.func47 (by kernel_rfl) (by kernel_rfl) (by kernel_rfl) (by kernel_rfl)
  have h32 := @run_callFunc_extern Tryd.prog 123 _ entCmp Tryd.func123 (by kernel_rfl) (by kernel_rfl) (by kernel_rfl) (by kernel_rfl)
  have tT := typeOfP
  have cT := fComparable
  have mR := isMethodComparable
  have HT := Lib.hid (is_fault g0 w k v hv)
  obtain ⟨g, op, at_, x, rfl, _⟩ := hv.shape
  clear hv
  go_enter Tryd.func25, Tryd.ntmps25
  go_wp2_with fail
  refine HT.out.mono ?_; rintro e w' ⟨rfl, rfl⟩
  go_wp2
  go_ret
  exact ⟨rfl, rfl⟩
/-- errors.Unwrap of a Fault -/
theorem unwrapF (g : Nat) (op : ByteArray) (at_ : Int) (x : Value) (w : World) (hg : w.heap[g]? = some (faultObj op at_ x)) :
    Calls Tryd.prog 24 #[.iface 57 (.pointer (some ⟨g, 0, none⟩))] w (fun e w' => e = .returned x ∧ w = w') := by
  have uF := hasUnwrapF
  have mU := methodUnwrap
  obtain ⟨c0, c1, c2⟩ := cell_fault hg
  clear hg
  go_enter Tryd.func24, Tryd.ntmps24
  go_wp2
  go_ret
  exact ⟨rfl, rfl⟩
/-- fault.Under over a Fault -/
theorem underV (op : ByteArray) (at_ : Int) (p : Value) (w : World) :
    Calls Tryd.prog 13 #[.string op, .int .i64 at_, .iface 57 p] w fun e w' => e = .returned (.iface 57 (.pointer (some ⟨w.heap.size, 0, none⟩))) ∧ w' = w.alloc (faultObj op at_ (.iface 57 p)) := by
  go_enter Tryd.func13, Tryd.ntmps13
  go_wp2
  go_ret
  exact ⟨rfl, rfl⟩
theorem codeF_chT (R : Nat → Addr) {t : ErrT} (h : t ≠ .none) (l : List ByteArray) (k : Nat) : codeF R (chT t l k) = codeF R t := by
  rw [codeF_some R h, codeF_some R (chT_some h l k)]
  congr 1
  funext n
  exact finds_chT _ t l k
theorem getLast_cons {α : Type} {x : α} : ∀ {l : List α}, l ≠ [] → (x :: l).getLast? = l.getLast?
  | [], h => absurd rfl h
  | y :: r, _ => rfl
theorem faults_ne {t : ErrT} (h : faultsF t ≠ []) (l : List ByteArray) : ∀ k, faultsF (chT t l k) ≠ [] ∧ (faultsF (chT t l k)).getLast? = (faultsF t).getLast?
  | 0 => ⟨h, rfl⟩
  | k + 1 => by
    obtain ⟨h1, h2⟩ := faults_ne h l k
    refine ⟨by simp [chT, faultsF], ?_⟩
    show ((_, _) :: faultsF (chT t l k)).getLast? = _
    rw [getLast_cons h1, h2]
theorem in_chT {t : ErrT} (h : faultsF t ≠ []) (l : List ByteArray) (k : Nat) : inOp (faultsF (chT t l k)) = inOp (faultsF t) ∧ inAt (faultsF (chT t l k)) = inAt (faultsF t) ∧ inOk (faultsF (chT t l k)) = true := by
  obtain ⟨h1, h2⟩ := faults_ne h l k
  refine ⟨by unfold inOp; rw [h2], by unfold inAt; rw [h2], ?_⟩
  unfold inOk
  cases hx : faultsF (chT t l k) with
  | nil => exact absurd hx h1
  | cons a b => rfl
def rootW (R : Nat → Addr) (at_ n : Int) : ErrT := .fault ⟨#[114, 111, 111, 116]⟩ at_ (.root (R (rix n)))
set_option maxHeartbeats 16000000 in
theorem fwrap_row (a : Option Addr) (n c : Nat) (l : List ByteArray) (at_ num : Int) (w : World) (R : Nat → Addr) (hE : Env w R) (hL : SR w a n l) (hnc : n ≤ c) (hcm : c ≤ maxLen) :
    Calls Tryd.prog 6 #[.slice a n c, .int .i64 at_, .int .i64 num] w fun e w' => e = .returned (.bool true) ∧ Below w.heap.size w w' := by
  have HE := Lib.hid hE
  have HL := Lib.hid hL
  have hcm' : c ≤ 9223372036854775807 := hcm
  clear hE hL hcm
  go_enter Tryd.func6, Tryd.ntmps6
  go_wp2_with fail
  refine (awake01 _ R HE.out).mono ?_; rintro e w1 ⟨rfl, hb1⟩
  have HB1 := Lib.hid hb1
  clear hb1
  go_upto_if 20 with (fail)
  go_cut [0] from 16 (fun s0 wx => ∃ N, N ≤ 64 ∧ N ≤ n ∧ s0 = .slice a N c ∧ wx = w1)
  case first =>
    by_cases h64 : (64 : Nat) < n
    · have h64I : (64 : Int) < (n : Int) := by omega
      have h64c : (64 : Int) ≤ (c : Int) := by omega
      go_wp2
      go_meet
      exact ⟨64, by omega, by omega, rfl, rfl⟩
    · have h64I : ¬ (64 : Int) < (n : Int) := by omega
      go_wp2
      go_meet
      exact ⟨n, by omega, by omega, rfl, rfl⟩
  case rest =>
    obtain ⟨N, hN64, hNn, rfl, rfl⟩ := hcut
    have HLN := Lib.hid ((HL.out.up HB1.out).take hNn)
    clear HL
    generalize hl0 : l.take N = l0 at *
    clear hl0
    by_cases hn0 : num = 0
    · subst hn0
      go_wp2_with fail
      refine (newF_any _ _ 0 _ R (HE.out.sent.up HB1.out)).mono ?_; rintro e w2 ⟨v2, rfl, h2, hb2⟩
      obtain rfl : v2 = Value.nilIface := h2
      have HB2 := Lib.hid hb2
      clear hb2
      go_wp2_with fail
      go_loopg [8, 9] N (fun m ev iv wr => ∃ k : Nat, k + m = N ∧ iv = .int .i64 (k : Nat) ∧ ev = .nilIface ∧ Below wc.heap.size wc wr)
      case atStart => exact ⟨0, by omega, rfl, rfl, HB2.out⟩
      case round =>
        clear HB2
        obtain ⟨k, hk, rfl, rfl, hb⟩ := hrel
        have HB := Lib.hid hb
        clear hb
        by_cases hkN : k < N
        · obtain ⟨b0, o0, rfl, hb0, hx⟩ := (HLN.out.up HB.out).addr (by omega)
          have c0 := hx k hkN
          clear hx
          have i0 : (0 : Int) ≤ (k : Int) := by omega
          have i1 : (k : Int) < (N : Int) := by omega
          have iw : IntKind.i64.wrap ((k : Int) + 1) = ((k + 1 : Nat) : Int) := by rw [IntWalk.i64_in _ (by omega)]; rfl
          generalize hgs : l0.getD k ByteArray.empty = s0 at *
          clear hgs
          go_wp2_with fail
          refine (underF_any _ _ .none .nilIface _ rfl).mono ?_; rintro e w4 ⟨u4, rfl, h4, hb4⟩
          obtain rfl : u4 = Value.nilIface := h4
          have HB4 := Lib.hid (HB.out.trans (hb4.mono HB.out.size))
          clear hb4
          go_wp2
          go_roundg (gk - 1)
          case measure => omega
          case rel => exact ⟨k + 1, by omega, rfl, rfl, HB4.out⟩
        · have i1 : ¬ (k : Int) < (N : Int) := by omega
          have hbw := HB1.out.trans (HB.out.mono HB1.out.size)
          have HBW := Lib.hid hbw
          clear hbw HB
          go_wp2_with fail
          refine (trail_all .none _ _ rfl (HE.out.et.up HBW.out) (by simp [faultsF])).mono ?_; rintro e w5 ⟨a5, n5, c5, rfl, ho5, hb5⟩
          obtain rfl : n5 = 0 := by have := ho5.1; simpa [faultsF] using this.symm
          have HB5 := Lib.hid (HBW.out.trans (hb5.mono HBW.out.size))
          clear ho5 hb5
          go_wp2_with fail
          refine (deep_all .none _ _ rfl (HE.out.et.up HB5.out) (by simp [faultsF])).mono ?_; rintro e w6 ⟨rfl, hb6⟩
          have HB6 := Lib.hid (HB5.out.trans (hb6.mono HB5.out.size))
          clear hb6
          go_wp2_with fail
          refine (code_all R .none _ _ rfl (HE.out.sent.up HB6.out)).mono ?_; rintro e w7 ⟨rfl, hb7⟩
          have HB7 := Lib.hid (HB6.out.trans (hb7.mono HB6.out.size))
          clear hb7
          go_wp2
          go_ret
          exact ⟨rfl, HB7.out⟩
    · have hnb : (num == 0) = false := by rw [beq_eq_false_iff_ne]; exact hn0
      have hnb2 : (num != 0) = true := by simp [hn0]
      obtain ⟨i, hi, hcmp⟩ := Option.map_eq_some_iff.1 fComp
      obtain ⟨j, hj, hjs⟩ := Option.map_eq_some_iff.1 fSize
      go_wp2_with fail
      refine (new_err _ _ num _ R (HE.out.sent.up HB1.out).glob hnb).mono ?_; rintro e w2 ⟨rfl, h2⟩
      obtain ⟨g0, hg0⟩ : ∃ g0, wc.heap.size = g0 := ⟨_, rfl⟩
      rw [hg0]
      have hv2 : TR w2 (rootW R at_ num) (.iface 57 (.pointer (some ⟨g0, 0, none⟩))) := by rw [h2, ← hg0]; exact (TR.rootR (HE.out.sent.up HB1.out) num).new _ _
      have hc2 : ChF w2 g0 0 (.iface 57 (.pointer (some ⟨g0, 0, none⟩))) := by rw [h2, ← hg0]; exact ⟨rfl, _, _, _, heap_alloc_new wc _⟩
      have hb2 : Below wc.heap.size wc w2 := by rw [h2]; exact balloc (bnil wc) _
      have HV2 := Lib.hid (And.intro hv2 hc2)
      have HB2 := Lib.hid hb2
      clear h2 hv2 hb2 hc2 hg0
      go_wp2_with fail
      go_loopg [8, 9] N (fun m ev iv wr => ∃ k : Nat, k + m = N ∧ iv = .int .i64 (k : Nat) ∧ TR wr (chT (rootW R at_ num) l0 k) ev ∧ ChF wr g0 k ev ∧ TR wr (rootW R at_ num) (.iface 57 (.pointer (some ⟨g0, 0, none⟩))) ∧ Below wc.heap.size wc wr)
      case atStart => exact ⟨0, by omega, rfl, HV2.out.1, HV2.out.2, HV2.out.1, HB2.out⟩
      case round =>
        clear HV2 HB2
        obtain ⟨k, hk, rfl, hv, hc, hr, hb⟩ := hrel
        have HV := Lib.hid hv
        have HC := Lib.hid hc
        have HR := Lib.hid hr
        have HB := Lib.hid hb
        clear hv hc hb hr
        obtain ⟨ge, ope, ate, xe, rfl, _⟩ := HC.out.shape
        by_cases hkN : k < N
        · obtain ⟨b0, o0, rfl, hb0, hx⟩ := (HLN.out.up HB.out).addr (by omega)
          have c0 := hx k hkN
          clear hx
          have i0 : (0 : Int) ≤ (k : Int) := by omega
          have i1 : (k : Int) < (N : Int) := by omega
          have iw : IntKind.i64.wrap ((k : Int) + 1) = ((k + 1 : Nat) : Int) := by rw [IntWalk.i64_in _ (by omega)]; rfl
          have htn := HV.out.new (l0.getD k ByteArray.empty) (k : Nat)
          have HTN := Lib.hid htn
          clear htn
          generalize hgs : l0.getD k ByteArray.empty = s0 at *
          have HGS := Lib.hid hgs
          clear hgs
          go_wp2_with fail
          refine (underV _ _ _ _).mono ?_; rintro e w4 ⟨rfl, h4⟩
          have hv4 : TR w4 (chT (rootW R at_ num) l0 (k + 1)) (.iface 57 (.pointer (some ⟨wr.heap.size, 0, none⟩))) := by
            rw [h4]
            show TR _ (.fault (l0.getD k ByteArray.empty) (k : Nat) _) _
            rw [HGS.out]
            exact HTN.out
          have hb4 : Below wr.heap.size wr w4 := by rw [h4]; exact balloc (bnil wr) _
          have hg4 : w4.heap[wr.heap.size]? = some (faultObj s0 (k : Nat) (.iface 57 (.pointer (some ⟨ge, 0, none⟩)))) := by rw [h4]; exact heap_alloc_new wr _
          have hc4 : ChF w4 g0 (k + 1) (.iface 57 (.pointer (some ⟨wr.heap.size, 0, none⟩))) := ⟨_, _, _, _, rfl, hg4, HC.out.up hb4⟩
          have H4 := Lib.hid (And.intro hv4 (And.intro hc4 (And.intro (HR.out.up hb4) (HB.out.trans (hb4.mono HB.out.size)))))
          have HG4 := Lib.hid hg4
          clear h4 hv4 hb4 hg4 hc4
          have hneq := run_neq_iface_ptr_same (P := Tryd.prog) w4 ⟨ge, 0, none⟩ Tryd.underlying26 Tryd.underlying57 hi hcmp hj
          go_wp2_with fail
          refine (unwrapF _ _ _ _ _ HG4.out).mono ?_; rintro e w5 ⟨rfl, rfl⟩
          go_wp2
          go_roundg (gk - 1)
          case measure => omega
          case rel => exact ⟨k + 1, by omega, rfl, H4.out.1, H4.out.2.1, H4.out.2.2.1, H4.out.2.2.2⟩
        · obtain rfl : k = N := by omega
          have i1 : ¬ (k : Int) < (k : Int) := by omega
          have hTl : (faultsF (chT (rootW R at_ num) l0 k)).length = k + 1 := by rw [chT_len]; simp [rootW, faultsF]; omega
          have hcd : codeF R (chT (rootW R at_ num) l0 k) = codeF R (rootW R at_ num) := codeF_chT R (by simp [rootW]) l0 k
          have hin := in_chT (t := rootW R at_ num) (by simp [rootW, faultsF]) l0 k
          have hat : ∀ q, q < k → (opsF (chT (rootW R at_ num) l0 k)).getD (k - 1 - q) ByteArray.empty = l0.getD q ByteArray.empty := opsF_at _ _ k
          have hrt : (opsF (chT (rootW R at_ num) l0 k)).getD k ByteArray.empty = ⟨#[114, 111, 111, 116]⟩ := by have := opsF_root (rootW R at_ num) l0 k 0; rw [Nat.add_zero] at this; rw [this]; rfl
          have HT := Lib.hid (And.intro hTl (And.intro hcd (And.intro hin (And.intro hat hrt))))
          clear hTl hcd hin hat hrt
          generalize chT (rootW R at_ num) l0 k = T at *
          have hT2 : (faultsF T).length ≤ 1000000 := by rw [HT.out.1]; omega
          have HT2 := Lib.hid hT2
          clear hT2
          have hbw := HB1.out.trans (HB.out.mono HB1.out.size)
          have HBW := Lib.hid hbw
          have HLA := Lib.hid (HLN.out.up HB.out)
          clear hbw HB
          generalize wr = wA at *
          have kk : ((k + 1 : Nat) : Int) = (k : Int) + 1 := rfl
          have wk : IntKind.i64.wrap ((k : Int) + 1) = (k : Int) + 1 := IntWalk.i64_in _ (by omega)
          go_wp2_with fail
          refine (trail_all T _ _ HV.out (HE.out.et.up HBW.out) HT2.out).mono ?_; rintro e w5 ⟨a5, n5, c5, rfl, ho5, hb5⟩
          rw [opsF_str] at ho5
          obtain rfl : n5 = k + 1 := by have h := ho5.1; simp [strC] at h; have h2 := HT.out.1; rw [← opsF_len] at h2; omega
          have HO5 := Lib.hid (SR.own ho5)
          have HB5 := Lib.hid hb5
          clear ho5 hb5
          go_wp2_with fail
          refine (deep_all T _ _ (HV.out.up HB5.out) (HE.out.et.up (HBW.out.trans (HB5.out.mono HBW.out.size))) HT2.out).mono ?_; rintro e w6 ⟨rfl, hb6⟩
          rw [HT.out.1]
          have HB6 := Lib.hid (HB5.out.trans (hb6.mono HB5.out.size))
          have HO6 := Lib.hid (HO5.out.up hb6)
          clear hb6 HB5 HO5
          go_wp2_with fail
          refine (code_all R T _ _ (HV.out.up HB6.out) (HE.out.sent.up (HBW.out.trans (HB6.out.mono HBW.out.size)))).mono ?_; rintro e w7 ⟨rfl, hb7⟩
          rw [HT.out.2.1]
          have HB7 := Lib.hid (HB6.out.trans (hb7.mono HB6.out.size))
          have HO7 := Lib.hid (HO6.out.up hb7)
          clear hb7 HB6 HO6
          go_wp2_with fail
          refine (code_all R (rootW R at_ num) _ _ (HR.out.up HB7.out) (HE.out.sent.up (HBW.out.trans (HB7.out.mono HBW.out.size)))).mono ?_; rintro e w8 ⟨rfl, hb8⟩
          have HB8 := Lib.hid (HB7.out.trans (hb8.mono HB7.out.size))
          have HO8 := Lib.hid (HO7.out.up hb8)
          clear hb8 HB7 HO7
          generalize codeF R (rootW R at_ num) = cR at *
          go_wp2_with fail
          refine (is_fault_all g0 _ k _ (HC.out.up HB8.out)).mono ?_; rintro e w9 ⟨rfl, rfl⟩
          go_wp2_with fail
          go_loopw [12] (fun ix wx => ∃ q d : Nat, q ≤ k ∧ ix = .int .i64 (q : Nat) ∧ wx = w8.drewN d) (fun ix _ => k - (intOf ix).toNat)
          case atStart => exact ⟨0, 0, by omega, rfl, rfl⟩
          case round =>
            obtain ⟨q, d, hq, rfl, rfl⟩ := hrel
            by_cases hqk : q < k
            · have hla := HLA.out.up HB8.out
              have hlb := HO8.out
              obtain ⟨b1, o1, rfl, hb1', x1⟩ := hla.addr (by omega)
              obtain ⟨b2, o2, rfl, hb2', x2⟩ := hlb.addr (by omega)
              obtain ⟨Q, hQ⟩ : ∃ Q, k - 1 - q = Q := ⟨_, rfl⟩
              have y1 := x1 q hqk
              have y2 := x2 (k - 1 - q) (by omega)
              rw [HT.out.2.2.2.1 q hqk, hQ] at y2
              clear x1 x2 hla hlb
              generalize l0.getD q ByteArray.empty = sq at *
              have w1 : IntKind.i64.wrap ((k : Int) - 1) = (k : Int) - 1 := IntWalk.i64_in _ (by omega)
              have w2' : IntKind.i64.wrap ((k : Int) - 1 - (q : Int)) = (Q : Int) := by rw [IntWalk.i64_in _ (by omega)]; omega
              have q0 : (0 : Int) ≤ (Q : Int) := by omega
              have q1 : (Q : Int) < (k : Int) + 1 := by omega
              have q2 : (0 : Int) ≤ (q : Int) := by omega
              have q3 : (q : Int) < (k : Int) := by omega
              have q4 : IntKind.i64.wrap ((q : Int) + 1) = ((q + 1 : Nat) : Int) := by rw [IntWalk.i64_in _ (by omega)]; rfl
              go_wp2_with fail
              go_quiet (fail)
              generalize nq = d1 at *
              go_wp2
              go_roundw
              case rel => exact ⟨q + 1, d + d1, by omega, by go_num, by simp⟩
              case measure => simp [intOf]; omega
            · obtain rfl : q = k := by omega
              obtain ⟨b2, o2, rfl, hb2', x2⟩ := (HO8.out.up (bdrewN (bnil w8) d)).addr (by omega)
              have y2 := x2 q (by omega)
              rw [HT.out.2.2.2.2] at y2
              clear x2
              have q0 : (0 : Int) ≤ (q : Int) := by omega
              have q1 : (q : Int) < (q : Int) + 1 := by omega
              have hin1 : inOp (faultsF T) = ⟨#[114, 111, 111, 116]⟩ := HT.out.2.2.1.1
              have hin2 : inAt (faultsF T) = at_ := HT.out.2.2.1.2.1
              have hin3 : inOk (faultsF T) = true := HT.out.2.2.1.2.2
              have HIN := Lib.hid (And.intro hin1 (And.intro hin2 hin3))
              clear hin1 hin2 hin3
              have hbd : Below wA.heap.size wA (w8.drewN d) := bdrewN HB8.out d
              have HBD := Lib.hid hbd
              clear hbd
              go_wp2_with fail
              refine (inner_all T _ _ (HV.out.up HBD.out) (HE.out.et.up (HBW.out.trans (HBD.out.mono HBW.out.size))) HT2.out).mono ?_; rintro e w10 ⟨rfl, hb10⟩
              rw [HIN.out.1, HIN.out.2.1, HIN.out.2.2]
              have y3 := cpF hb10 y2
              have HB10 := Lib.hid (HBW.out.trans ((HBD.out.trans (hb10.mono HBD.out.size)).mono HBW.out.size))
              clear hb10 y2
              go_wp2
              go_ret
              exact ⟨rfl, HB10.out⟩
end Go.Proofs.YtckipboebllkhaaDoor
