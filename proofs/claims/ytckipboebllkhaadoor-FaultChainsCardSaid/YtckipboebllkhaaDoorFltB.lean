/- errors.Is and errors.As over any tree of errors. -/
import Derived.Test.YtckipboebllkhaaDoorFltA
namespace Go.Proofs.YtckipboebllkhaaDoor
open Go.RowKit Go.Extern.Stop Go.Stop Go.Extern
set_option linter.unusedVariables false
set_option maxRecDepth 100000

set_option maxHeartbeats 4000000 in
theorem is_all (b : Addr) (cb : Array Value) (tb : TypeId) (t : ErrT) (v : Value) (w : World) (hv : TR w t v) (hb : w.heap[b.block]? = some (.cells cb tb (0, 0))) :
    Calls Tryd.prog 25 #[v, .iface 126 (.pointer (some b))] w (IsPost w (finds b t)) := by
  have h8 := @run_callFunc_extern Tryd.prog 47 _ Extern.ReflectliteType.typeOf Tryd.func47 (by kernel_rfl) (by kernel_rfl) (by kernel_rfl) (by kernel_rfl)
  have h32 := @run_callFunc_extern Tryd.prog 123 _ entCmp Tryd.func123 (by kernel_rfl) (by kernel_rfl) (by kernel_rfl) (by kernel_rfl)
  have tT := isTypeOf
  have cT := isComparable
  have mR := isMethodComparable
  rcases hv.shape with rfl | ⟨ty, p, rfl⟩
  · have hnl := run_eql_iface_nil_left (P := Tryd.prog) (w := w) 126 (.pointer (some b)) Tryd.underlying26
    have ht : t = .none := hv.inj (t' := .none) rfl
    subst ht
    go_enter Tryd.func25, Tryd.ntmps25
    go_wp2
    go_ret
    exact ⟨rfl, bnil w⟩
  · have HT := Lib.hid (is_tree b cb tb (sz t) t (Nat.le_refl _) (.iface ty p) w hv hb)
    clear hv
    go_enter Tryd.func25, Tryd.ntmps25
    go_wp2_with fail
    refine HT.out.mono ?_; rintro e w' ⟨rfl, hb'⟩
    go_wp2
    go_ret
    exact ⟨rfl, hb'⟩

/-! ### errors.as -/
/-- the first Fault: package, place, what it wraps -/
def firstF : ErrT → Option (ByteArray × Int × ErrT)
  | .none => none
  | .root _ => none
  | .fault op at_ t => some (op, at_, t)
  | .own t => firstF t
  | .shut _ => none
  | .both a b => (firstF a).or (firstF b)
def AsPost (w0 W : World) (tt : Addr) (r : Option (ByteArray × Int × ErrT)) (e : Ending) (w' : World) : Prop :=
  (r = none ∧ e = .returned (.bool false) ∧ Below W.heap.size W w') ∨
  ∃ op at_ s g x wm, r = some (op, at_, s) ∧ e = .returned (.bool true) ∧ w0.heap[g]? = some (faultObj op at_ x) ∧ TR w0 s x ∧ Below W.heap.size W wm ∧ w' = wm.setCell tt (.pointer (some ⟨g, 0, none⟩))
theorem typeOfO (v : Value) (w : World) : (ReflectliteType.typeOf #[.iface 29 v]).run Tryd.prog w = .ok (.iface 130 (.agg #[.pointer (some ⟨16, 29, none⟩)])) w := by kernel_rfl
theorem typeOfS (v : Value) (w : World) : (ReflectliteType.typeOf #[.iface 31 v]).run Tryd.prog w = .ok (.iface 130 (.agg #[.pointer (some ⟨16, 31, none⟩)])) w := by kernel_rfl
theorem typeOfB (v : Value) (w : World) : (ReflectliteType.typeOf #[.iface 33 v]).run Tryd.prog w = .ok (.iface 130 (.agg #[.pointer (some ⟨16, 33, none⟩)])) w := by kernel_rfl
theorem assignableO (w : World) : (enAssign #[.agg #[.pointer (some ⟨16, 29, none⟩)], .iface 130 (.agg #[.pointer (some ⟨16, 57, none⟩)])]).run Tryd.prog w = .ok (.bool false) w := by kernel_rfl
theorem assignableS (w : World) : (enAssign #[.agg #[.pointer (some ⟨16, 31, none⟩)], .iface 130 (.agg #[.pointer (some ⟨16, 57, none⟩)])]).run Tryd.prog w = .ok (.bool false) w := by kernel_rfl
theorem assignableB (w : World) : (enAssign #[.agg #[.pointer (some ⟨16, 33, none⟩)], .iface 130 (.agg #[.pointer (some ⟨16, 57, none⟩)])]).run Tryd.prog w = .ok (.bool false) w := by kernel_rfl
set_option maxHeartbeats 8000000 in
theorem as_tree (w0 : World) (tt a : Addr) (old : Value) (hlt : w0.heap.size ≤ tt.block) : ∀ (n : Nat) (t : ErrT), sz t ≤ n → ∀ (v : Value) (w : World), TR w0 t v → t ≠ .none → Below w0.heap.size w0 w →
    w.cell? tt = some old → w.frozen? tt = false → w.cell? a = some (.pointer (some tt)) →
    Calls Tryd.prog 52 #[v, .iface 59 (.pointer (some tt)), .agg #[.pointer (some ⟨16, 59, none⟩), .pointer (some a), .int .u64 150], .iface 130 (.agg #[.pointer (some ⟨16, 57, none⟩)])] w (AsPost w0 w tt (firstF t)) := by
  have h6 := f_val
  have h35 := f_assign
  have h10 := f_typeOf
  have h11 := f_elemV
  have h12 := f_set
  have tP := typeOfP
  have tE := isTypeOf
  have tO := typeOfO
  have tS := typeOfS
  have tB := typeOfB
  have mA := methodAssignableTo
  have aP := assignableP
  have aE := assignableE
  have aO := assignableO
  have aS := assignableS
  have aB := assignableB
  have v25 := valueOfP
  have nE := noAsE
  have uE := noUnwrapE
  have vE := noUnwrapsE
  have nO := noAsO
  have nS := noAsS
  have nB := noAsB
  have uO := hasUnwrapO
  have uS := noUnwrapS
  have uB := noUnwrapB
  have vS := noUnwrapsS
  have vB := hasUnwrapsB
  have mO := methodUnwrapO
  have mB := methodUnwrapB
  have HLT := Lib.hid hlt
  clear hlt
  intro n
  induction n with
  | zero => intro t hn; have := sz_pos t; omega
  | succ n ih =>
    intro t hn v w hv hne hbw ht0 hf0 ha
    have IH := Lib.hid ih
    have HBW := Lib.hid hbw
    have HT0 := Lib.hid (And.intro ht0 (And.intro hf0 ha))
    clear ih hbw ht0 hf0 ha
    go_enter Tryd.func52, Tryd.ntmps52
    go_wp2_with fail
    obtain ⟨w1, h1⟩ : ∃ w1, w.alloc (.cells #[.pointer (some ⟨16, 59, none⟩), .pointer (some a), .int .u64 150] 103) = w1 := ⟨_, rfl⟩
    have b0 : w1.cell? ⟨w.heap.size, 0, none⟩ = some (.pointer (some ⟨16, 59, none⟩)) := by rw [← h1]; simp
    have b1 : w1.cell? ⟨w.heap.size, 1, none⟩ = some (.pointer (some a)) := by rw [← h1]; simp
    have b2 : w1.cell? ⟨w.heap.size, 2, none⟩ = some (.int .u64 150) := by rw [← h1]; simp
    have hb1 : Below w.heap.size w w1 := by rw [← h1]; exact balloc (bnil w) _
    rw [h1]
    have HBX := Lib.hid (And.intro b0 (And.intro b1 b2))
    have HB1 := Lib.hid hb1
    clear b0 b1 b2 hb1 h1
    go_loopw [0] (fun v wr => ∃ t', TR w0 t' v ∧ t' ≠ .none ∧ sz t' ≤ sz t ∧ firstF t' = firstF t ∧ Below w1.heap.size w1 wr) (fun v _ => tsz w0 v)
    case atStart => exact ⟨t, hv, hne, Nat.le_refl _, rfl, bnil w1⟩
    case round =>
      clear hv hne
      obtain ⟨t', hv, hne, hsz, hf, hbl⟩ := hrel
      have x0 := cpF hbl HBX.out.1
      have x1 := cpF hbl HBX.out.2.1
      have x2 := cpF hbl HBX.out.2.2
      have hww : Below w.heap.size w wr := HB1.out.trans (hbl.mono HB1.out.size)
      have HWW := Lib.hid hww
      have HF := Lib.hid hf
      have HSZ := Lib.hid hsz
      have HBL := Lib.hid hbl
      clear hf hsz hbl hww
      cases t' with
      | none => exact absurd rfl hne
      | root ar =>
        obtain ⟨rfl, ca, ta, har⟩ := hv
        clear har
        go_wp2
        go_ret
        exact .inl ⟨by rw [← HF.out]; rfl, rfl, HWW.out⟩
      | fault op at_ s =>
        obtain ⟨g, x, rfl, hg, hc⟩ := hv
        have hta := cpF HWW.out HT0.out.1
        have hfa : wr.frozen? tt = false := by rw [HWW.out.frozen (World.block_lt_of_cell? _ _ HT0.out.1)]; exact HT0.out.2.1
        have haa := cpF HWW.out HT0.out.2.2
        have htl : tt.block < wr.heap.size := World.block_lt_of_cell? _ _ hta
        have el := elemVPP a tt wr haa
        have st := setP tt ⟨wr.heap.size, 0, none⟩ ⟨g, 0, none⟩ old (wr.alloc (.cells #[.pointer (some ⟨g, 0, none⟩)] 57)) (by simp) (by rw [World.cell?_alloc_lt _ _ tt htl]; exact hta) (by rw [World.frozen?_alloc_old _ _ tt (Nat.ne_of_lt htl)]; exact hfa)
        have HG := Lib.hid (And.intro hg hc)
        clear hg hc
        go_wp2
        go_ret
        exact .inr ⟨op, at_, s, g, x, _, by rw [← HF.out]; rfl, rfl, HG.out.1, HG.out.2, balloc HWW.out _, rfl⟩
      | own s =>
        have hd := tsz_eq hv
        obtain ⟨x, rfl, hc⟩ := hv
        have HD := Lib.hid hd
        have HC := Lib.hid hc
        clear hd hc
        rcases HC.out.shape with rfl | ⟨ty, pv, rfl⟩
        · have hfn : firstF t = none := by rw [← HF.out]; show firstF s = none; rw [HC.out.inj (t' := .none) rfl]; rfl
          have HFN := Lib.hid hfn
          clear hfn
          go_wp2
          go_ret
          exact .inl ⟨HFN.out, rfl, balloc HWW.out _⟩
        · have hsn : s ≠ .none := fun e => by subst e; exact absurd HC.out (by simp [TR])
          have HSN := Lib.hid hsn
          clear hsn
          go_wp2
          go_roundw
          case rel => exact ⟨s, HC.out, HSN.out, by have := HSZ.out; simp only [sz] at this; omega, HF.out, balloc HBL.out _⟩
          case measure => exact Nat.lt_of_le_of_lt (Nat.le_of_eq (tsz_eq (t := s) (show TR w0 s (.iface ty pv) from HC.out))) (by rw [HD.out]; simp [sz])
      | shut s =>
        obtain ⟨x, rfl, hc⟩ := hv
        clear hc
        go_wp2
        go_ret
        exact .inl ⟨by rw [← HF.out]; rfl, rfl, HWW.out⟩
      | both sa sb =>
        generalize wr = wO at *
        obtain ⟨x, y, rfl, hx, hy⟩ := hv
        have HX := Lib.hid hx
        have HY := Lib.hid hy
        clear hx hy
        go_wp2_with fail
        refine (both_unwrap x y _ HX.out.shape HY.out.shape).mono ?_; rintro e w3 ⟨g3, rfl, c0, c1, hb3⟩
        have HC01 := Lib.hid (And.intro c0 c1)
        have HB3 := Lib.hid hb3
        have HX012 := Lib.hid (And.intro x0 (And.intro x1 x2))
        clear c0 c1 hb3 x0 x1 x2
        go_wp2_with fail
        go_loopw [50] (fun ix w4 => ∃ k : Nat, ix = .int .i64 k ∧ (k = 0 ∨ k = 1 ∧ firstF sa = none ∨ k = 2 ∧ firstF sa = none ∧ firstF sb = none) ∧ Below w3.heap.size w3 w4) (fun ix _ => 2 - (intOf ix).toNat)
        case atStart => exact ⟨0, rfl, .inl rfl, bnil w3⟩
        case round =>
          obtain ⟨k, rfl, hk, hb4⟩ := hrel
          have HB4 := Lib.hid hb4
          have hbO : Below wO.heap.size wO wr := HB3.out.trans (hb4.mono HB3.out.size)
          have hbW : Below w.heap.size w wr := HWW.out.trans (hbO.mono HWW.out.size)
          have x0 := cpF hbO HX012.out.1
          have x1 := cpF hbO HX012.out.2.1
          have x2 := cpF hbO HX012.out.2.2
          have HBO := Lib.hid hbO
          have HBWR := Lib.hid hbW
          clear hb4 hbO hbW
          have hszb := HSZ.out
          simp only [sz] at hszb
          have rcl := fun s (hs : sz s ≤ n) z (hz : TR w0 s z) (hn : s ≠ .none) => IH.out s hs z wr hz hn (HBW.out.trans (HBWR.out.mono HBW.out.size)) (cpF HBWR.out HT0.out.1) (by rw [HBWR.out.frozen (World.block_lt_of_cell? _ _ HT0.out.1)]; exact HT0.out.2.1) (cpF HBWR.out HT0.out.2.2)
          have REC := Lib.hid rcl
          clear rcl
          rcases hk with rfl | ⟨rfl, hfa⟩ | ⟨rfl, hfa, hfb⟩
          · have c0 := cpF HB4.out HC01.out.1
            rcases HX.out.shape with rfl | ⟨ty, pv, rfl⟩
            · have hfa : firstF sa = none := by rw [HX.out.inj (t' := .none) rfl]; rfl
              have HFA := Lib.hid hfa
              clear hfa
              go_wp2
              go_roundw
              case rel => exact ⟨1, rfl, .inr (.inl ⟨rfl, HFA.out⟩), HB4.out⟩
              case measure => simp [intOf]
            · have hsn : sa ≠ .none := fun e => by subst e; exact absurd HX.out (by simp [TR])
              go_wp2_with fail
              refine (REC.out sa (by omega) _ HX.out hsn).mono ?_; rintro e w5 h5
              rcases h5 with ⟨hfa, rfl, hb5⟩ | ⟨op, at_, s, g, xx, wm, hfa, rfl, hg, hs, hbm, rfl⟩
              · have HFA := Lib.hid hfa
                have HB5 := Lib.hid (HB4.out.trans (hb5.mono HB4.out.size))
                clear hfa hb5
                go_wp2
                go_roundw
                case rel => exact ⟨1, rfl, .inr (.inl ⟨rfl, HFA.out⟩), HB5.out⟩
                case measure => simp [intOf]
              · have HH := Lib.hid (And.intro hfa (And.intro hg (And.intro hs hbm)))
                clear hfa hg hs hbm
                go_wp2
                go_ret
                exact .inr ⟨op, at_, s, g, xx, wm, by rw [← HF.out]; show (firstF sa).or (firstF sb) = _; rw [HH.out.1]; rfl, rfl, HH.out.2.1, HH.out.2.2.1, HBWR.out.trans (HH.out.2.2.2.mono HBWR.out.size), rfl⟩
          · have c1 := cpF HB4.out HC01.out.2
            have HFA := Lib.hid hfa
            clear hfa
            rcases HY.out.shape with rfl | ⟨ty, pv, rfl⟩
            · have hfb : firstF sb = none := by rw [HY.out.inj (t' := .none) rfl]; rfl
              have HFB := Lib.hid hfb
              clear hfb
              go_wp2
              go_roundw
              case rel => exact ⟨2, rfl, .inr (.inr ⟨rfl, HFA.out, HFB.out⟩), HB4.out⟩
              case measure => simp [intOf]
            · have hsn : sb ≠ .none := fun e => by subst e; exact absurd HY.out (by simp [TR])
              go_wp2_with fail
              refine (REC.out sb (by omega) _ HY.out hsn).mono ?_; rintro e w5 h5
              rcases h5 with ⟨hfb, rfl, hb5⟩ | ⟨op, at_, s, g, xx, wm, hfb, rfl, hg, hs, hbm, rfl⟩
              · have HFB := Lib.hid hfb
                have HB5 := Lib.hid (HB4.out.trans (hb5.mono HB4.out.size))
                clear hfb hb5
                go_wp2
                go_roundw
                case rel => exact ⟨2, rfl, .inr (.inr ⟨rfl, HFA.out, HFB.out⟩), HB5.out⟩
                case measure => simp [intOf]
              · have HH := Lib.hid (And.intro hfb (And.intro hg (And.intro hs hbm)))
                clear hfb hg hs hbm
                go_wp2
                go_ret
                exact .inr ⟨op, at_, s, g, xx, wm, by rw [← HF.out]; show (firstF sa).or (firstF sb) = _; rw [HFA.out, HH.out.1]; rfl, rfl, HH.out.2.1, HH.out.2.2.1, HBWR.out.trans (HH.out.2.2.2.mono HBWR.out.size), rfl⟩
          · have HFA := Lib.hid (And.intro hfa hfb)
            clear hfa hfb
            go_wp2
            go_ret
            exact .inl ⟨by rw [← HF.out]; show (firstF sa).or (firstF sb) = _; rw [HFA.out.1, HFA.out.2]; rfl, rfl, HBWR.out⟩
end Go.Proofs.YtckipboebllkhaaDoor
