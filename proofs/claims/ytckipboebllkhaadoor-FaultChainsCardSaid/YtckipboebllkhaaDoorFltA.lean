/- Errors as trees (Faults, foreign errors that wrap one, that hide one, that wrap two): errors.Is and errors.As by their contracts. -/
import Derived.Test.YtckipboebllkhaaDoorErrF
namespace Go.Proofs.YtckipboebllkhaaDoor
open Go.RowKit Go.Extern.Stop Go.Stop Go.Extern
set_option linter.unusedVariables false
set_option maxRecDepth 100000

/-- what an error is: nil, an error of errors.New, a Fault, the law's three foreign kinds -/
inductive ErrT where
  | none : ErrT
  | root (a : Addr) : ErrT
  | fault (op : ByteArray) (at_ : Int) (t : ErrT) : ErrT
  | own (t : ErrT) : ErrT
  | shut (t : ErrT) : ErrT
  | both (a b : ErrT) : ErrT
def TR (w : World) : ErrT → Value → Prop
  | .none, v => v = .nilIface
  | .root a, v => v = .iface 126 (.pointer (some a)) ∧ ∃ c t, w.heap[a.block]? = some (.cells c t (0, 0))
  | .fault op at_ t, v => ∃ g x, v = .iface 57 (.pointer (some ⟨g, 0, none⟩)) ∧ w.heap[g]? = some (faultObj op at_ x) ∧ TR w t x
  | .own t, v => ∃ x, v = .iface 29 (.agg #[x]) ∧ TR w t x
  | .shut t, v => ∃ x, v = .iface 31 (.agg #[x]) ∧ TR w t x
  | .both a b, v => ∃ x y, v = .iface 33 (.agg #[x, y]) ∧ TR w a x ∧ TR w b y
theorem TR.up {w w' : World} (hb : Below w.heap.size w w') : ∀ {t : ErrT} {v : Value}, TR w t v → TR w' t v := by
  intro t
  induction t with
  | none => intro v h; exact h
  | root a => rintro v ⟨h1, c, t, h2⟩; exact ⟨h1, c, t, by rw [hb.block _ (Array.getElem?_eq_some_iff.1 h2).1]; exact h2⟩
  | fault op at_ t ih => rintro v ⟨g, x, h1, h2, h3⟩; exact ⟨g, x, h1, by rw [hb.block _ (Array.getElem?_eq_some_iff.1 h2).1]; exact h2, ih h3⟩
  | own t ih => rintro v ⟨x, h1, h2⟩; exact ⟨x, h1, ih h2⟩
  | shut t ih => rintro v ⟨x, h1, h2⟩; exact ⟨x, h1, ih h2⟩
  | both a b iha ihb => rintro v ⟨x, y, h1, h2, h3⟩; exact ⟨x, y, h1, iha h2, ihb h3⟩
def sz : ErrT → Nat
  | .none => 1
  | .root _ => 1
  | .fault _ _ t => sz t + 1
  | .own t => sz t + 1
  | .shut t => sz t + 1
  | .both a b => sz a + sz b + 1
theorem sz_pos (t : ErrT) : 0 < sz t := by cases t <;> simp [sz]
theorem TR.inj {w : World} : ∀ {t t' : ErrT} {v : Value}, TR w t v → TR w t' v → t = t' := by
  intro t
  induction t with
  | none =>
    intro t' v h h'
    cases t' with
    | none => rfl
    | root a => exact absurd (h.symm.trans h'.1) (by simp)
    | fault _ _ _ => obtain ⟨g, x, h1, _⟩ := h'; exact absurd (h.symm.trans h1) (by simp)
    | own _ => obtain ⟨x, h1, _⟩ := h'; exact absurd (h.symm.trans h1) (by simp)
    | shut _ => obtain ⟨x, h1, _⟩ := h'; exact absurd (h.symm.trans h1) (by simp)
    | both _ _ => obtain ⟨x, y, h1, _⟩ := h'; exact absurd (h.symm.trans h1) (by simp)
  | root a =>
    intro t' v h h'
    cases t' with
    | none => exact absurd (h'.symm.trans h.1) (by simp)
    | root b => have := h.1.symm.trans h'.1; cases this; rfl
    | fault _ _ _ => obtain ⟨g, x, h1, _⟩ := h'; exact absurd (h.1.symm.trans h1) (by simp)
    | own _ => obtain ⟨x, h1, _⟩ := h'; exact absurd (h.1.symm.trans h1) (by simp)
    | shut _ => obtain ⟨x, h1, _⟩ := h'; exact absurd (h.1.symm.trans h1) (by simp)
    | both _ _ => obtain ⟨x, y, h1, _⟩ := h'; exact absurd (h.1.symm.trans h1) (by simp)
  | fault op at_ t ih =>
    intro t' v h h'
    obtain ⟨g, x, h1, h2, h3⟩ := h
    cases t' with
    | none => exact absurd (h'.symm.trans h1) (by simp)
    | root b => exact absurd (h1.symm.trans h'.1) (by simp)
    | fault op' at' t' =>
      obtain ⟨g', x', h1', h2', h3'⟩ := h'
      have e := h1.symm.trans h1'
      cases e
      obtain ⟨e1, e2, e3⟩ := faultObj_inj (Option.some.inj (h2.symm.trans h2'))
      subst e1 e2 e3
      rw [ih h3 h3']
    | own _ => obtain ⟨x, h1', _⟩ := h'; exact absurd (h1.symm.trans h1') (by simp)
    | shut _ => obtain ⟨x, h1', _⟩ := h'; exact absurd (h1.symm.trans h1') (by simp)
    | both _ _ => obtain ⟨x, y, h1', _⟩ := h'; exact absurd (h1.symm.trans h1') (by simp)
  | own t ih =>
    intro t' v h h'
    obtain ⟨x, h1, h2⟩ := h
    cases t' with
    | none => exact absurd (h'.symm.trans h1) (by simp)
    | root b => exact absurd (h1.symm.trans h'.1) (by simp)
    | fault _ _ _ => obtain ⟨g, x, h1', _⟩ := h'; exact absurd (h1.symm.trans h1') (by simp)
    | own t' => obtain ⟨x', h1', h2'⟩ := h'; have e := h1.symm.trans h1'; cases e; rw [ih h2 h2']
    | shut _ => obtain ⟨x, h1', _⟩ := h'; exact absurd (h1.symm.trans h1') (by simp)
    | both _ _ => obtain ⟨x, y, h1', _⟩ := h'; exact absurd (h1.symm.trans h1') (by simp)
  | shut t ih =>
    intro t' v h h'
    obtain ⟨x, h1, h2⟩ := h
    cases t' with
    | none => exact absurd (h'.symm.trans h1) (by simp)
    | root b => exact absurd (h1.symm.trans h'.1) (by simp)
    | fault _ _ _ => obtain ⟨g, x, h1', _⟩ := h'; exact absurd (h1.symm.trans h1') (by simp)
    | own _ => obtain ⟨x, h1', _⟩ := h'; exact absurd (h1.symm.trans h1') (by simp)
    | shut t' => obtain ⟨x', h1', h2'⟩ := h'; have e := h1.symm.trans h1'; cases e; rw [ih h2 h2']
    | both _ _ => obtain ⟨x, y, h1', _⟩ := h'; exact absurd (h1.symm.trans h1') (by simp)
  | both a b iha ihb =>
    intro t' v h h'
    obtain ⟨x, y, h1, h2, h3⟩ := h
    cases t' with
    | none => exact absurd (h'.symm.trans h1) (by simp)
    | root b => exact absurd (h1.symm.trans h'.1) (by simp)
    | fault _ _ _ => obtain ⟨g, x, h1', _⟩ := h'; exact absurd (h1.symm.trans h1') (by simp)
    | own _ => obtain ⟨x, h1', _⟩ := h'; exact absurd (h1.symm.trans h1') (by simp)
    | shut _ => obtain ⟨x, h1', _⟩ := h'; exact absurd (h1.symm.trans h1') (by simp)
    | both a' b' => obtain ⟨x', y', h1', h2', h3'⟩ := h'; have e := h1.symm.trans h1'; cases e; rw [iha h2 h2', ihb h3 h3']
theorem TR.shape {w : World} {t : ErrT} {v : Value} (h : TR w t v) : v = .nilIface ∨ ∃ ty p, v = .iface ty p := by
  cases t with
  | none => exact .inl h
  | root a => exact .inr ⟨_, _, h.1⟩
  | fault op at_ t => obtain ⟨g, x, h1, _⟩ := h; exact .inr ⟨_, _, h1⟩
  | own t => obtain ⟨x, h1, _⟩ := h; exact .inr ⟨_, _, h1⟩
  | shut t => obtain ⟨x, h1, _⟩ := h; exact .inr ⟨_, _, h1⟩
  | both a b => obtain ⟨x, y, h1, _⟩ := h; exact .inr ⟨_, _, h1⟩
theorem cpF {w w' : World} {a : Addr} {v : Value} (hb : Below w.heap.size w w') (h : w.cell? a = some v) : w'.cell? a = some v := (hb.cell (World.block_lt_of_cell? _ _ h)).trans h
open Classical in
noncomputable def tsz (w : World) (v : Value) : Nat := if h : ∃ t, TR w t v then sz (Classical.choose h) else 0
theorem tsz_eq {w : World} {v : Value} {t : ErrT} (h : TR w t v) : tsz w v = sz t := by
  unfold tsz
  have hx : ∃ t, TR w t v := ⟨t, h⟩
  rw [dif_pos hx, (Classical.choose_spec hx).inj h]

/-! ### CLOSED FACTS on the law's foreign kinds -/
theorem noIsO (v : Value) (xT : TypeId) (w : World) : (Instr.typeAssert (.iface 29 v) xT 132 true).run Tryd.prog w = .ok (.tuple #[.nilIface, .bool false]) w := run_typeAssert_lacksB Tryd.underlying132 (by kernel_rfl) (by kernel_rfl) v xT w
theorem noIsS (v : Value) (xT : TypeId) (w : World) : (Instr.typeAssert (.iface 31 v) xT 132 true).run Tryd.prog w = .ok (.tuple #[.nilIface, .bool false]) w := run_typeAssert_lacksB Tryd.underlying132 (by kernel_rfl) (by kernel_rfl) v xT w
theorem noIsB (v : Value) (xT : TypeId) (w : World) : (Instr.typeAssert (.iface 33 v) xT 132 true).run Tryd.prog w = .ok (.tuple #[.nilIface, .bool false]) w := run_typeAssert_lacksB Tryd.underlying132 (by kernel_rfl) (by kernel_rfl) v xT w
theorem noIsN (xT : TypeId) (w : World) : (Instr.typeAssert .nilIface xT 132 true).run Tryd.prog w = .ok (.tuple #[.nilIface, .bool false]) w := by kernel_rfl
theorem noAsO (v : Value) (xT : TypeId) (w : World) : (Instr.typeAssert (.iface 29 v) xT 139 true).run Tryd.prog w = .ok (.tuple #[.nilIface, .bool false]) w := run_typeAssert_lacksB Tryd.underlying139 (by kernel_rfl) (by kernel_rfl) v xT w
theorem noAsS (v : Value) (xT : TypeId) (w : World) : (Instr.typeAssert (.iface 31 v) xT 139 true).run Tryd.prog w = .ok (.tuple #[.nilIface, .bool false]) w := run_typeAssert_lacksB Tryd.underlying139 (by kernel_rfl) (by kernel_rfl) v xT w
theorem noAsB (v : Value) (xT : TypeId) (w : World) : (Instr.typeAssert (.iface 33 v) xT 139 true).run Tryd.prog w = .ok (.tuple #[.nilIface, .bool false]) w := run_typeAssert_lacksB Tryd.underlying139 (by kernel_rfl) (by kernel_rfl) v xT w
theorem hasUnwrapO (v : Value) (xT : TypeId) (w : World) : (Instr.typeAssert (.iface 29 v) xT 93 true).run Tryd.prog w = .ok (.tuple #[.iface 29 v, .bool true]) w := run_typeAssert_hasB Tryd.underlying93 (by kernel_rfl) v xT w
theorem noUnwrapS (v : Value) (xT : TypeId) (w : World) : (Instr.typeAssert (.iface 31 v) xT 93 true).run Tryd.prog w = .ok (.tuple #[.nilIface, .bool false]) w := run_typeAssert_lacksB Tryd.underlying93 (by kernel_rfl) (by kernel_rfl) v xT w
theorem noUnwrapB (v : Value) (xT : TypeId) (w : World) : (Instr.typeAssert (.iface 33 v) xT 93 true).run Tryd.prog w = .ok (.tuple #[.nilIface, .bool false]) w := run_typeAssert_lacksB Tryd.underlying93 (by kernel_rfl) (by kernel_rfl) v xT w
theorem noUnwrapN (xT : TypeId) (w : World) : (Instr.typeAssert .nilIface xT 93 true).run Tryd.prog w = .ok (.tuple #[.nilIface, .bool false]) w := by kernel_rfl
theorem noUnwrapsS (v : Value) (xT : TypeId) (w : World) : (Instr.typeAssert (.iface 31 v) xT 135 true).run Tryd.prog w = .ok (.tuple #[.nilIface, .bool false]) w := run_typeAssert_lacksB Tryd.underlying135 (by kernel_rfl) (by kernel_rfl) v xT w
theorem hasUnwrapsB (v : Value) (xT : TypeId) (w : World) : (Instr.typeAssert (.iface 33 v) xT 135 true).run Tryd.prog w = .ok (.tuple #[.iface 33 v, .bool true]) w := run_typeAssert_hasB Tryd.underlying135 (by kernel_rfl) v xT w
theorem noUnwrapsN (xT : TypeId) (w : World) : (Instr.typeAssert .nilIface xT 135 true).run Tryd.prog w = .ok (.tuple #[.nilIface, .bool false]) w := by kernel_rfl
theorem methodUnwrapO (v : Value) (w : World) : (Go.method 291 29 v "Unwrap").run Tryd.prog w = .ok (111, v) w := by kernel_rfl
theorem methodUnwrapB (v : Value) (w : World) : (Go.method 291 33 v "Unwrap").run Tryd.prog w = .ok (114, v) w := by kernel_rfl

theorem both_unwrap (x y : Value) (w : World) (hx : x = .nilIface ∨ ∃ ty p, x = .iface ty p) (hy : y = .nilIface ∨ ∃ ty p, y = .iface ty p) :
    Calls Tryd.prog 114 #[.agg #[x, y]] w fun e w' => ∃ g, e = .returned (.slice (some ⟨g, 0, none⟩) 2 2) ∧ w'.cell? ⟨g, 0, none⟩ = some x ∧ w'.cell? ⟨g, 1, none⟩ = some y ∧ Below w.heap.size w w' := by
  go_enter Tryd.func114, Tryd.ntmps114
  rcases hx with rfl | ⟨tx, px, rfl⟩ <;> rcases hy with rfl | ⟨ty, py, rfl⟩ <;>
    (go_wp2
     go_ret
     refine ⟨_, rfl, ?_, ?_, ?_⟩
     · simp
     · simp
     · exact balloc (balloc (bnil w) _) _)
/-! ### errors.is -/
def finds (b : Addr) : ErrT → Bool
  | .none => false
  | .root a => decide (a = b)
  | .fault _ _ t => finds b t
  | .own t => finds b t
  | .shut _ => false
  | .both x y => finds b x || finds b y
def IsPost (W : World) (r : Bool) (e : Ending) (w' : World) : Prop := e = .returned (.bool r) ∧ Below W.heap.size W w'
set_option maxHeartbeats 8000000 in
theorem is_tree (b : Addr) (cb : Array Value) (tb : TypeId) : ∀ (n : Nat) (t : ErrT), sz t ≤ n → ∀ (v : Value) (w : World), TR w t v → w.heap[b.block]? = some (.cells cb tb (0, 0)) →
    Calls Tryd.prog 48 #[v, .iface 126 (.pointer (some b)), .bool true] w (IsPost w (finds b t)) := by
  obtain ⟨i, hi, hcmp⟩ := Option.map_eq_some_iff.1 isComp
  obtain ⟨j, hj, hjs⟩ := Option.map_eq_some_iff.1 isSize
  have nE := noIsE
  have uE := noUnwrapE
  have vE := noUnwrapsE
  have nF := noIsF
  have uF := hasUnwrapF
  have mU := methodUnwrap
  have nO := noIsO
  have nS := noIsS
  have nB := noIsB
  have nN := noIsN
  have uO := hasUnwrapO
  have uS := noUnwrapS
  have uB := noUnwrapB
  have uN := noUnwrapN
  have vS := noUnwrapsS
  have vB := hasUnwrapsB
  have vN := noUnwrapsN
  have mO := methodUnwrapO
  have mB := methodUnwrapB
  intro n
  induction n with
  | zero => intro t hn; have := sz_pos t; omega
  | succ n ih =>
    intro t hn v w hv hb
    have IH := Lib.hid ih
    clear ih
    go_enter Tryd.func48, Tryd.ntmps48
    go_wp2_with fail
    go_loopw [0] (fun v wr => ∃ t', TR wr t' v ∧ sz t' ≤ sz t ∧ finds b t' = finds b t ∧ Below w.heap.size w wr) (fun v wr => tsz wr v)
    case atStart => exact ⟨t, hv, Nat.le_refl _, rfl, bnil w⟩
    case round =>
      clear hv
      obtain ⟨t', hv, hsz, hf, hbl⟩ := hrel
      have hb2 : wr.heap[b.block]? = some (.cells cb tb (0, 0)) := by rw [hbl.block _ (Array.getElem?_eq_some_iff.1 hb).1]; exact hb
      clear hb
      have HF := Lib.hid hf
      have HSZ := Lib.hid hsz
      have HBL := Lib.hid hbl
      clear hf hsz hbl
      cases t' with
      | none =>
        obtain rfl : _ = Value.nilIface := hv
        have hnl := run_eql_iface_nil_left (P := Tryd.prog) (w := wr) 126 (.pointer (some b)) Tryd.underlying26
        go_wp2
        go_ret
        exact ⟨by rw [← HF.out]; rfl, HBL.out⟩
      | root a =>
        obtain ⟨rfl, ca, ta, ha⟩ := hv
        by_cases hab : a = b
        · subst hab
          have heq := run_eql_iface_ptr_same (P := Tryd.prog) wr a Tryd.underlying26 Tryd.underlying126 hi hcmp hj
          go_wp2
          go_ret
          exact ⟨by rw [← HF.out]; simp [finds], HBL.out⟩
        · have heq := run_eql_iface_ptr_other (P := Tryd.prog) wr Tryd.underlying26 Tryd.underlying126 hi hcmp hj (by rw [hjs]; decide) hab ha hb2
          go_wp2
          go_ret
          exact ⟨by rw [← HF.out]; simp [finds, hab], HBL.out⟩
      | fault op at_ s =>
        have hd := tsz_eq hv
        obtain ⟨g, x, rfl, hg, hc⟩ := hv
        have hd2 := tsz_eq hc
        obtain ⟨c0, c1, c2⟩ := cell_fault hg
        have hty := run_eql_iface_types (P := Tryd.prog) 57 126 (.pointer (some ⟨g, 0, none⟩)) (.pointer (some b)) Tryd.underlying26 (by decide) wr
        have HD := Lib.hid hd
        have HD2 := Lib.hid hd2
        have HC := Lib.hid hc
        clear hd hd2 hc hg hb2
        rcases HC.out.shape with rfl | ⟨ty, pv, rfl⟩
        · have hfn : finds b s = false := by rw [HC.out.inj (t' := .none) rfl]; rfl
          have HFN := Lib.hid hfn
          clear hfn
          have key : finds b t = false := by rw [← HF.out]; exact HFN.out
          have KEY := Lib.hid key
          clear key
          go_wp2
          go_ret
          exact ⟨by rw [KEY.out]; rfl, HBL.out⟩
        · go_wp2
          go_roundw
          case rel => exact ⟨s, HC.out, by have := HSZ.out; simp only [sz] at this; omega, HF.out, HBL.out⟩
          case measure => exact Nat.lt_of_le_of_lt (Nat.le_of_eq (tsz_eq (t := s) (show TR wr s (.iface ty pv) from HC.out))) (by rw [HD.out]; simp [sz])
      | own s =>
        have hd := tsz_eq hv
        obtain ⟨x, rfl, hc⟩ := hv
        have hd2 := tsz_eq hc
        have hty := run_eql_iface_types (P := Tryd.prog) 29 126 (.agg #[x]) (.pointer (some b)) Tryd.underlying26 (by decide) wr
        have HD := Lib.hid hd
        have HD2 := Lib.hid hd2
        have HC := Lib.hid hc
        clear hd hd2 hc hb2
        rcases HC.out.shape with rfl | ⟨ty, pv, rfl⟩
        · have hfn : finds b s = false := by rw [HC.out.inj (t' := .none) rfl]; rfl
          have HFN := Lib.hid hfn
          clear hfn
          have key : finds b t = false := by rw [← HF.out]; exact HFN.out
          have KEY := Lib.hid key
          clear key
          go_wp2
          go_ret
          exact ⟨by rw [KEY.out]; rfl, balloc HBL.out _⟩
        · go_wp2
          go_roundw
          case rel => exact ⟨s, HC.out.up (balloc (bnil wr) _), by have := HSZ.out; simp only [sz] at this; omega, HF.out, balloc HBL.out _⟩
          case measure => exact Nat.lt_of_le_of_lt (Nat.le_of_eq (tsz_eq (t := s) (HC.out.up (balloc (bnil wr) (.cells #[.iface ty pv] 29))))) (by rw [HD.out]; simp [sz])
      | shut s =>
        obtain ⟨x, rfl, hc⟩ := hv
        have hty := run_eql_iface_types (P := Tryd.prog) 31 126 (.agg #[x]) (.pointer (some b)) Tryd.underlying26 (by decide) wr
        clear hc hb2
        go_wp2
        go_ret
        exact ⟨by rw [← HF.out]; rfl, HBL.out⟩
      | both sa sb =>
        generalize wr = wO at *
        obtain ⟨x, y, rfl, hx, hy⟩ := hv
        have hty := run_eql_iface_types (P := Tryd.prog) 33 126 (.agg #[x, y]) (.pointer (some b)) Tryd.underlying26 (by decide) wO
        have HX := Lib.hid hx
        have HY := Lib.hid hy
        have HB2 := Lib.hid hb2
        clear hx hy hb2
        go_wp2_with fail
        refine (both_unwrap x y _ HX.out.shape HY.out.shape).mono ?_; rintro e w3 ⟨g3, rfl, c0, c1, hb3⟩
        have HC01 := Lib.hid (And.intro c0 c1)
        have HB3 := Lib.hid hb3
        clear c0 c1 hb3
        go_wp2_with fail
        go_loopw [45] (fun ix w4 => ∃ k : Nat, ix = .int .i64 k ∧ (k = 0 ∨ k = 1 ∧ finds b sa = false ∨ k = 2 ∧ finds b sa = false ∧ finds b sb = false) ∧ Below w3.heap.size w3 w4) (fun ix _ => 2 - (intOf ix).toNat)
        case atStart => exact ⟨0, rfl, .inl rfl, bnil w3⟩
        case round =>
          obtain ⟨k, rfl, hk, hb4⟩ := hrel
          have HB4 := Lib.hid hb4
          have hbw : Below wO.heap.size wO wr := HB3.out.trans (hb4.mono HB3.out.size)
          have HBW := Lib.hid hbw
          clear hb4 hbw
          have hszb := HSZ.out
          simp only [sz] at hszb
          rcases hk with rfl | ⟨rfl, hfa⟩ | ⟨rfl, hfa, hfb⟩
          · have c0 := cpF HB4.out HC01.out.1
            go_wp2_with fail
            refine (IH.out sa (by omega) x _ (HX.out.up HBW.out) (by rw [HBW.out.block _ (Array.getElem?_eq_some_iff.1 HB2.out).1]; exact HB2.out)).mono ?_; rintro e w5 ⟨rfl, hb5⟩
            obtain ⟨fa, hfa⟩ : ∃ fa, finds b sa = fa := ⟨_, rfl⟩
            rw [hfa]
            have HB5 := Lib.hid (HB4.out.trans (hb5.mono HB4.out.size))
            have HFA := Lib.hid hfa
            clear hb5 hfa
            cases fa with
            | true =>
              go_wp2
              go_ret
              exact ⟨by rw [← HF.out]; simp [finds, HFA.out], HBL.out.trans ((HB3.out.trans (HB5.out.mono HB3.out.size)).mono HBL.out.size)⟩
            | false =>
              go_wp2
              go_roundw
              case rel => exact ⟨1, rfl, .inr (.inl ⟨rfl, HFA.out⟩), HB5.out⟩
              case measure => simp [intOf]
          · have c1 := cpF HB4.out HC01.out.2
            have HFA := Lib.hid hfa
            clear hfa
            go_wp2_with fail
            refine (IH.out sb (by omega) y _ (HY.out.up HBW.out) (by rw [HBW.out.block _ (Array.getElem?_eq_some_iff.1 HB2.out).1]; exact HB2.out)).mono ?_; rintro e w5 ⟨rfl, hb5⟩
            obtain ⟨fb, hfb⟩ : ∃ fb, finds b sb = fb := ⟨_, rfl⟩
            rw [hfb]
            have HB5 := Lib.hid (HB4.out.trans (hb5.mono HB4.out.size))
            have HFB := Lib.hid hfb
            clear hb5 hfb
            cases fb with
            | true =>
              go_wp2
              go_ret
              exact ⟨by rw [← HF.out]; simp [finds, HFB.out], HBL.out.trans ((HB3.out.trans (HB5.out.mono HB3.out.size)).mono HBL.out.size)⟩
            | false =>
              go_wp2
              go_roundw
              case rel => exact ⟨2, rfl, .inr (.inr ⟨rfl, HFA.out, HFB.out⟩), HB5.out⟩
              case measure => simp [intOf]
          · have HFA := Lib.hid (And.intro hfa hfb)
            clear hfa hfb
            go_wp2
            go_ret
            exact ⟨by rw [← HF.out]; simp [finds, HFA.out.1, HFA.out.2], HBL.out.trans (HBW.out.mono HBL.out.size)⟩
end Go.Proofs.YtckipboebllkhaaDoor
