/- edenlaw01.few, built. -/
import Derived.Test.YtckipboebllkhaaDoorFChD
import Derived.Test.YtckipboebllkhaaDoorFChR
import Derived.Deep.RegionWith
namespace Go.Proofs.YtckipboebllkhaaDoor
open Go.RowKit Go.Extern.Stop Go.Stop Go.Extern
set_option linter.unusedVariables false
set_option maxRecDepth 100000

theorem TR.setRow {w : World} {g j : Nat} {cs : Array Value} {u : Value} (hg : w.heap[g]? = some (.cells cs 26 (0, 0))) : ∀ {t : ErrT} {v : Value}, TR w t v → TR (w.setCell ⟨g, j, none⟩ u) t v := by
  intro t
  induction t with
  | none => intro v h; exact h
  | root a =>
    rintro v ⟨h1, c, ty, h2⟩
    refine ⟨h1, ?_⟩
    by_cases e : a.block = g
    · rw [e] at h2 ⊢
      obtain ⟨c', h3⟩ := heap_setCell_sameF (j := j) (u := u) hg
      exact ⟨c', _, h3⟩
    · exact ⟨c, ty, by rw [Below.heap_setCell _ _ _ _ e]; exact h2⟩
  | fault op at_ t ih =>
    rintro v ⟨g', x, h1, h2, h3⟩
    refine ⟨g', x, h1, ?_, ih h3⟩
    rw [Below.heap_setCell _ _ _ _ (fun e => ?_)]
    · exact h2
    · have e2 : g' = g := e
      rw [e2, hg] at h2
      simp [faultObj] at h2
  | own t ih => rintro v ⟨x, h1, h2⟩; exact ⟨x, h1, ih h2⟩
  | shut t ih => rintro v ⟨x, h1, h2⟩; exact ⟨x, h1, ih h2⟩
  | both a b iha ihb => rintro v ⟨x, y, h1, h2, h3⟩; exact ⟨x, y, h1, iha h2, ihb h3⟩

/-- the errors made so far -/
structure BuiltS (W w : World) (R E : Nat → Addr) (N : Nat → Nd) (g n c i : Nat) (vals : Nat → Value) : Prop where
  own : w.ownsRow W.heap.size 26 1 (.slice (some ⟨g, 0, none⟩) n c) n ((List.range n).map vals)
  tr : ∀ j, j < i → TR w (ndT R E N j) (vals j)
  fresh : ∀ j, j < i → nkind N j = 1 → ∀ k, k < 12 → E j ≠ R k
  below : Below W.heap.size W w
theorem own_heapF {w : World} {B sz g n c : Nat} {e : TypeId} {cs : List Value} (h : w.ownsRow B e sz (.slice (some ⟨g, 0, none⟩) n c) n cs) : B ≤ g ∧ ∃ cur, w.heap[g]? = some (.cells cur e (0, 0)) := by
  refine ⟨(h.lt g rfl).1, ?_⟩
  rcases h.2 with ⟨h1, _⟩ | ⟨g', cap, cur, h1, _, hg, _⟩
  · cases h1
  · cases h1
    exact ⟨cur, hg⟩
theorem BuiltS.step {W w w4 : World} {R E E' : Nat → Addr} {N : Nat → Nd} {g n c i : Nat} {vals : Nat → Value} {v : Value} (h : BuiltS W w R E N g n c i vals) (hb : Below w.heap.size w w4) (hE : ∀ j, j < i → E j = E' j) (hf : nkind N i = 1 → ∀ k, k < 12 → E' i ≠ R k) (hv : TR w4 (ndT R E' N i) v) :
    BuiltS W (w4.setCell ⟨g, i, none⟩ v) R E' N g n c (i + 1) (fun j => if j = i then v else vals j) := by
  have ho := owns_up h.own hb
  obtain ⟨hB, cur, hg⟩ := own_heapF ho
  refine ⟨?_, fun j hj => ?_, fun j hj hk => ?_, (h.below.trans (hb.mono h.below.size)).setCell (p := ⟨g, i, none⟩) hB v⟩
  · have := own_set ho i v
    rwa [range_setF] at this
  · by_cases e : j = i
    · subst e
      rw [if_pos rfl]
      exact hv.setRow hg
    · rw [if_neg e, ← ndT_congr (E := E) (E' := E') j (fun q hq _ => hE q (by omega))]
      exact ((h.tr j (by omega)).up hb).setRow hg
  · by_cases e : j = i
    · subst e; exact hf hk
    · rw [← hE j (by omega)]
      exact h.fresh j (by omega) hk
theorem BuiltS.cell {W w : World} {R E : Nat → Addr} {N : Nat → Nd} {g n c i j : Nat} {vals : Nat → Value} (h : BuiltS W w R E N g n c i vals) (hj : j < n) : w.cell? ⟨g, j, none⟩ = some (vals j) := by
  rw [h.own.cellAt j (by omega)]
  simp [hj]
theorem BuiltS.pre {W w : World} {R E : Nat → Addr} {N : Nat → Nd} {g n c i : Nat} {vals : Nat → Value} (h : BuiltS W w R E N g n c i vals) {w' : World} (hb : Below w.heap.size w w') : BuiltS W w' R E N g n c i vals := ⟨owns_up h.own hb, fun j hj => (h.tr j hj).up hb, h.fresh, h.below.trans (hb.mono h.below.size)⟩
theorem few_any (s : Option Addr) (n c : Nat) (w : World) (hnc : n ≤ c) (hcm : c ≤ maxLen) :
    Calls Tryd.prog 16 #[.slice s n c] w fun e w' => ∃ m, e = .returned (.slice s m c) ∧ m ≤ n ∧ m ≤ 12 ∧ w = w' := by
  have hcm' : c ≤ 9223372036854775807 := hcm
  by_cases h : (12 : Nat) < n
  · have h1 : (12 : Int) < (n : Int) := by omega
    have h2 : (12 : Int) ≤ (c : Int) := by omega
    go_enter Tryd.func16, Tryd.ntmps16
    go_wp2
    go_ret
    exact ⟨12, rfl, by omega, by omega, rfl⟩
  · have h1 : ¬ (12 : Int) < (n : Int) := by omega
    go_enter Tryd.func16, Tryd.ntmps16
    go_wp2
    go_ret
    exact ⟨n, rfl, by omega, by omega, rfl⟩
theorem cellF_far {w : World} {B o g j : Nat} {v u : Value} (h : w.cell? ⟨B, o, none⟩ = some v) (hne : B ≠ g) : (w.setCell ⟨g, j, none⟩ u).drew.cell? ⟨B, o, none⟩ = some v := by
  show (w.setCell ⟨g, j, none⟩ u).cell? ⟨B, o, none⟩ = some v
  rw [World.cell?_setCell_far _ _ _ _ (fun e => hne e.symm)]; exact h
theorem cellF_off {w : World} {o g j : Nat} {v u : Value} (h : w.cell? ⟨g, o, none⟩ = some v) (hne : o ≠ j) : (w.setCell ⟨g, j, none⟩ u).drew.cell? ⟨g, o, none⟩ = some v := by
  show (w.setCell ⟨g, j, none⟩ u).cell? ⟨g, o, none⟩ = some v
  rw [World.cell?_setCell_other _ _ _ _ (fun e => hne (congrArg Addr.off e).symm)]; exact h
theorem underN (op : ByteArray) (at_ : Int) (w : World) : Calls Tryd.prog 13 #[.string op, .int .i64 at_, .nilIface] w fun e w' => e = .returned .nilIface ∧ w = w' := by
  go_enter Tryd.func13, Tryd.ntmps13
  go_wp2
  go_ret
  exact ⟨rfl, rfl⟩
theorem underI (op : ByteArray) (at_ : Int) (ty : TypeId) (p : Value) (w : World) : Calls Tryd.prog 13 #[.string op, .int .i64 at_, .iface ty p] w fun e w' => e = .returned (.iface 57 (.pointer (some ⟨w.heap.size, 0, none⟩))) ∧ w' = w.alloc (faultObj op at_ (.iface ty p)) := by
  go_enter Tryd.func13, Tryd.ntmps13
  go_wp2
  go_ret
  exact ⟨rfl, rfl⟩
theorem made_err (n : Nat) : (madeCells Value.nilIface.cells (n * 1)).toList = (List.range n).map fun _ => Value.nilIface := by
  rw [show Value.nilIface.cells = #[.nilIface] from rfl, toList_madeCells_one]
  apply List.ext_getElem?
  intro m
  by_cases h : m < n
  · simp [h]
  · rw [List.getElem?_eq_none (by simp; omega), List.getElem?_eq_none (by simp; omega)]
set_option maxHeartbeats 16000000 in
theorem built_any (R : Nat → Addr) (s : Option Addr) (n c : Nat) (N : Nat → Nd) (hn : n ≤ 12) (W : World) (hS : Sent W R) (h : NdR W s n N) :
    Calls Tryd.prog 17 #[.slice s n c] W fun e w' => ∃ g c' E vals, e = .returned (.slice (some ⟨g, 0, none⟩) n c') ∧ BuiltS W w' R E N g n c' n vals := by
  have HN := Lib.hid h
  have HS := Lib.hid hS
  clear h hS
  go_enter Tryd.func17, Tryd.ntmps17
  go_wp2_with (first
    | (at_make; refine mk_full rfl _ _ _ rfl W.heap.size et_err .i64 .i64 _ _ n rfl rfl (by omega) (by omega) (by omega) (by unfold maxLen; omega) (Nat.le_refl _) ?_; intro w1 hown1 hb1 hsz1; rw [made_err] at hown1; have HST : Hid (BuiltS W w1 R (fun _ => ⟨0, 0, none⟩) N W.heap.size n n 0 (fun _ => .nilIface)) := ⟨hown1, fun j hj => by omega, fun j hj => by omega, hb1⟩; clear hown1 hb1 hsz1))
  obtain ⟨g, hg⟩ : ∃ g, W.heap.size = g := ⟨_, rfl⟩
  rw [hg] at HST
  simp only [hg]
  have HGW := Lib.hid hg
  clear hg
  go_loopw [4] (fun iv wr => ∃ (i : Nat) (E : Nat → Addr) (vals : Nat → Value), i ≤ n ∧ iv = .int .i64 (i : Nat) ∧ BuiltS W wr R E N g n n i vals) (fun iv _ => n - (intOf iv).toNat)
  case atStart => exact ⟨0, _, _, by omega, rfl, HST.out⟩
  case round =>
    clear HST
    obtain ⟨i, E, vals, hi, rfl, hst⟩ := hrel
    have HST := Lib.hid hst
    clear hst
    by_cases hin : i < n
    · have i0 : (0 : Int) ≤ (i : Int) := by omega
      have i1 : (i : Int) < (n : Int) := by omega
      have iw : IntKind.i64.wrap ((i : Int) + 1) = ((i + 1 : Nat) : Int) := by rw [IntWalk.i64_in _ (by omega)]; rfl
      have hk := kinds N i
      generalize wr = wA at *
      go_wp2_with fail
      refine (norm_pos s n c i N _ (HN.out.up HST.out.below) hin hn).mono ?_; rintro e w1 ⟨A, B, rfl, hab, hb1⟩
      obtain ⟨k, hkk⟩ : ∃ k, nkind N i = k := ⟨_, rfl⟩
      have HKK := Lib.hid hkk
      rw [hkk] at hk ⊢
      have HAB := Lib.hid hab
      obtain ⟨nm, hnm⟩ : ∃ nm, (N i).num = nm := ⟨_, rfl⟩
      obtain ⟨atx, hax⟩ : ∃ atx, (N i).at_ = atx := ⟨_, rfl⟩
      obtain ⟨opx, hox⟩ : ∃ opx, (N i).op = opx := ⟨_, rfl⟩
      rw [hnm, hax, hox]
      have HNM := Lib.hid (And.intro hnm (And.intro hax hox))
      clear hab hkk hnm hax hox
      obtain ⟨w2, h2⟩ : ∃ w2, w1.alloc (.cells #[.int .i64 k, .int .i64 nm, .int .i64 atx, .int .i64 A, .int .i64 B, .string opx] 88) = w2 := ⟨_, rfl⟩
      obtain ⟨g7, hg7⟩ : ∃ g7, w1.heap.size = g7 := ⟨_, rfl⟩
      have hb12 : Below w1.heap.size w1 w2 := by rw [← h2]; exact balloc (bnil w1) _
      have c0 : w2.cell? ⟨g7, 0, none⟩ = some (.int .i64 k) := by rw [← h2, ← hg7]; simp
      have c1 : w2.cell? ⟨g7, 1, none⟩ = some (.int .i64 nm) := by rw [← h2, ← hg7]; simp
      have c2 : w2.cell? ⟨g7, 2, none⟩ = some (.int .i64 atx) := by rw [← h2, ← hg7]; simp
      have c3 : w2.cell? ⟨g7, 3, none⟩ = some (.int .i64 A) := by rw [← h2, ← hg7]; simp
      have c4 : w2.cell? ⟨g7, 4, none⟩ = some (.int .i64 B) := by rw [← h2, ← hg7]; simp
      have c5 : w2.cell? ⟨g7, 5, none⟩ = some (.string opx) := by rw [← h2, ← hg7]; simp
      have hst2 := (HST.out.pre hb1).pre hb12
      have HST2 := Lib.hid hst2
      have HB2 := Lib.hid (bstep hb1 hb12)
      have HNE7 : Hid (g7 ≠ g) := by
        have q1 := hb1.size
        have q2 := own_lt HST.out.own g rfl
        show g7 ≠ g
        omega
      have HS2 := Lib.hid (HS.out.up hst2.below)
      have f0 := hst2.own.frozenAt i
      have z0 := hst2.cell hin
      obtain ⟨z, hz⟩ : ∃ z, vals i = z := ⟨_, rfl⟩
      rw [hz] at z0
      have HZ0 := Lib.hid (And.intro z0 f0)
      have H2 := Lib.hid h2
      clear h2 hb1 hb12 hst2 hz
      go_upto_region 6 with (fail)
      rw [H2.out]
      try simp only [hg7]
      clear hg7 H2
      rcases hk with rfl | rfl | rfl | rfl | rfl | rfl | rfl
      · have hst3 := HST2.out.step (w4 := w2) (E' := E) (bnil w2) (fun _ _ => rfl) (fun h => absurd (HKK.out.symm.trans h) (by decide)) (show TR w2 (ndT R E N i) (.iface 126 (.pointer (some (R (rix nm))))) by rw [ndT_0 HKK.out, HNM.out.1]; exact TR.rootR HS2.out nm)
        have HST3 := Lib.hid hst3
        clear hst3
        go_wp2_with fail
        refine (rawRootC nm _ R HS2.out.glob).mono ?_; rintro e w3 ⟨rfl, rfl⟩
        go_wp2
        go_roundw
        case rel => exact ⟨i + 1, E, _, by omega, rfl, HST3.out⟩
        case measure => simp [intOf]; omega
      · have hb3 : Below w2.heap.size w2 (w2.alloc (.cells #[.string opx] 128)) := balloc (bnil w2) _
        have hst3 := HST2.out.step (w4 := w2.alloc (.cells #[.string opx] 128)) (E' := fun j => if j = i then ⟨w2.heap.size, 0, none⟩ else E j) (v := .iface 126 (.pointer (some ⟨w2.heap.size, 0, none⟩))) hb3 (fun j hj => (if_neg (Nat.ne_of_lt hj)).symm)
          (fun _ q hq => by
            rw [if_pos rfl]
            intro e
            obtain ⟨cc, ct, hrow⟩ := HS2.out.row q hq
            have hlt := (Array.getElem?_eq_some_iff.1 hrow).1
            rw [← e] at hlt
            exact absurd hlt (Nat.lt_irrefl _))
          (by rw [ndT_1 HKK.out, if_pos rfl]; exact ⟨rfl, _, _, heap_alloc_new w2 _⟩)
        have HST3 := Lib.hid hst3
        have z3 := cpF hb3 z0
        have f3 := (hb3.frozen (World.block_lt_of_cell? _ _ z0)).trans f0
        clear hst3 hb3
        go_wp2_with fail
        refine (errNew_any opx _).mono ?_; rintro e w3 ⟨rfl, rfl⟩
        go_wp2
        go_roundw
        case rel => exact ⟨i + 1, _, _, by omega, rfl, HST3.out⟩
        case measure => simp [intOf]; omega
      · go_wp2_with fail
        refine (newF_any opx atx nm _ R HS2.out).mono ?_; rintro e w3 ⟨v3, rfl, h3, hb3⟩
        have hst3 := HST2.out.step (w4 := w3) (E' := E) hb3 (fun _ _ => rfl) (fun h => absurd (HKK.out.symm.trans h) (by decide)) (show TR w3 (ndT R E N i) v3 by rw [ndT_2 HKK.out, HNM.out.1, HNM.out.2.1, HNM.out.2.2]; exact h3)
        have HST3 := Lib.hid hst3
        have z3 := cpF hb3 z0
        have f3 := (hb3.frozen (World.block_lt_of_cell? _ _ z0)).trans f0
        have hs3 := h3.shape
        clear hst3 hb3 h3
        rcases hs3 with rfl | ⟨ty, p, rfl⟩
        all_goals
          go_wp2
          go_roundw
          case rel => exact ⟨i + 1, E, _, by omega, rfl, HST3.out⟩
          case measure => simp [intOf]; omega
      · skip
        have h0 := kind_pos (N := N) (i := i) (by rw [HKK.out]; omega)
        obtain ⟨rfl, rfl⟩ := HAB.out h0
        have hlt := (pa_lt (N := N) h0).2
        have hlt2 := (pb_lt (N := N) h0).2
        have p0 : (0 : Int) ≤ (pa N i : Int) := by omega
        have p1 : (pa N i : Int) < (n : Int) := by omega
        have za := HST2.out.cell (j := pa N i) (by omega)
        have hta := HST2.out.tr (pa N i) hlt
        have HTA := Lib.hid hta
        obtain ⟨va, hva⟩ : ∃ va, vals (pa N i) = va := ⟨_, rfl⟩
        rw [hva] at za HTA
        clear hta hva
        have hne7 : g7 ≠ g := HNE7.out
        rcases HTA.out.shape with rfl | ⟨ty, p, rfl⟩
        · have ht : ndT R E N (pa N i) = .none := HTA.out.inj (t' := .none) rfl
          have hst3 := HST2.out.step (w4 := w2.drew) (E' := E) (v := .nilIface) (Below.drew (bnil w2)) (fun _ _ => rfl) (fun h => absurd (HKK.out.symm.trans h) (by decide)) (by rw [ndT_3 HKK.out, ht]; rfl)
          have HST3 : Hid (BuiltS W (w2.setCell ⟨g, i, none⟩ .nilIface).drew R E N g n n (i + 1) (fun j => if j = i then .nilIface else vals j)) := hst3
          clear hst3 ht
          have HS0 : Hid (w2.drew.cell? ⟨g7, 5, none⟩ = some (.string opx) ∧ w2.drew.cell? ⟨g7, 2, none⟩ = some (.int .i64 atx) ∧ w2.drew.cell? ⟨g7, 3, none⟩ = some (.int .i64 (pa N i : Nat)) ∧ w2.drew.cell? ⟨g, pa N i, none⟩ = some (.nilIface)) := ⟨c5, c2, c3, za⟩
          have HS3 : Hid (w2.drew.cell? ⟨g7, 5, none⟩ = some (.string opx) ∧ w2.drew.cell? ⟨g7, 2, none⟩ = some (.int .i64 atx) ∧ w2.drew.cell? ⟨g7, 3, none⟩ = some (.int .i64 (pa N i : Nat)) ∧ w2.drew.cell? ⟨g, pa N i, none⟩ = some (.nilIface)) := ⟨c5, c2, c3, za⟩
          have HS4 : Hid ((w2.setCell ⟨g, i, none⟩ (.nilIface)).drew.cell? ⟨g7, 5, none⟩ = some (.string opx) ∧ (w2.setCell ⟨g, i, none⟩ (.nilIface)).drew.cell? ⟨g7, 2, none⟩ = some (.int .i64 atx) ∧ (w2.setCell ⟨g, i, none⟩ (.nilIface)).drew.cell? ⟨g7, 3, none⟩ = some (.int .i64 (pa N i : Nat)) ∧ (w2.setCell ⟨g, i, none⟩ (.nilIface)).drew.cell? ⟨g, pa N i, none⟩ = some (.nilIface)) := ⟨cellF_far (HS3.out.1) hne7, cellF_far (HS3.out.2.1) hne7, cellF_far (HS3.out.2.2.1) hne7, cellF_off (HS3.out.2.2.2) (Nat.ne_of_lt hlt)⟩
          clear c5 c2 c3 za
          go_wp2_with fail
          go_region_held3 (fun w' => w'.cell? ⟨g7, 5, none⟩ = some (.string opx) ∧ w'.cell? ⟨g7, 2, none⟩ = some (.int .i64 atx) ∧ w'.cell? ⟨g7, 3, none⟩ = some (.int .i64 (pa N i : Nat)) ∧ w'.cell? ⟨g, pa N i, none⟩ = some (.nilIface))
            (first | with_reducible exact HS3.out | with_reducible exact HS0.out | with_reducible exact HS4.out | go_keep)
            (first | (go_at_call 13; refine (underN _ _ _).mono ?_; rintro e w9 ⟨rfl, rfl⟩))
          all_goals
            go_wp2
            go_roundw
            case rel => exact ⟨i + 1, E, _, by omega, rfl, HST3.out⟩
            case measure => simp [intOf]; omega
        · have hne : ndT R E N (pa N i) ≠ .none := fun e => by have h := HTA.out; rw [e] at h; exact absurd h (by simp [TR])
          have hst3 := HST2.out.step (w4 := w2.drew.alloc (faultObj opx atx (.iface ty p))) (E' := E) (v := .iface 57 (.pointer (some ⟨w2.heap.size, 0, none⟩))) (balloc (Below.drew (bnil w2)) _) (fun _ _ => rfl) (fun h => absurd (HKK.out.symm.trans h) (by decide)) (by rw [ndT_3 HKK.out, underT_some hne, HNM.out.2.1, HNM.out.2.2]; exact (HTA.out.up (Below.drew (bnil w2))).new opx atx)
          have HST3 : Hid (BuiltS W ((w2.alloc (faultObj opx atx (.iface ty p))).setCell ⟨g, i, none⟩ (.iface 57 (.pointer (some ⟨w2.heap.size, 0, none⟩)))).drew R E N g n n (i + 1) (fun j => if j = i then .iface 57 (.pointer (some ⟨w2.heap.size, 0, none⟩)) else vals j)) := hst3
          clear hst3 hne
          have hb3 : Below w2.heap.size w2 (w2.alloc (faultObj opx atx (.iface ty p))) := balloc (bnil w2) _
          have z3 := cpF hb3 z0
          have f3 := (hb3.frozen (World.block_lt_of_cell? _ _ z0)).trans f0
          have d5 := cpF hb3 c5
          have d2 := cpF hb3 c2
          have d3 := cpF hb3 c3
          have da := cpF hb3 za
          clear hb3
          have HS0 : Hid (w2.drew.cell? ⟨g7, 5, none⟩ = some (.string opx) ∧ w2.drew.cell? ⟨g7, 2, none⟩ = some (.int .i64 atx) ∧ w2.drew.cell? ⟨g7, 3, none⟩ = some (.int .i64 (pa N i : Nat)) ∧ w2.drew.cell? ⟨g, pa N i, none⟩ = some (.iface ty p)) := ⟨c5, c2, c3, za⟩
          have HS3 : Hid ((w2.alloc (faultObj opx atx (.iface ty p))).drew.cell? ⟨g7, 5, none⟩ = some (.string opx) ∧ (w2.alloc (faultObj opx atx (.iface ty p))).drew.cell? ⟨g7, 2, none⟩ = some (.int .i64 atx) ∧ (w2.alloc (faultObj opx atx (.iface ty p))).drew.cell? ⟨g7, 3, none⟩ = some (.int .i64 (pa N i : Nat)) ∧ (w2.alloc (faultObj opx atx (.iface ty p))).drew.cell? ⟨g, pa N i, none⟩ = some (.iface ty p)) := ⟨d5, d2, d3, da⟩
          have HS4 : Hid (((w2.alloc (faultObj opx atx (.iface ty p))).setCell ⟨g, i, none⟩ (.iface 57 (.pointer (some ⟨w2.heap.size, 0, none⟩)))).drew.cell? ⟨g7, 5, none⟩ = some (.string opx) ∧ ((w2.alloc (faultObj opx atx (.iface ty p))).setCell ⟨g, i, none⟩ (.iface 57 (.pointer (some ⟨w2.heap.size, 0, none⟩)))).drew.cell? ⟨g7, 2, none⟩ = some (.int .i64 atx) ∧ ((w2.alloc (faultObj opx atx (.iface ty p))).setCell ⟨g, i, none⟩ (.iface 57 (.pointer (some ⟨w2.heap.size, 0, none⟩)))).drew.cell? ⟨g7, 3, none⟩ = some (.int .i64 (pa N i : Nat)) ∧ ((w2.alloc (faultObj opx atx (.iface ty p))).setCell ⟨g, i, none⟩ (.iface 57 (.pointer (some ⟨w2.heap.size, 0, none⟩)))).drew.cell? ⟨g, pa N i, none⟩ = some (.iface ty p)) := ⟨cellF_far (HS3.out.1) hne7, cellF_far (HS3.out.2.1) hne7, cellF_far (HS3.out.2.2.1) hne7, cellF_off (HS3.out.2.2.2) (Nat.ne_of_lt hlt)⟩
          clear c5 c2 c3 za d5 d2 d3 da
          go_wp2_with fail
          go_region_held3 (fun w' => w'.cell? ⟨g7, 5, none⟩ = some (.string opx) ∧ w'.cell? ⟨g7, 2, none⟩ = some (.int .i64 atx) ∧ w'.cell? ⟨g7, 3, none⟩ = some (.int .i64 (pa N i : Nat)) ∧ w'.cell? ⟨g, pa N i, none⟩ = some (.iface ty p))
            (first | with_reducible exact HS3.out | with_reducible exact HS0.out | with_reducible exact HS4.out | go_keep)
            (first | (go_at_call 13; refine (underI _ _ _ _ _).mono ?_; rintro e w9 ⟨rfl, rfl⟩))
          all_goals
            go_wp2
            go_roundw
            case rel => exact ⟨i + 1, E, _, by omega, rfl, HST3.out⟩
            case measure => simp [intOf]; omega

      · skip
        have h0 := kind_pos (N := N) (i := i) (by rw [HKK.out]; omega)
        obtain ⟨rfl, rfl⟩ := HAB.out h0
        have hlt := (pa_lt (N := N) h0).2
        have hlt2 := (pb_lt (N := N) h0).2
        have p0 : (0 : Int) ≤ (pa N i : Int) := by omega
        have p1 : (pa N i : Int) < (n : Int) := by omega
        have za := HST2.out.cell (j := pa N i) (by omega)
        have hta := HST2.out.tr (pa N i) hlt
        have HTA := Lib.hid hta
        obtain ⟨va, hva⟩ : ∃ va, vals (pa N i) = va := ⟨_, rfl⟩
        rw [hva] at za HTA
        clear hta hva
        have hst3 := HST2.out.step (w4 := w2) (E' := E) (bnil w2) (fun _ _ => rfl) (fun h => absurd (HKK.out.symm.trans h) (by decide)) (show TR w2 (ndT R E N i) (.iface 29 (.agg #[va])) by rw [ndT_4 HKK.out]; exact ⟨_, rfl, HTA.out⟩)
        have HST3 := Lib.hid hst3
        clear hst3
        rcases HTA.out.shape with rfl | ⟨ty, p, rfl⟩
        all_goals
          go_wp2
          go_roundw
          case rel => exact ⟨i + 1, E, _, by omega, rfl, HST3.out⟩
          case measure => simp [intOf]; omega
      · skip
        have h0 := kind_pos (N := N) (i := i) (by rw [HKK.out]; omega)
        obtain ⟨rfl, rfl⟩ := HAB.out h0
        have hlt := (pa_lt (N := N) h0).2
        have hlt2 := (pb_lt (N := N) h0).2
        have p0 : (0 : Int) ≤ (pa N i : Int) := by omega
        have p1 : (pa N i : Int) < (n : Int) := by omega
        have za := HST2.out.cell (j := pa N i) (by omega)
        have hta := HST2.out.tr (pa N i) hlt
        have HTA := Lib.hid hta
        obtain ⟨va, hva⟩ : ∃ va, vals (pa N i) = va := ⟨_, rfl⟩
        rw [hva] at za HTA
        clear hta hva
        have hst3 := HST2.out.step (w4 := w2) (E' := E) (bnil w2) (fun _ _ => rfl) (fun h => absurd (HKK.out.symm.trans h) (by decide)) (show TR w2 (ndT R E N i) (.iface 31 (.agg #[va])) by rw [ndT_5 HKK.out]; exact ⟨_, rfl, HTA.out⟩)
        have HST3 := Lib.hid hst3
        clear hst3
        rcases HTA.out.shape with rfl | ⟨ty, p, rfl⟩
        all_goals
          go_wp2
          go_roundw
          case rel => exact ⟨i + 1, E, _, by omega, rfl, HST3.out⟩
          case measure => simp [intOf]; omega
      · skip
        have h0 := kind_pos (N := N) (i := i) (by rw [HKK.out]; omega)
        obtain ⟨rfl, rfl⟩ := HAB.out h0
        have hlt := (pa_lt (N := N) h0).2
        have hlt2 := (pb_lt (N := N) h0).2
        have p0 : (0 : Int) ≤ (pa N i : Int) := by omega
        have p1 : (pa N i : Int) < (n : Int) := by omega
        have za := HST2.out.cell (j := pa N i) (by omega)
        have hta := HST2.out.tr (pa N i) hlt
        have HTA := Lib.hid hta
        obtain ⟨va, hva⟩ : ∃ va, vals (pa N i) = va := ⟨_, rfl⟩
        rw [hva] at za HTA
        clear hta hva
        have p2 : (0 : Int) ≤ (pb N i : Int) := by omega
        have p3 : (pb N i : Int) < (n : Int) := by omega
        have zb := HST2.out.cell (j := pb N i) (by omega)
        have htb := HST2.out.tr (pb N i) hlt2
        have HTB := Lib.hid htb
        obtain ⟨vb, hvb⟩ : ∃ vb, vals (pb N i) = vb := ⟨_, rfl⟩
        rw [hvb] at zb HTB
        clear htb hvb
        have hst3 := HST2.out.step (w4 := w2) (E' := E) (bnil w2) (fun _ _ => rfl) (fun h => absurd (HKK.out.symm.trans h) (by decide)) (show TR w2 (ndT R E N i) (.iface 33 (.agg #[va, vb])) by rw [ndT_6 HKK.out]; exact ⟨_, _, rfl, HTA.out, HTB.out⟩)
        have HST3 := Lib.hid hst3
        clear hst3
        have hne7 : g7 ≠ g := HNE7.out
        rcases HTA.out.shape with rfl | ⟨ty, p, rfl⟩
        · skip
          rcases HTB.out.shape with rfl | ⟨ty2, q2, rfl⟩
          · skip
            have HST4 : Hid (BuiltS W (w2.setCell ⟨g, i, none⟩ (.iface 33 (.agg #[.nilIface, .nilIface]))).drew R E N g n n (i + 1) (fun j => if j = i then .iface 33 (.agg #[.nilIface, .nilIface]) else vals j)) := HST3.out.pre (Below.drew (bnil _))
            have HS0 : Hid (w2.drew.cell? ⟨g7, 3, none⟩ = some (.int .i64 (pa N i : Nat)) ∧ w2.drew.cell? ⟨g7, 4, none⟩ = some (.int .i64 (pb N i : Nat)) ∧ w2.drew.cell? ⟨g, pa N i, none⟩ = some (.nilIface) ∧ w2.drew.cell? ⟨g, pb N i, none⟩ = some (.nilIface)) := ⟨c3, c4, za, zb⟩
            have HS4 : Hid ((w2.setCell ⟨g, i, none⟩ (.iface 33 (.agg #[.nilIface, .nilIface]))).drew.cell? ⟨g7, 3, none⟩ = some (.int .i64 (pa N i : Nat)) ∧ (w2.setCell ⟨g, i, none⟩ (.iface 33 (.agg #[.nilIface, .nilIface]))).drew.cell? ⟨g7, 4, none⟩ = some (.int .i64 (pb N i : Nat)) ∧ (w2.setCell ⟨g, i, none⟩ (.iface 33 (.agg #[.nilIface, .nilIface]))).drew.cell? ⟨g, pa N i, none⟩ = some (.nilIface) ∧ (w2.setCell ⟨g, i, none⟩ (.iface 33 (.agg #[.nilIface, .nilIface]))).drew.cell? ⟨g, pb N i, none⟩ = some (.nilIface)) := ⟨cellF_far c3 hne7, cellF_far c4 hne7, cellF_off za (Nat.ne_of_lt hlt), cellF_off zb (Nat.ne_of_lt hlt2)⟩
            clear c3 c4 za zb
            go_wp2_with fail
            go_region_held3 (fun w' => w'.cell? ⟨g7, 3, none⟩ = some (.int .i64 (pa N i : Nat)) ∧ w'.cell? ⟨g7, 4, none⟩ = some (.int .i64 (pb N i : Nat)) ∧ w'.cell? ⟨g, pa N i, none⟩ = some (.nilIface) ∧ w'.cell? ⟨g, pb N i, none⟩ = some (.nilIface))
              (first | with_reducible exact HS0.out | with_reducible exact HS4.out | go_keep)
              (fail)
            all_goals
              go_wp2
              go_roundw
              case rel => exact ⟨i + 1, E, _, by omega, rfl, HST4.out⟩
              case measure => simp [intOf]; omega
          · skip
            have HST4 : Hid (BuiltS W (w2.setCell ⟨g, i, none⟩ (.iface 33 (.agg #[.nilIface, .iface ty2 q2]))).drew R E N g n n (i + 1) (fun j => if j = i then .iface 33 (.agg #[.nilIface, .iface ty2 q2]) else vals j)) := HST3.out.pre (Below.drew (bnil _))
            have HS0 : Hid (w2.drew.cell? ⟨g7, 3, none⟩ = some (.int .i64 (pa N i : Nat)) ∧ w2.drew.cell? ⟨g7, 4, none⟩ = some (.int .i64 (pb N i : Nat)) ∧ w2.drew.cell? ⟨g, pa N i, none⟩ = some (.nilIface) ∧ w2.drew.cell? ⟨g, pb N i, none⟩ = some (.iface ty2 q2)) := ⟨c3, c4, za, zb⟩
            have HS4 : Hid ((w2.setCell ⟨g, i, none⟩ (.iface 33 (.agg #[.nilIface, .iface ty2 q2]))).drew.cell? ⟨g7, 3, none⟩ = some (.int .i64 (pa N i : Nat)) ∧ (w2.setCell ⟨g, i, none⟩ (.iface 33 (.agg #[.nilIface, .iface ty2 q2]))).drew.cell? ⟨g7, 4, none⟩ = some (.int .i64 (pb N i : Nat)) ∧ (w2.setCell ⟨g, i, none⟩ (.iface 33 (.agg #[.nilIface, .iface ty2 q2]))).drew.cell? ⟨g, pa N i, none⟩ = some (.nilIface) ∧ (w2.setCell ⟨g, i, none⟩ (.iface 33 (.agg #[.nilIface, .iface ty2 q2]))).drew.cell? ⟨g, pb N i, none⟩ = some (.iface ty2 q2)) := ⟨cellF_far c3 hne7, cellF_far c4 hne7, cellF_off za (Nat.ne_of_lt hlt), cellF_off zb (Nat.ne_of_lt hlt2)⟩
            clear c3 c4 za zb
            go_wp2_with fail
            go_region_held3 (fun w' => w'.cell? ⟨g7, 3, none⟩ = some (.int .i64 (pa N i : Nat)) ∧ w'.cell? ⟨g7, 4, none⟩ = some (.int .i64 (pb N i : Nat)) ∧ w'.cell? ⟨g, pa N i, none⟩ = some (.nilIface) ∧ w'.cell? ⟨g, pb N i, none⟩ = some (.iface ty2 q2))
              (first | with_reducible exact HS0.out | with_reducible exact HS4.out | go_keep)
              (fail)
            all_goals
              go_wp2
              go_roundw
              case rel => exact ⟨i + 1, E, _, by omega, rfl, HST4.out⟩
              case measure => simp [intOf]; omega
        · skip
          rcases HTB.out.shape with rfl | ⟨ty2, q2, rfl⟩
          · skip
            have HST4 : Hid (BuiltS W (w2.setCell ⟨g, i, none⟩ (.iface 33 (.agg #[.iface ty p, .nilIface]))).drew R E N g n n (i + 1) (fun j => if j = i then .iface 33 (.agg #[.iface ty p, .nilIface]) else vals j)) := HST3.out.pre (Below.drew (bnil _))
            have HS0 : Hid (w2.drew.cell? ⟨g7, 3, none⟩ = some (.int .i64 (pa N i : Nat)) ∧ w2.drew.cell? ⟨g7, 4, none⟩ = some (.int .i64 (pb N i : Nat)) ∧ w2.drew.cell? ⟨g, pa N i, none⟩ = some (.iface ty p) ∧ w2.drew.cell? ⟨g, pb N i, none⟩ = some (.nilIface)) := ⟨c3, c4, za, zb⟩
            have HS4 : Hid ((w2.setCell ⟨g, i, none⟩ (.iface 33 (.agg #[.iface ty p, .nilIface]))).drew.cell? ⟨g7, 3, none⟩ = some (.int .i64 (pa N i : Nat)) ∧ (w2.setCell ⟨g, i, none⟩ (.iface 33 (.agg #[.iface ty p, .nilIface]))).drew.cell? ⟨g7, 4, none⟩ = some (.int .i64 (pb N i : Nat)) ∧ (w2.setCell ⟨g, i, none⟩ (.iface 33 (.agg #[.iface ty p, .nilIface]))).drew.cell? ⟨g, pa N i, none⟩ = some (.iface ty p) ∧ (w2.setCell ⟨g, i, none⟩ (.iface 33 (.agg #[.iface ty p, .nilIface]))).drew.cell? ⟨g, pb N i, none⟩ = some (.nilIface)) := ⟨cellF_far c3 hne7, cellF_far c4 hne7, cellF_off za (Nat.ne_of_lt hlt), cellF_off zb (Nat.ne_of_lt hlt2)⟩
            clear c3 c4 za zb
            go_wp2_with fail
            go_region_held3 (fun w' => w'.cell? ⟨g7, 3, none⟩ = some (.int .i64 (pa N i : Nat)) ∧ w'.cell? ⟨g7, 4, none⟩ = some (.int .i64 (pb N i : Nat)) ∧ w'.cell? ⟨g, pa N i, none⟩ = some (.iface ty p) ∧ w'.cell? ⟨g, pb N i, none⟩ = some (.nilIface))
              (first | with_reducible exact HS0.out | with_reducible exact HS4.out | go_keep)
              (fail)
            all_goals
              go_wp2
              go_roundw
              case rel => exact ⟨i + 1, E, _, by omega, rfl, HST4.out⟩
              case measure => simp [intOf]; omega
          · skip
            have HST4 : Hid (BuiltS W (w2.setCell ⟨g, i, none⟩ (.iface 33 (.agg #[.iface ty p, .iface ty2 q2]))).drew R E N g n n (i + 1) (fun j => if j = i then .iface 33 (.agg #[.iface ty p, .iface ty2 q2]) else vals j)) := HST3.out.pre (Below.drew (bnil _))
            have HS0 : Hid (w2.drew.cell? ⟨g7, 3, none⟩ = some (.int .i64 (pa N i : Nat)) ∧ w2.drew.cell? ⟨g7, 4, none⟩ = some (.int .i64 (pb N i : Nat)) ∧ w2.drew.cell? ⟨g, pa N i, none⟩ = some (.iface ty p) ∧ w2.drew.cell? ⟨g, pb N i, none⟩ = some (.iface ty2 q2)) := ⟨c3, c4, za, zb⟩
            have HS4 : Hid ((w2.setCell ⟨g, i, none⟩ (.iface 33 (.agg #[.iface ty p, .iface ty2 q2]))).drew.cell? ⟨g7, 3, none⟩ = some (.int .i64 (pa N i : Nat)) ∧ (w2.setCell ⟨g, i, none⟩ (.iface 33 (.agg #[.iface ty p, .iface ty2 q2]))).drew.cell? ⟨g7, 4, none⟩ = some (.int .i64 (pb N i : Nat)) ∧ (w2.setCell ⟨g, i, none⟩ (.iface 33 (.agg #[.iface ty p, .iface ty2 q2]))).drew.cell? ⟨g, pa N i, none⟩ = some (.iface ty p) ∧ (w2.setCell ⟨g, i, none⟩ (.iface 33 (.agg #[.iface ty p, .iface ty2 q2]))).drew.cell? ⟨g, pb N i, none⟩ = some (.iface ty2 q2)) := ⟨cellF_far c3 hne7, cellF_far c4 hne7, cellF_off za (Nat.ne_of_lt hlt), cellF_off zb (Nat.ne_of_lt hlt2)⟩
            clear c3 c4 za zb
            go_wp2_with fail
            go_region_held3 (fun w' => w'.cell? ⟨g7, 3, none⟩ = some (.int .i64 (pa N i : Nat)) ∧ w'.cell? ⟨g7, 4, none⟩ = some (.int .i64 (pb N i : Nat)) ∧ w'.cell? ⟨g, pa N i, none⟩ = some (.iface ty p) ∧ w'.cell? ⟨g, pb N i, none⟩ = some (.iface ty2 q2))
              (first | with_reducible exact HS0.out | with_reducible exact HS4.out | go_keep)
              (fail)
            all_goals
              go_wp2
              go_roundw
              case rel => exact ⟨i + 1, E, _, by omega, rfl, HST4.out⟩
              case measure => simp [intOf]; omega
    · obtain rfl : i = n := by omega
      have i1 : ¬ (i : Int) < (i : Int) := by omega
      go_wp2
      go_ret
      exact ⟨g, i, rfl, E, vals, HST.out⟩
end Go.Proofs.YtckipboebllkhaaDoor
