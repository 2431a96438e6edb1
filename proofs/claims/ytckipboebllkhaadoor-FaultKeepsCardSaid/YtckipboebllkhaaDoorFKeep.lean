/- edenlaw01.FaultKeeps. -/
import Derived.Test.YtckipboebllkhaaDoorFltG
import Derived.Deep.Cut
namespace Go.Proofs.YtckipboebllkhaaDoor
open Go.RowKit Go.Extern.Stop Go.Stop Go.Extern
set_option linter.unusedVariables false
set_option maxRecDepth 100000

abbrev SO (w : World) (B : Nat) (v : Value) (n : Nat) (l : List ByteArray) : Prop := w.ownsRow B 9 1 v n (strC l)
/-- three rows of texts, each in memory of its own -/
structure Rows3 (w1 w : World) (va vb vk : Value) (na nb nk : Nat) (la lb lk : List ByteArray) : Prop where
  a : SO w w1.heap.size va na la
  b : SO w w1.heap.size vb nb lb
  k : SO w w1.heap.size vk nk lk
  ab : Ap va vb
  ak : Ap va vk
  bk : Ap vb vk
  below : Below w1.heap.size w1 w
theorem ap_later {w w' : World} {B B' n m : Nat} {v u : Value} {l l' : List ByteArray} (h : SO w B v n l) (h' : SO w' B' u m l') (hB : w.heap.size ≤ B') : Ap v u := fun g h1 h2 => by
  have := (h.lt g h1).2
  have := (h'.lt g h2).1
  omega
theorem own_ne {v u : Value} {g : Nat} (h : Ap v u) (hg : v.ownBlock = some g) : u.ownBlock ≠ some g := h g hg
theorem Rows3.setA {w1 w : World} {vb vk : Value} {g n c nb nk j : Nat} {la lb lk : List ByteArray} (h : Rows3 w1 w (.slice (some ⟨g, 0, none⟩) n c) vb vk n nb nk la lb lk) (x : ByteArray) : Rows3 w1 (w.setCell ⟨g, j, none⟩ (.string x)) (.slice (some ⟨g, 0, none⟩) n c) vb vk n nb nk (la.set j x) lb lk :=
  ⟨by have := own_set h.a j (.string x); rwa [strC, ← List.map_set] at this, own_set_other h.b (own_ne h.ab rfl) _, own_set_other h.k (own_ne h.ak rfl) _, h.ab, h.ak, h.bk, h.below.setCell (p := ⟨g, j, none⟩) (h.a.lt g rfl).1 _⟩
theorem Rows3.appA {w1 w w' : World} {va va' vb vk : Value} {n nb nk : Nat} {la lb lk : List ByteArray} {x : ByteArray} (h : Rows3 w1 w va vb vk n nb nk la lb lk) (ha : Appended w1.heap.size 9 1 w w' va va' n 1 (strC la) [.string x]) : Rows3 w1 w' va' vb vk (n + 1) nb nk (la ++ [x]) lb lk :=
  ⟨by have := ha.own; rw [strC, show la.map Value.string ++ [Value.string x] = (la ++ [x]).map Value.string by simp] at this; exact this, ha.keeps h.b h.ab.ne, ha.keeps h.k h.ak.ne, h.ab.app ha (own_lt h.b), h.ak.app ha (own_lt h.k), h.bk, h.below.trans ha.below⟩
theorem Rows3.appB {w1 w w' : World} {va vb vb' vk : Value} {n nb nk : Nat} {la lb lk : List ByteArray} {x : ByteArray} (h : Rows3 w1 w va vb vk n nb nk la lb lk) (hb : Appended w1.heap.size 9 1 w w' vb vb' nb 1 (strC lb) [.string x]) : Rows3 w1 w' va vb' vk n (nb + 1) nk la (lb ++ [x]) lk :=
  ⟨hb.keeps h.a h.ab.symm.ne, by have := hb.own; rw [strC, show lb.map Value.string ++ [Value.string x] = (lb ++ [x]).map Value.string by simp] at this; exact this, hb.keeps h.k h.bk.ne, (h.ab.symm.app hb (own_lt h.a)).symm, h.ak, h.bk.app hb (own_lt h.k), h.below.trans hb.below⟩
theorem SO.cell {w : World} {B g n c j : Nat} {l : List ByteArray} (h : SO w B (.slice (some ⟨g, 0, none⟩) n c) n l) (hj : j < n) : w.cell? ⟨g, j, none⟩ = some (.string (l.getD j ByteArray.empty)) := by
  rw [h.cellAt j (by omega)]
  have : j < l.length := by have := h.1; simp [strC] at this; omega
  simp [strC, this]
theorem set_rep (k : Nat) (u : ByteArray) (bs : List ByteArray) (hk : k < bs.length) : (List.replicate k u ++ bs.drop k).set k u = List.replicate (k + 1) u ++ bs.drop (k + 1) := by
  rw [List.set_append_right _ _ (by simp)]
  simp only [List.length_replicate, Nat.sub_self]
  rw [List.drop_eq_getElem_cons hk, List.set_cons_zero, List.replicate_succ', List.append_assoc]
  rfl
def rootK (R : Nat → Addr) : ErrT := .fault ⟨#[114, 111, 111, 116]⟩ 1 (.root (R 2))
theorem oneStr (l : List ByteArray) : ∀ u ∈ strC l, u.oneCell' = true := by
  intro u hu
  obtain ⟨x, _, rfl⟩ := List.mem_map.1 hu
  rfl
theorem own_nil {w : World} {base sz n c : Nat} {e : TypeId} {a : Option Addr} {cs : List Value} (h : w.ownsRow base e sz (.slice a n c) n cs) : a = none → c = 0 := by
  rintro rfl
  rcases h.2 with ⟨h1, _⟩ | ⟨g, _, _, h1, _⟩
  · cases h1; rfl
  · cases h1
set_option maxHeartbeats 16000000 in
theorem fkeep_row (a : Option Addr) (n c : Nat) (l : List ByteArray) (mark : ByteArray) (w : World) (R : Nat → Addr) (hE : Env w R) (hL : SR w a n l) (hnc : n ≤ c) (hcm : c ≤ maxLen) (hmk : mark.size ≤ 140737488355328) :
    Calls Tryd.prog 4 #[.slice a n c, .string mark] w fun e w' => e = .returned (.bool true) ∧ Below w.heap.size w w' := by
  have HE := Lib.hid hE
  have HL := Lib.hid hL
  have hcm' : c ≤ 9223372036854775807 := hcm
  clear hE hL hcm
  go_enter Tryd.func4, Tryd.ntmps4
  go_wp2_with fail
  refine (awake01 _ R HE.out).mono ?_; rintro e w1 ⟨rfl, hb1⟩
  have HB1 := Lib.hid hb1
  clear hb1
  go_upto_if 20 with (fail)
  go_cut [0] from 16 (fun s0 wx => ∃ N, N ≤ 64 ∧ N ≤ n ∧ s0 = .slice a N c ∧ wx = w1)
  case first =>
    by_cases h64 : (64 : Nat) < n
    · have h64I : (64 : Int) < (n : Int) := by omega
      have h64c : (64 : Int) ≤ (c : Int) := by omega
      go_wp2
      go_meet
      exact ⟨64, by omega, by omega, rfl, rfl⟩
    · have h64I : ¬ (64 : Int) < (n : Int) := by omega
      go_wp2
      go_meet
      exact ⟨n, by omega, by omega, rfl, rfl⟩
  case rest =>
    obtain ⟨N, hN64, hNn, rfl, rfl⟩ := hcut
    have HLN := Lib.hid ((HL.out.up HB1.out).take hNn)
    clear HL
    generalize hl0 : l.take N = l0 at *
    clear hl0
    go_wp2_with fail
    refine (new_err _ _ 3 _ R (HE.out.sent.up HB1.out).glob (by decide)).mono ?_; rintro e w2 ⟨rfl, h2⟩
    have hv2 : TR w2 (rootK R) (.iface 57 (.pointer (some ⟨wc.heap.size, 0, none⟩))) := by rw [h2]; exact (TR.rootR (HE.out.sent.up HB1.out) 3).new _ _
    have hb2 : Below wc.heap.size wc w2 := by rw [h2]; exact balloc (bnil wc) _
    have HV2 := Lib.hid hv2
    have HB2 := Lib.hid hb2
    clear h2 hv2 hb2
    go_wp2_with fail
    go_loopw [5, 6] (fun ev iv wr => ∃ k : Nat, k ≤ N ∧ iv = .int .i64 (k : Nat) ∧ TR wr (chT (rootK R) l0 k) ev ∧ Below wc.heap.size wc wr) (fun _ iv _ => N - (intOf iv).toNat)
    case atStart => exact ⟨0, by omega, rfl, HV2.out, HB2.out⟩
    case round =>
      clear HV2 HB2
      obtain ⟨k, hk, rfl, hv, hb⟩ := hrel
      have HV := Lib.hid hv
      have HB := Lib.hid hb
      clear hv hb
      by_cases hkN : k < N
      · obtain ⟨b0, o0, rfl, hb0, hx⟩ := (HLN.out.up HB.out).addr (by omega)
        have c0 := hx k hkN
        clear hx
        have i0 : (0 : Int) ≤ (k : Int) := by omega
        have i1 : (k : Int) < (N : Int) := by omega
        have iw : IntKind.i64.wrap ((k : Int) + 1) = ((k + 1 : Nat) : Int) := by rw [IntWalk.i64_in _ (by omega)]; rfl
        have HU := Lib.hid (underF_any (l0.getD k ByteArray.empty) (k : Nat) _ _ _ HV.out)
        have HUT := Lib.hid (underT_some (op := l0.getD k ByteArray.empty) (at_ := (k : Int)) (chT_some (t := rootK R) (by simp [rootK]) l0 k))
        generalize hgs : l0.getD k ByteArray.empty = s0 at *
        have HGS := Lib.hid hgs
        clear hgs
        go_wp2_with fail
        refine HU.out.mono ?_; rintro e w4 ⟨u4, rfl, h4, hb4⟩
        rw [HUT.out, ← HGS.out] at h4
        have H4 := Lib.hid h4
        have HB4 := Lib.hid (HB.out.trans (hb4.mono HB.out.size))
        clear h4 hb4
        go_wp2
        go_roundw
        case rel => exact ⟨k + 1, by omega, rfl, H4.out, HB4.out⟩
        case measure => simp [intOf]; omega
      · obtain rfl : k = N := by omega
        generalize hT : chT (rootK R) l0 k = T at *
        have hTl : (opsF T).length = k + 1 := by rw [opsF_len, ← hT, chT_len]; simp [rootK, faultsF]; omega
        have hTl2 : (faultsF T).length ≤ 1000000 := by rw [← opsF_len]; omega
        have HTL := Lib.hid hTl
        clear hT hTl HLN
        generalize wr = wA at *
        go_wp2_with fail
        refine (trail_all T _ _ HV.out (HE.out.et.up (HB1.out.trans (HB.out.mono HB1.out.size))) hTl2).mono ?_; rintro e w5 ⟨a1, n1, c1, rfl, ho1, hb5⟩
        rw [opsF_str] at ho1
        obtain rfl : n1 = k + 1 := by have := ho1.1; simp [strC] at this; have := HTL.out; omega
        have HO1 := Lib.hid ho1
        have HB5 := Lib.hid hb5
        clear ho1 hb5
        go_wp2_with fail
        refine (trail_all T _ _ (HV.out.up HB5.out) (HE.out.et.up (HB1.out.trans ((HB.out.trans (HB5.out.mono HB.out.size)).mono HB1.out.size))) hTl2).mono ?_; rintro e w6 ⟨a2, n2, c2, rfl, ho2, hb6⟩
        rw [opsF_str] at ho2
        obtain rfl : n2 = k + 1 := by have := ho2.1; simp [strC] at this; have := HTL.out; omega
        have HO2 := Lib.hid ho2
        have HB6 := Lib.hid hb6
        clear ho2 hb6
        have hsz6 := HB5.out.size
        have hsz7 := HB6.out.size
        have kk : ((k + 1 : Nat) : Int) = (k : Int) + 1 := rfl
        have wk : IntKind.i64.wrap ((k : Int) + 1) = (k : Int) + 1 := IntWalk.i64_in _ (by omega)
        have ek := own_empty (w := w6) (e := 9) (sz := 1) w6.heap.size w6.heap.size rfl (Nat.le_refl _)
        have r2 := (owns_rd HO2.out).2.al (.cells #[] 9)
        have nil2 := own_nil HO2.out
        have HEK := Lib.hid ek
        have HR2 := Lib.hid r2
        have HN2 := Lib.hid nil2
        clear ek r2 nil2
        go_wp2_with (first
          | (at_builtin; refine apx rfl _ _ _ rfl w6.heap.size et_str _ 0 [] HEK.out rfl a2 (k + 1) c2 (strC (opsF T)) rfl HN2.out HR2.out (oneStr _) (by unfold maxLen; omega) (by omega) (by simp) ?_; intro a3 c3 w7 h7; have H7 := Lib.hid h7; clear h7))
        try simp only [Nat.zero_add]
        obtain ⟨ga, rfl, hga, hga2⟩ := own_form HO1.out (by omega)
        have h7 := H7.out
        have hrows : Rows3 wA w7 (.slice (some ⟨ga, 0, none⟩) (k + 1) c1) (.slice a2 (k + 1) c2) (.slice a3 (k + 1) c3) (k + 1) (k + 1) (k + 1) (opsF T) (opsF T) (opsF T) := by
          have hb67 : Below w6.heap.size w6 w7 := (balloc (bnil w6) (.cells #[] 9)).trans h7.below
          have hk7 : SO w7 w6.heap.size (.slice a3 (k + 1) c3) (k + 1) (opsF T) := by have := h7.own; rwa [Nat.zero_add, List.nil_append] at this
          have ha7 : SO w7 wA.heap.size (.slice (some ⟨ga, 0, none⟩) (k + 1) c1) (k + 1) (opsF T) := owns_up (owns_up HO1.out HB6.out) hb67
          have hb7 : SO w7 w5.heap.size (.slice a2 (k + 1) c2) (k + 1) (opsF T) := owns_up HO2.out hb67
          exact ⟨ha7, owns_base hb7 hsz6, owns_base hk7 (by omega), ap_later HO1.out hb7 (Nat.le_refl _), ap_later (owns_up HO1.out HB6.out) hk7 (Nat.le_refl _), ap_later HO2.out hk7 (Nat.le_refl _), (HB5.out.trans (HB6.out.mono hsz6)).trans (hb67.mono (by omega))⟩
        have HROWS := Lib.hid hrows
        clear h7 hrows
        go_loopw [10] (fun ix wr => ∃ i : Nat, i ≤ k + 1 ∧ ix = .int .i64 (i : Nat) ∧ Rows3 wA wr (.slice (some ⟨ga, 0, none⟩) (k + 1) c1) (.slice a2 (k + 1) c2) (.slice a3 (k + 1) c3) (k + 1) (k + 1) (k + 1) (List.replicate i mark ++ (opsF T).drop i) (opsF T) (opsF T)) (fun ix _ => k + 1 - (intOf ix).toNat)
        case atStart => exact ⟨0, by omega, rfl, HROWS.out⟩
        case round =>
          clear HROWS
          obtain ⟨i, hi, rfl, hr⟩ := hrel
          have HR := Lib.hid hr
          clear hr
          by_cases hik : i < k + 1
          · have z0 := HR.out.a.cell hik
            have f0 := HR.out.a.frozenAt i
            have hs := HR.out.setA (j := i) mark
            rw [set_rep i mark (opsF T) (by rw [HTL.out]; exact hik)] at hs
            have HS := Lib.hid hs
            clear hs
            generalize (List.replicate i mark ++ (opsF T).drop i).getD i ByteArray.empty = z at *
            have j0 : (0 : Int) ≤ (i : Int) := by omega
            have j1 : (i : Int) < (k : Int) + 1 := by omega
            have jw : IntKind.i64.wrap ((i : Int) + 1) = ((i + 1 : Nat) : Int) := by rw [IntWalk.i64_in _ (by omega)]; rfl
            go_wp2
            go_roundw
            case rel => exact ⟨i + 1, by omega, rfl, HS.out⟩
            case measure => simp [intOf]; omega
          · obtain rfl : i = k + 1 := by omega
            have hr2 := HR.out
            rw [List.drop_of_length_le (by rw [HTL.out]; exact Nat.le_refl _), List.append_nil] at hr2
            have HR2' := Lib.hid hr2
            clear hr2 HR
            have j1 : ¬ (k : Int) + 1 < (k : Int) + 1 := by omega
            go_wp2_with fail
            go_loopw [11, 13] (fun gv ix wr => ∃ (i : Nat) (a4 : Option Addr) (c4 : Nat), i ≤ 20 ∧ ix = .int .i64 (i : Nat) ∧ gv = .slice a4 (k + 1 + i) c4 ∧ Rows3 wA wr (.slice a4 (k + 1 + i) c4) (.slice a2 (k + 1) c2) (.slice a3 (k + 1) c3) (k + 1 + i) (k + 1) (k + 1) (List.replicate (k + 1 + i) mark) (opsF T) (opsF T)) (fun _ ix _ => 20 - (intOf ix).toNat)
            case atStart => exact ⟨0, _, _, by omega, rfl, rfl, HR2'.out⟩
            case round =>
              clear HR2'
              obtain ⟨i, a4, c4, hi, rfl, rfl, hr⟩ := hrel
              have HR := Lib.hid hr
              clear hr
              have hzb := HR.out.below.size
              by_cases hik : i < 20
              · have j1 : (i : Int) < 20 := by omega
                have jw : IntKind.i64.wrap ((i : Int) + 1) = ((i + 1 : Nat) : Int) := by rw [IntWalk.i64_in _ (by omega)]; rfl
                go_wp2_with (first
                  | (at_builtin; refine apl rfl _ _ _ rfl wA.heap.size et_str _ (k + 1 + i) _ HR.out.a rfl 1 _ _ rfl rfl rfl rfl (by unfold maxLen; omega) (by omega) hzb ?_; intro a6 c6 w8 h6; have H6 := Lib.hid (HR.out.appA h6); clear h6))
                go_roundw
                case rel => exact ⟨i + 1, a6, c6, by omega, rfl, rfl, by have := H6.out; rwa [← List.replicate_succ'] at this⟩
                case measure => simp [intOf]; omega
              · obtain rfl : i = 20 := by omega
                have hrb : SR wr a2 (k + 1) (opsF T) := SR.own HR.out.b
                have HRB := Lib.hid hrb
                clear hrb
                go_wp2_with fail
                go_loopw [12, 14] (fun hv ix wr => ∃ (i : Nat) (a5 : Option Addr) (c5 : Nat), i ≤ 20 ∧ ix = .int .i64 (i : Nat) ∧ hv = .slice a5 (k + 1 + i) c5 ∧ Rows3 wA wr (.slice a4 (k + 1 + 20) c4) (.slice a5 (k + 1 + i) c5) (.slice a3 (k + 1) c3) (k + 1 + 20) (k + 1 + i) (k + 1) (List.replicate (k + 1 + 20) mark) (opsF T ++ List.replicate i (mark ++ ⟨#[33]⟩)) (opsF T) ∧ SR wr a2 (k + 1) (opsF T)) (fun _ ix _ => 20 - (intOf ix).toNat)
                case atStart => exact ⟨0, _, _, by omega, rfl, rfl, by have := HR.out; rwa [List.replicate_zero, List.append_nil], HRB.out⟩
                case round =>
                  clear HR HRB
                  obtain ⟨i, a5, c5, hi, rfl, rfl, hr, hrb⟩ := hrel
                  have HR := Lib.hid hr
                  have HRB := Lib.hid hrb
                  clear hr hrb
                  have hzb := HR.out.below.size
                  by_cases hik : i < 20
                  · have j1 : (i : Int) < 20 := by omega
                    have jw : IntKind.i64.wrap ((i : Int) + 1) = ((i + 1 : Nat) : Int) := by rw [IntWalk.i64_in _ (by omega)]; rfl
                    go_wp2_with (first
                      | (at_builtin; refine apl rfl _ _ _ rfl wA.heap.size et_str _ (k + 1 + i) _ HR.out.b rfl 1 _ _ rfl rfl rfl rfl (by unfold maxLen; omega) (by omega) hzb ?_; intro a6 c6 w8 h6; have H6 := Lib.hid (And.intro (HR.out.appB h6) (h6.rd_own HO2.out HRB.out.2 (.inr (by omega)))); clear h6))
                    go_roundw
                    case rel =>
                      (repeat apply Exists.intro)
                      exact ⟨⟨i + 1, a6, c6, by omega, rfl, rfl, by have := H6.out.1; rwa [List.append_assoc, ← List.replicate_succ'] at this, HRB.out.1, H6.out.2⟩, rfl⟩
                    case measure => simp [intOf]; omega
                  · obtain rfl : i = 20 := by omega
                    have hga := HR.out.a
                    obtain ⟨g4, rfl, _, _⟩ := own_form hga (by omega)
                    have HGA := Lib.hid hga
                    clear hga
                    go_wp2_with fail
                    go_loopw [15] (fun ix wx => ∃ i : Nat, i ≤ k + 1 + 20 ∧ ix = .int .i64 (i : Nat) ∧ wx = wr) (fun ix _ => k + 1 + 20 - (intOf ix).toNat)
                    case atStart => exact ⟨0, by omega, rfl, rfl⟩
                    case round =>
                      obtain ⟨i, hi, rfl, rfl⟩ := hrel
                      have e21 : ((k + 1 + 20 : Nat) : Int) = (k : Int) + 1 + 20 := by omega
                      by_cases hik : i < k + 1 + 20
                      · have z0 := HGA.out.cell hik
                        rw [show (List.replicate (k + 1 + 20) mark).getD i ByteArray.empty = mark from by simp [hik]] at z0
                        have j0 : (0 : Int) ≤ (i : Int) := by omega
                        have j1 : (i : Int) < (k : Int) + 1 + 20 := by omega
                        have jw : IntKind.i64.wrap ((i : Int) + 1) = ((i + 1 : Nat) : Int) := by rw [IntWalk.i64_in _ (by omega)]; rfl
                        go_wp2
                        go_roundw
                        case rel => exact ⟨i + 1, by omega, rfl, trivial⟩
                        case measure => simp [intOf]; omega
                      · obtain rfl : i = k + 1 + 20 := by omega
                        have j1 : ¬ (k : Int) + 1 + 20 < (k : Int) + 1 + 20 := by omega
                        have jw : IntKind.i64.wrap ((k : Int) + 1 + 20) = (k : Int) + 1 + 20 := IntWalk.i64_in _ (by omega)
                        have hsk : SR wr a3 (k + 1) (opsF T) := SR.own HR.out.k
                        have HSK := Lib.hid hsk
                        have HBX := Lib.hid HR.out.below
                        have HVX := Lib.hid (HV.out.up HR.out.below)
                        clear hsk
                        go_wp2_with fail
                        refine (texts_q _ _ _ _ _ _ _ HRB.out HSK.out (by omega)).mono ?_; rintro e w9 ⟨rfl, q9, rfl⟩
                        go_wp2_with fail
                        refine (trail_all T _ _ (HVX.out.up (bdrewN (bnil _) q9)) (HE.out.et.up (HB1.out.trans ((HB.out.trans ((HBX.out.trans (bdrewN (bnil wr) q9 |>.mono HBX.out.size)).mono HB.out.size)).mono HB1.out.size))) hTl2).mono ?_; rintro e w10 ⟨a9, n9, c9, rfl, ho9, hb9⟩
                        rw [opsF_str] at ho9
                        obtain rfl : n9 = k + 1 := by have := ho9.1; simp [strC] at this; have := HTL.out; omega
                        have HS9 := Lib.hid (SR.own ho9)
                        have HK9 := Lib.hid (HSK.out.up ((bdrewN (bnil _) q9).trans (hb9.mono (bdrewN (bnil _) q9).size)))
                        have HB9 := Lib.hid (HB1.out.trans ((HB.out.trans ((HBX.out.trans (((bdrewN (bnil wr) q9).trans (hb9.mono (bdrewN (bnil wr) q9).size)).mono HBX.out.size)).mono HB.out.size)).mono HB1.out.size))
                        clear ho9 hb9
                        go_wp2_with fail
                        refine (texts_q _ _ _ _ _ _ _ HS9.out HK9.out (by omega)).mono ?_; rintro e w11 ⟨rfl, q11, rfl⟩
                        go_wp2
                        go_ret
                        exact ⟨rfl, bdrewN HB9.out _⟩
end Go.Proofs.YtckipboebllkhaaDoor
