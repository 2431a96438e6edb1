/- Package bag: put, Put. -/
import Derived.Test.YtiglilecmieelaaGreatDoorBagF
namespace Go.Proofs.YtiglilecmieelaaGreatDoor
open Go.RowKit
set_option linter.unusedVariables false
set_option maxRecDepth 100000

/-- what a set put into a bag comes to -/
def PutRes (w w' : World) (R : Nat → Addr) (B gB gM n Wd : Nat) (S : List Nat) (rw_ : Nat → Nat) (m : Nat) (e : Ending) : Prop :=
  (∃ j : Nat, j < S.length ∧ S.getD j 0 = m ∧ e = .returned (.tuple #[.int .i64 j, .bool false, .nilIface]) ∧ Below w.heap.size w w') ∨
  (m ∉ S ∧ S.length = 4096 ∧ ∃ g, e = .returned (.tuple #[.int .i64 0, .bool false, .iface 75 (.pointer (some ⟨g, 0, none⟩))]) ∧ w'.heap[g]? = some (bagFault R) ∧ Below w.heap.size w w') ∨
  (m ∉ S ∧ S.length ≠ 4096 ∧ ∃ (gr : Nat) (al' : Option Addr) (cl' : Nat), e = .returned (.tuple #[.int .i64 (S.length : Nat), .bool true, .nilIface]) ∧ BagSt w' B gB gM n Wd (S ++ [m]) (upd rw_ S.length gr) al' cl' ∧ KeepN w w' ∧ Below B w w')
theorem PutRes.up {W w w' : World} {R : Nat → Addr} {B gB gM n Wd : Nat} {S : List Nat} {rw_ : Nat → Nat} {m : Nat} {e : Ending} (h : PutRes w w' R B gB gM n Wd S rw_ m e) (hb : Below W.heap.size W w) (hB : B ≤ W.heap.size) : PutRes W w' R B gB gM n Wd S rw_ m e := by
  rcases h with ⟨j, h1, h2, h3, h4⟩ | ⟨h1, h2, g, h3, h4, h5⟩ | ⟨h1, h2, gr, al, cl, h3, h4, h5, h6⟩
  · exact .inl ⟨j, h1, h2, h3, bstep hb h4⟩
  · exact .inr (.inl ⟨h1, h2, g, h3, h4, bstep hb h5⟩)
  · exact .inr (.inr ⟨h1, h2, gr, al, cl, h3, h4, (KeepN.of hb).trans h5, (hb.mono hB).trans h6⟩)
section
variable {w3 w4 w5 : World} {B gB gM n Wd : Nat} {S : List Nat} {rw_ : Nat → Nat} {al : Option Addr} {cl : Nat}
/-- behind the map's store -/
theorem BagSt.after4 (h : BagSt w3 B gB gM n Wd S rw_ al cl) (hg4 : w3.grownBy w4 (some gM)) : w4.cell? ⟨gB, 1, none⟩ = some (.slice al S.length cl) ∧ w4.heap[gB]? = some (.cells #[.int .i64 n, .slice al S.length cl, .map (some gM)] 106) ∧ w4.ownsRow B 107 1 (.slice al S.length cl) S.length ((List.range S.length).map fun j => Value.slice (some ⟨rw_ j, 0, none⟩) Wd Wd) := by
  obtain ⟨es, ck, hmo⟩ := mapB_obj h.map
  have h34 : ∀ b, b < w3.heap.size → b ≠ gM → w4.heap[b]? = w3.heap[b]? := fun b hb hne => hg4.block b hb fun e => hne (Option.some.inj e)
  have hbx := (h34 gB (heap_ltR h.box) (fun e => by have q := h.box; rw [e, hmo] at q; cases q)).trans h.box
  refine ⟨by simp [World.cell?, hbx], hbx, own_hp h.sets fun b hb => h34 b (h.sets.lt b hb).2 fun e => own_neM h.sets hmo (by rw [hb, e])⟩
theorem BagSt.after5 (hbx : w4.heap[gB]? = some (.cells #[.int .i64 n, .slice al S.length cl, .map (some gM)] 106)) (hs : w4.ownsRow B 107 1 (.slice al S.length cl) S.length ((List.range S.length).map fun j => Value.slice (some ⟨rw_ j, 0, none⟩) Wd Wd)) {v' : Value} {k : Nat} {news : List Value} (ha : Appended B 107 1 w4 w5 (.slice al S.length cl) v' S.length k ((List.range S.length).map fun j => Value.slice (some ⟨rw_ j, 0, none⟩) Wd Wd) news) : w5.cell? ⟨gB, 1, none⟩ = some (.slice al S.length cl) ∧ w5.frozen? ⟨gB, 1, none⟩ = false := by
  have hb5 := (ha.row.block gB (heap_ltR hbx) fun e => own_neT hs hbx (by decide) e.symm).trans hbx
  simp [World.cell?, World.frozen?, hb5]
end
set_option maxHeartbeats 8000000 in
theorem put_ok (w : World) (R : Nat → Addr) (hGl : Glob w R) (B gB gM n Wd : Nat) (S : List Nat) (rw_ : Nat → Nat) (al : Option Addr) (cl m gr : Nat) (h : BagSt w B gB gM n Wd S rw_ al cl) (hgr : w.heap[gr]? = some (.cells (wordsV Wd m).toArray 134)) (hm : m < 2 ^ (64 * Wd)) (hW : Wd ≤ 5) (hL : S.length ≤ 4096) (hB : B ≤ w.heap.size) :
    Calls Tryz.prog 45 #[.pointer (some ⟨gB, 0, none⟩), .slice (some ⟨gr, 0, none⟩) Wd Wd] w fun e w' => PutRes w w' R B gB gM n Wd S rw_ m e := by
  have HKY := Lib.hid (key_ok Wd m gr w hgr hW)
  have HST := Lib.hid h
  have HGR := Lib.hid hgr
  have HM := Lib.hid hm
  have HGL := Lib.hid hGl
  have HB := Lib.hid hB
  have hkey : keyOf Tryz.prog 9 (.string (strOfNums (keyP m (8 * Wd)))) = some (kB Wd m) := by
    have hsz : (strOfNums (keyP m (8 * Wd))).size ≤ maxLen := by
      have h3 : (strOfNums (keyP m (8 * Wd))).size = 8 * Wd := by
        show (strOfNums (keyP m (8 * Wd))).data.size = _
        rw [← Array.length_toList, strOfNums_data]
        simp [keyP]
      rw [h3]; unfold maxLen; omega
    exact WideMaps.keyOf_string_mk Tryz.underlying9 hsz
  obtain ⟨ks, hks⟩ : ∃ ks, strOfNums (keyP m (8 * Wd)) = ks := ⟨_, rfl⟩
  rw [hks] at hkey HKY
  have HKEY := Lib.hid hkey
  clear h hgr hm hGl hB hkey hks
  obtain ⟨L, hLe⟩ : ∃ L, S.length = L := ⟨_, rfl⟩
  have HLE := Lib.hid hLe
  rw [hLe] at hL
  go_enter Tryz.func45, Tryz.ntmps45
  go_wp2_with fail
  refine HKY.out.mono ?_; rintro e w3 ⟨rfl, hb3⟩
  have HB3 := Lib.hid hb3
  have hst3 := HST.out.up hb3
  have HST3 := Lib.hid hst3
  have HGR3 := Lib.hid ((hb3.block _ (heap_ltR HGR.out)).trans HGR.out)
  obtain ⟨x0, x1, x2, f1⟩ := hst3.cells
  have hmap := hst3.map
  have hhas := hst3.has HM.out
  rw [hLe] at x1 hmap hhas
  have HMP := Lib.hid hmap
  clear hb3 hst3 hLe hmap
  by_cases hin : m ∈ S
  · have HH := Lib.hid (hhas.2 hin)
    obtain ⟨i, hi, hie⟩ := List.getElem_of_mem hin
    have hie2 : S.getD i 0 = m := by rw [List.getD_eq_getElem?_getD, List.getElem?_eq_getElem hi]; exact hie
    have hat := HST3.out.at hi
    rw [hie2, HLE.out] at hat
    have HAT := Lib.hid hat
    have HI := Lib.hid (And.intro hi hie2)
    clear hhas hin hie hi hie2 hat
    go_wp2_with (at_lookup; refine wpList_lookup_own_ok_int _ rfl _ _ 103 rfl 9 3 .i64 lawSB Tryz.underlying103 Tryz.underlying3 (zeroIB _) gM L _ rfl HMP.out _ _ rfl HKEY.out ?_; intro cL hatc hwc; rw [HH.out]; (obtain rfl : cL = (i : Int) := (by have q := hatc.symm.trans HAT.out; injection q with q; injection q)); clear hatc hwc)
    go_ret3
    exact .inl ⟨i, HI.out.1, HI.out.2, rfl, HB3.out⟩
  · have hh : Maps.has (mpB Wd S L) (kB Wd m) = false := by
      cases hb : Maps.has (mpB Wd S L) (kB Wd m) with
      | false => rfl
      | true => exact absurd (hhas.1 hb) hin
    have HH := Lib.hid hh
    have HIN := Lib.hid hin
    clear hhas hin hh
    by_cases h4 : L = 4096
    · have h4I : ((L : Int) == 4096) = true := by rw [h4]; rfl
      have H4 := Lib.hid h4
      clear h4
      go_wp2_with (first
        | (at_lookup; refine wpList_lookup_own_ok_int _ rfl _ _ 103 rfl 9 3 .i64 lawSB Tryz.underlying103 Tryz.underlying3 (zeroIB _) gM L _ rfl HMP.out _ _ rfl HKEY.out ?_; intro cL hatc hwc; rw [HH.out]; clear hatc hwc))
      refine (bag_wrong _ _ _ R (HGL.out.up HB3.out) (by rfl)).mono ?_; rintro e w4 ⟨rfl, rfl⟩
      go_wp2
      go_ret3
      refine .inr (.inl ⟨HIN.out, by rw [HLE.out]; exact H4.out, w3.heap.size, rfl, ?_, balloc HB3.out _⟩)
      exact heap_alloc_new w3 _
    · have h4I : ((L : Int) == 4096) = false := by rw [beq_eq_false_iff_ne]; omega
      have H4 := Lib.hid h4
      have HS := Lib.hid HST3.out.sets
      have hBw3 : B ≤ w3.heap.size := Nat.le_trans HB.out HB3.out.size
      clear h4
      go_wp2_with (first
        | (at_lookup; refine wpList_lookup_own_ok_int _ rfl _ _ 103 rfl 9 3 .i64 lawSB Tryz.underlying103 Tryz.underlying3 (zeroIB _) gM L _ rfl HMP.out _ _ rfl HKEY.out ?_; intro cL hatc hwc; rw [HH.out]; clear hatc hwc)
        | (at_mapUpdate; refine wpList_mapUpdate_own _ rfl _ _ _ 103 rfl 9 3 lawSB Tryz.underlying103 _ gM L _ rfl HMP.out (by unfold maxLen; omega) _ _ _ rfl rfl HKEY.out _ [] (plainElem_int Tryz.underlying3 (wf_natB (by omega))) ?_; intro w4 hm4 hg4; obtain ⟨y1, hbx4, hs4⟩ := HST3.out.after4 hg4; rw [HLE.out] at y1; have HM4 := Lib.hid hm4; have HG4 := Lib.hid hg4; have HBX4 := Lib.hid hbx4; have HS4 := Lib.hid hs4; rw [HLE.out] at HS4; have hB4 : B ≤ w4.heap.size := Nat.le_trans hBw3 hg4.size; clear hm4 hg4 hbx4 hs4 x0 x1 x2 f1)
        | (at_builtin; refine apl rfl _ _ _ rfl B et_u64s _ L _ HS4.out rfl 1 _ _ rfl rfl rfl rfl (by unfold maxLen; omega) (by omega) hB4 ?_; intro a5 c5 w5 h5; have HA5 : Hid (Appended B 107 1 w4 w5 (.slice al S.length cl) (.slice a5 (S.length + 1) c5) S.length 1 ((List.range S.length).map fun j => Value.slice (some ⟨rw_ j, 0, none⟩) Wd Wd) [.slice (some ⟨gr, 0, none⟩) Wd Wd]) := (by show Appended _ _ _ _ _ _ _ _ _ _ _; rw [HLE.out]; exact h5); clear h5; obtain ⟨y5, f5⟩ := BagSt.after5 HBX4.out (by rw [HLE.out]; exact HS4.out) HA5.out; rw [HLE.out] at y5))
      go_ret3
      have hm4 := HM4.out
      rw [← HLE.out] at hm4
      obtain ⟨hst6, hk6⟩ := HST3.out.add HGR3.out HM.out HIN.out hm4 HG4.out HA5.out
      rw [HLE.out] at hst6 hk6
      have hb4 : Below B w3 w4 := (Below.refl B w3).grown HG4.out hBw3 fun k hk => by cases hk; exact HST3.out.lay.2
      have hbF : Below B w (w5.setCell ⟨gB, 1, none⟩ (.slice a5 (L + 1) c5)) := (((HB3.out.mono HB.out).trans hb4).trans HA5.out.below).setCell (p := ⟨gB, 1, none⟩) HST3.out.lay.1 _
      refine .inr (.inr ⟨HIN.out, by rw [HLE.out]; exact H4.out, gr, a5, c5, (by rw [HLE.out]; rfl), ?_, (KeepN.of HB3.out).trans hk6, hbF⟩)
      rw [HLE.out]; exact hst6
set_option maxHeartbeats 4000000 in
theorem Put_ok (w : World) (R : Nat → Addr) (hGl : Glob w R) (B gB gM n Wd : Nat) (S : List Nat) (rw_ : Nat → Nat) (al : Option Addr) (cl : Nat) (am : Option Addr) (nm cm : Nat) (ls : List Nat) (h : BagSt w B gB gM n Wd S rw_ al cl) (hWd : (n + 63) / 64 = Wd) (hn : n ≤ 256) (hR : RK .i64 w am nm (ls.map fun x : Nat => (x : Int))) (hnm : nm ≤ 100000) (hls : ∀ x ∈ ls, x < n) (hL : S.length ≤ 4096) (hB : B ≤ w.heap.size) :
    Calls Tryz.prog 19 #[.pointer (some ⟨gB, 0, none⟩), .slice am nm cm] w fun e w' => PutRes w w' R B gB gM n Wd S rw_ (maskB ls) e := by
  have hm : maskB ls < 2 ^ (64 * Wd) := mask_words (n := n) (by omega) hls
  have HBT := Lib.hid (bits_ok n Wd gB _ _ am nm cm ls w h.box hWd hn hR hnm hls)
  have HPT : Hid (∀ w1 gr, Below w.heap.size w w1 → w1.heap[gr]? = some (.cells (wordsV Wd (maskB ls)).toArray 134) → Calls Tryz.prog 45 #[.pointer (some ⟨gB, 0, none⟩), .slice (some ⟨gr, 0, none⟩) Wd Wd] w1 fun e w' => PutRes w1 w' R B gB gM n Wd S rw_ (maskB ls) e) := fun w1 gr hb hgr => put_ok w1 R (hGl.up hb) B gB gM n Wd S rw_ al cl (maskB ls) gr (h.up hb) hgr hm (by omega) hL (Nat.le_trans hB hb.size)
  have HB := Lib.hid hB
  clear hGl h hWd hn hR hnm hls hL hB hm
  go_enter Tryz.func19, Tryz.ntmps19
  go_wp2_with fail
  refine HBT.out.mono ?_; rintro e w1 ⟨gr, rfl, _, hgr, hb⟩
  have HBW := Lib.hid hb
  have HC := Lib.hid (HPT.out w1 gr hb hgr)
  clear hb hgr
  go_wp2_with fail
  refine HC.out.mono ?_
  intro e w2 hres
  have hr := hres.up HBW.out HB.out
  rcases hr with ⟨j, h1, h2, rfl, h4⟩ | ⟨h1, h2, g, rfl, h4, h5⟩ | ⟨h1, h2, gr2, al2, cl2, rfl, h4, h5, h6⟩
  · have HX := Lib.hid (And.intro h1 (And.intro h2 h4))
    clear h1 h2 h4 hres
    go_wp2
    go_ret3
    exact .inl ⟨j, HX.out.1, HX.out.2.1, rfl, HX.out.2.2⟩
  · have HX := Lib.hid (And.intro h1 (And.intro h2 (And.intro h4 h5)))
    clear h1 h2 h4 h5 hres
    go_wp2
    go_ret3
    exact .inr (.inl ⟨HX.out.1, HX.out.2.1, g, rfl, HX.out.2.2.1, HX.out.2.2.2⟩)
  · have HX := Lib.hid (And.intro h1 (And.intro h2 (And.intro h4 (And.intro h5 h6))))
    clear h1 h2 h4 h5 h6 hres
    go_wp2
    go_ret3
    exact .inr (.inr ⟨HX.out.1, HX.out.2.1, gr2, al2, cl2, rfl, HX.out.2.2.1, HX.out.2.2.2.1, HX.out.2.2.2.2⟩)
end Go.Proofs.YtiglilecmieelaaGreatDoor
