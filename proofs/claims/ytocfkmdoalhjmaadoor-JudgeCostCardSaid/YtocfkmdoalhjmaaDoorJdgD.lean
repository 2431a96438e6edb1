/- judge.Judge for any table, patch and bytes. -/
import Derived.Test.YtocfkmdoalhjmaaDoorJdgE
namespace Go.Proofs.YtocfkmdoalhjmaaDoor
open Go.RowKit
set_option linter.unusedVariables false
set_option maxRecDepth 100000

theorem columns_okJ (w h : Nat) (a : Option Addr) (n c : Nat) (l : List Int) (W : World) (R : Nat → Addr) (hS : Sent W R) (hR : RK .i64 W a n l) (hm : n ≤ maxLen) (hx : I64 l) (hp : IsPatch w h l) (h16 : h ≤ 16) :
    Calls Tryd.prog 51 #[patV w h a n c] W fun e w' => ∃ g c', e = .returned (.tuple #[.slice (some ⟨g, 0, none⟩) w c', .nilIface]) ∧ RK .i64 w' (some ⟨g, 0, none⟩) w (colL w h l) ∧ Below W.heap.size W w' := by
  have hd : colD (w : Int) (h : Int) l = none := by unfold colD; rw [patchErr_of hp]; exact if_neg (by omega)
  have ho : colO (w : Int) (h : Int) l = colL w h l := by unfold colO; rw [hd]; rfl
  refine (columns_any w h a n c l W R hS hR hm hx).mono ?_
  rw [hd, ho]
  rintro e w' ⟨a1, n1, c1, ev, rfl, h1, h2, hb⟩
  obtain rfl : n1 = w := by rw [h1.rk.len, colL_len]
  obtain ⟨g, rfl, _, _⟩ := own_form h1.own hp.w1
  obtain rfl : ev = .nilIface := h2
  exact ⟨g, c1, rfl, h1.rk, hb⟩
def JRet (R : Nat → Addr) (W : World) (y : Nat × ErrD) (e : Ending) (w' : World) : Prop := ∃ ev, e = .returned (.tuple #[.int .i64 (y.1 : Nat), ev]) ∧ EC R w' ev y.2 ∧ Below W.heap.size W w'
def jrE (x : Nat × Option Nat) : Nat × ErrD := (x.1, match x.2 with | some a => some ([(opJudge, (a : Int))], 8) | none => none)
theorem judgeF_gv {t : List Int} {w h : Int} {l bs : List Int} {e : List (ByteArray × Int) × Int} (hg : gvD t w h l = some e) : judgeF t w h l bs = (0, some e) := by unfold judgeF; rw [hg]
theorem judgeF_er {t : List Int} {w h : Int} {l bs : List Int} {y : Int × Int} (hg : gvD t w h l = none) (hd : decF bs = .error y) : judgeF t w h l bs = (0, some ([(opJudge, 2), (opCert, y.1)], y.2)) := by unfold judgeF; rw [hg, hd]
theorem judgeF_sz {t : List Int} {w h cw ch : Int} {l bs : List Int} {L : List (Int × Int × Int)} (hg : gvD t w h l = none) (hd : decF bs = .ok (cw, ch, L)) (hn : cw ≠ w ∨ ch ≠ h) : judgeF t w h l bs = (0, some ([(opJudge, 3)], 8)) := by unfold judgeF; rw [hg, hd]; exact if_pos hn
theorem judgeF_run {t : List Int} {w h : Nat} {l bs : List Int} {L : List (Int × Int × Int)} {JR : Nat × Option Nat} (hg : gvD t (w : Int) (h : Int) l = none) (hd : decF bs = .ok ((w : Int), (h : Int), L)) (hr : judgeRun t (colL w h l) h (4 * 2 ^ h) L 0 [] 0 0 = JR) :
    judgeF t (w : Int) (h : Int) l bs = jrE JR := by
  subst hr
  unfold judgeF
  rw [hg, hd]
  simp only
  rw [if_neg (by simp)]
  simp only [Int.toNat_natCast]
  generalize judgeRun t (colL w h l) h (4 * 2 ^ h) L 0 [] 0 0 = X
  obtain ⟨n, o⟩ := X
  cases o <;> rfl
theorem dec_anyJ (a : Option Addr) (c : Nat) (bs : List Int) (W : World) (R : Nat → Addr) (hG : Glob W R) (hR : RK .u8 W a bs.length bs) (hB : ∀ x ∈ bs, 0 ≤ x ∧ x ≤ 255) (hlen : bs.length ≤ maxLen) :
    Calls Tryd.prog 44 #[.slice a bs.length c] W (DecPost R bs W) := decode_any a c bs W R hG hR.2 hB hlen
theorem colL_bd {w h : Nat} {l : List Int} (hp : IsPatch w h l) (hh : h ≤ 4) {x : Nat} (hx : x < w) : (colL w h l).getD x 0 = (((colL w h l).getD x 0).toNat : Int) ∧ ((colL w h l).getD x 0).toNat < 1024 := by
  have e : (colL w h l).getD x 0 = (colV w l x h : Int) := by simp [colL, hx]
  have h1 := colV_lt hp hx h (Nat.le_refl h)
  have h2 : 2 ^ h ≤ 2 ^ 4 := Nat.pow_le_pow_right (by omega) hh
  have h3 : (2 : Nat) ^ 4 = 16 := by decide
  have h4 : colV w l x h < 16 := Nat.lt_of_lt_of_le h1 (by rw [h3] at h2; exact h2)
  rw [e, Int.toNat_natCast]
  exact ⟨rfl, by omega⟩
set_option maxHeartbeats 16000000 in
theorem judge_any (w h : Int) (a aT aB : Option Addr) (n c nT cT cB : Nat) (l t bs : List Int) (W : World) (R : Nat → Addr) (hS : Sent W R) (hR : RK .i64 W a n l) (hm : n ≤ maxLen) (hx : I64 l) (hT : RK .i64 W aT nT t) (hmT : nT ≤ maxLen) (hBs : RK .u8 W aB bs.length bs) (hBr : ∀ x ∈ bs, 0 ≤ x ∧ x ≤ 255) (hBl : bs.length ≤ maxLen) :
    Calls Tryd.prog 40 #[.slice aT nT cT, patV w h a n c, .slice aB bs.length cB] W (JRet R W (judgeF t w h l bs)) := by
  have T0 := Tk.nil W
  have T1 := T0.add (fun wv => Below W.heap.size W wv) (bnil W)
  clear T0
  have T2 := T1.add (fun wv => Sent wv R) (hS)
  clear T1
  have T3 := T2.add (fun wv => RK .i64 wv a n l) (hR)
  clear T2
  have T4 := T3.add (fun wv => RK .i64 wv aT nT t) (hT)
  clear T3
  have T5 := T4.add (fun wv => RK .u8 wv aB bs.length bs) (hBs)
  clear T4
  have HI6 := Lib.hid hx
  have HBR := Lib.hid hBr
  clear hS hR hT hBs hx hBr
  obtain ⟨Wb, hWb⟩ : ∃ Wb, W.alloc (.cells #[.int .i64 w, .int .i64 h, .slice a n c] 24) = Wb := ⟨_, rfl⟩
  have hbWb : Below W.heap.size W Wb := by rw [← hWb]; exact balloc (bnil W) _
  have T6 := T5.up hbWb
  clear T5
  have T7 := T6.add (fun wv => wv.cell? ⟨W.heap.size, 0, none⟩ = some (.int .i64 w) ∧ wv.cell? ⟨W.heap.size, 1, none⟩ = some (.int .i64 h) ∧ wv.cell? ⟨W.heap.size, 2, none⟩ = some (.slice a n c)) (by rw [← hWb]; exact ⟨cnw (by simp) rfl, cnw (by simp) rfl, cnw (by simp) rfl⟩)
  clear T6
  have HWb := Lib.hid hWb
  clear hWb hbWb
  cases hgv : gvD t w h l with
  | some e0 =>
    have HOD := Lib.hid (judgeF_gv (bs := bs) hgv)
    have HGV := Lib.hid hgv
    clear hgv
    go_enter Tryd.func40, Tryd.ntmps40
    have v_p0 : (W.alloc (.cells #[.int .i64 w, .int .i64 h, .slice a n c] 24)).cell? ⟨W.heap.size, 0, none⟩ = some (.int .i64 w) := by rw [HWb.out]; exact T7.out.2.1
    have v_p1 : (W.alloc (.cells #[.int .i64 w, .int .i64 h, .slice a n c] 24)).cell? ⟨W.heap.size, 1, none⟩ = some (.int .i64 h) := by rw [HWb.out]; exact T7.out.2.2.1
    have v_p2 : (W.alloc (.cells #[.int .i64 w, .int .i64 h, .slice a n c] 24)).cell? ⟨W.heap.size, 2, none⟩ = some (.slice a n c) := by rw [HWb.out]; exact T7.out.2.2.2
    go_wp2_with fail
    rw [HWb.out]
    refine (jgiven_any w h a aT n c nT cT l t Wb R T7.out.1.1.1.1.2 T7.out.1.1.1.2 hm HI6.out T7.out.1.1.2 hmT).mono ?_; rintro e w1 ⟨ev, rfl, he, hbw1⟩
    clear v_p0 v_p1 v_p2
    have T8 := T7.up hbw1
    clear T7
    rw [HGV.out] at he
    have HE := Lib.hid he
    obtain ⟨t9, p9, rfl⟩ := Chain.iface he
    clear he
    go_wp2
    go_ret2
    rw [HOD.out]
    exact ⟨_, rfl, HE.out, T8.out.1.1.1.1.1.2⟩
  | none =>
    obtain ⟨w, h, rfl, rfl, hp, ht, hw8, hh4⟩ := gvD_none hgv
    have HPP := Lib.hid hp
    have HTT := Lib.hid ht
    have HGV := Lib.hid hgv
    clear hgv hp ht
    obtain rfl : nT = 512 := (T7.out.1.1.2).len.trans HTT.out.len
    go_enter Tryd.func40, Tryd.ntmps40
    have v_p0 : (W.alloc (.cells #[.int .i64 w, .int .i64 h, .slice a n c] 24)).cell? ⟨W.heap.size, 0, none⟩ = some (.int .i64 w) := by rw [HWb.out]; exact T7.out.2.1
    have v_p1 : (W.alloc (.cells #[.int .i64 w, .int .i64 h, .slice a n c] 24)).cell? ⟨W.heap.size, 1, none⟩ = some (.int .i64 h) := by rw [HWb.out]; exact T7.out.2.2.1
    have v_p2 : (W.alloc (.cells #[.int .i64 w, .int .i64 h, .slice a n c] 24)).cell? ⟨W.heap.size, 2, none⟩ = some (.slice a n c) := by rw [HWb.out]; exact T7.out.2.2.2
    go_wp2_with fail
    rw [HWb.out]
    refine (jgiven_any w h a aT n c 512 cT l t Wb R T7.out.1.1.1.1.2 T7.out.1.1.1.2 hm HI6.out T7.out.1.1.2 hmT).mono ?_; rintro e w1 ⟨ev, rfl, he, hbw1⟩
    clear v_p0 v_p1 v_p2
    have T8 := T7.up hbw1
    clear T7
    rw [HGV.out] at he
    obtain rfl : ev = .nilIface := he
    go_wp2_with fail
    refine (dec_anyJ aB cB bs w1 R (T8.out.1.1.1.1.2).glob T8.out.1.2 HBR.out hBl).mono ?_; rintro e w2 ⟨hbw2, hdp⟩
    have T9 := T8.up hbw2
    clear T8
    cases hdf : decF bs with
    | error y =>
      rw [hdf] at hdp
      obtain ⟨at0, n0⟩ := y
      obtain ⟨v, rfl, hie⟩ := hdp
      have HOD := Lib.hid (judgeF_er HGV.out hdf)
      clear hdf
      have hec := ec_err T9.out.1.1.1.1.2 hie
      obtain ⟨g9, rfl, _, _⟩ := hie
      have HE := Lib.hid hec
      clear hec
      go_wp2_with fail
      refine (plunder _ _ _ _ _).mono ?_; rintro e w3 ⟨rfl, hw3⟩
      have hb3 : Below w2.heap.size w2 w3 := by rw [hw3]; exact balloc (bnil w2) _
      have he3 : EC R w3 (.iface 117 (.pointer (some ⟨w2.heap.size, 0, none⟩))) (some ([(opJudge, 2), (opCert, at0)], n0)) := by rw [hw3]; exact ec_under opJudge 2 HE.out
      clear hw3
      have T10 := T9.up hb3
      clear T9
      have HE3 := Lib.hid he3
      clear hb3 he3
      go_wp2
      go_ret2
      rw [HOD.out]
      exact ⟨_, rfl, HE3.out, T10.out.1.1.1.1.1.2⟩
    | ok z =>
      obtain ⟨cw, ch, L⟩ := z
      rw [hdf] at hdp
      obtain ⟨a3, c3, rfl, hrow⟩ := hdp
      obtain ⟨w', h', rfl, rfl, hw1', hw8', hh1', hh4', hfit, hLl, hLm⟩ := dec_ok hdf
      have HFIT := Lib.hid hfit
      have HDF := Lib.hid hdf
      have hLlen : L.length ≤ 43690 := by omega
      have T10 := T9.add (fun wv => Rd wv a3 L.length 3 (entsC L)) ((owns_rd hrow).2)
      clear T9
      clear hdf hfit hrow hLm
      by_cases hww : w' = w
      · skip
        subst hww
        by_cases hhh : h' = h
        · skip
          subst hhh
          obtain ⟨JR, hJR⟩ : ∃ JR, judgeRun t (colL w' h' l) h' (4 * 2 ^ h') L 0 [] 0 0 = JR := ⟨_, rfl⟩
          have HOD := Lib.hid (judgeF_run HGV.out HDF.out hJR)
          have HJR := Lib.hid hJR
          clear hJR
          have v_p0 : w2.cell? ⟨W.heap.size, 0, none⟩ = some (.int .i64 w') := T10.out.1.2.1
          have v_p1 : w2.cell? ⟨W.heap.size, 1, none⟩ = some (.int .i64 h') := T10.out.1.2.2.1
          have v_p2 : w2.cell? ⟨W.heap.size, 2, none⟩ = some (.slice a n c) := T10.out.1.2.2.2
          go_wp2_with fail
          refine (columns_okJ w' h' a n c l w2 R T10.out.1.1.1.1.1.2 T10.out.1.1.1.1.2 hm HI6.out HPP.out (by omega)).mono ?_; rintro e w4 ⟨gc, cc, rfl, hcol, hbw4⟩
          clear v_p0 v_p1 v_p2
          have T11 := T10.up hbw4
          clear T10
          have T12 := T11.add (fun wv => RK .i64 wv (some ⟨gc, 0, none⟩) w' (colL w' h' l)) (hcol)
          clear T11
          clear hcol
          have hmm := @run_makeMap Tryd.prog
          obtain ⟨ab, ao, hab0, hab, _⟩ := (T12.out.1.1.1.1.2).addr (by omega)
          subst hab0
          obtain ⟨_, _, hgc0, hgc, _⟩ := (T12.out.2).addr (by omega)
          cases hgc0
          go_wp2_with fail
          obtain ⟨gt, hgt⟩ : ∃ gt, w4.heap.size = gt := ⟨_, rfl⟩
          obtain ⟨wj, hwj⟩ : ∃ wj, (w4.alloc (.cells #[.slice (some ⟨ab, ao, none⟩) 512 cT, .int .i64 0] 137)).alloc (.map #[] 0) = wj := ⟨_, rfl⟩
          have HTB0 : Hid (TB wj gt (some ⟨ab, ao, none⟩) 512 cT 0) := by
            show TB _ _ _ _ _ _
            rw [← hwj, ← hgt, TB, (balloc (bnil _) (.map #[] 0)).block _ (by simp)]
            exact heap_alloc_new w4 _
          have HMP0 : Hid (MapE wj (gt + 1) 0 []) := by
            show MapE _ _ _ _
            rw [← hwj, ← hgt]
            have h := World.ownsMap_made (w4.alloc (.cells #[.slice (some ⟨ab, ao, none⟩) 512 cT, .int .i64 0] 137)) Tryd.prog 82 (unitElem (H := Unit))
            rw [World.size_alloc] at h
            exact h
          have HBJ0 : Hid (Below gt w4 wj) := by rw [← hwj, ← hgt]; exact balloc (balloc (bnil w4) _) _
          have HGT := Lib.hid hgt
          have HAB : Hid (ab ≠ gt ∧ gc ≠ gt ∧ gc < gt) := ⟨by omega, by omega, by omega⟩
          obtain ⟨M, hM⟩ : ∃ M, 4 * 2 ^ h' = M := ⟨_, rfl⟩
          obtain ⟨CL, hCL⟩ : ∃ CL, colL w' h' l = CL := ⟨_, rfl⟩
          have hJ0 := HJR.out
          rw [hM, hCL] at hJ0
          have HJ0 := Lib.hid hJ0
          have hM64 : M ≤ 64 := by
            rw [← hM]
            have := Nat.pow_le_pow_right (n := 2) (by omega) hh4
            have h2 : (2 : Nat) ^ 4 = 16 := by decide
            omega
          have HMC := Lib.hid (And.intro hM hCL)
          try rw [hgt]
          try rw [hgt] at hwj
          try rw [hwj]
          have HST : Hid (Sent w4 R) := T12.out.1.1.1.1.1.1.2
          have HBT : Hid (Below W.heap.size W w4 ∧ W.heap.size ≤ gt) := ⟨T12.out.1.1.1.1.1.1.1.2, by rw [← hgt]; exact (T12.out.1.1.1.1.1.1.1.2).size⟩
          clear hwj hM hCL hJ0 HJR hgt hab hgc hmm
          go_loopw [16, 63] (fun fx ix wr => ∃ i fi nn : Nat, i ≤ L.length ∧ fi ≤ i ∧ nn ≤ 256 * i ∧ ix = .int .i64 (i : Nat) ∧ fx = .int .i64 (fi : Nat) ∧ judgeRun t CL h' M (L.drop i) i (L.take i) fi nn = JR ∧ TB wr gt (some ⟨ab, ao, none⟩) 512 cT nn ∧ MapE wr (gt + 1) i (L.take i) ∧ Below gt w4 wr) (fun _ ix _ => L.length - (intOf ix).toNat)
          case atStart => exact ⟨0, 0, 0, by omega, by omega, by omega, rfl, rfl, HJ0.out, HTB0.out, HMP0.out, HBJ0.out⟩
          case round =>
            obtain ⟨i, fi, nn, hi, hfi, hnn, rfl, rfl, hrun, hz, hmp, hb⟩ := hrel
            have HZ := Lib.hid hz
            have HMP := Lib.hid hmp
            have HBJ := Lib.hid hb
            clear hz hmp hb HTB0 HMP0 HBJ0 HJ0
            generalize wr = wo at *
            have hb0 : Below w4.heap.size w4 wo := by rw [HGT.out]; exact HBJ.out
            have T13 := T12.up hb0
            clear T12
            clear hb0
            by_cases hiL : i < L.length
            · skip
              have hdr : L.drop i = L[i] :: L.drop (i + 1) := List.drop_eq_getElem_cons hiL
              have htk : L.take (i + 1) = L.take i ++ [L[i]] := List.take_succ_eq_append_getElem hiL
              have hft := HFIT.out L[i] (List.getElem_mem hiL)
              obtain ⟨be, oe, rfl, hbe, hce⟩ : ∃ b o, a3 = some ⟨b, o, none⟩ ∧ b < wo.heap.size ∧ ∀ j u, (entsC L)[j]? = some u → wo.cell? ⟨b, o + j, none⟩ = some u := (T13.out.1.2).2.resolve_left (by omega)
              obtain ⟨y0, y1, y2⟩ := ent_cells (bnil wo) hbe hce i hiL
              rw [hdr] at hrun
              unfold judgeRun at hrun
              rw [← htk] at hrun
              obtain ⟨ec, hec⟩ : ∃ ec : Nat, L[i].1 = (ec : Int) := ⟨L[i].1.toNat, by have := hft.a0; omega⟩
              obtain ⟨ea, hea⟩ : ∃ ea : Nat, L[i].2.1 = (ea : Int) := ⟨L[i].2.1.toNat, by have := hft.b0; omega⟩
              obtain ⟨eb, heb⟩ : ∃ eb : Nat, L[i].2.2 = (eb : Int) := ⟨L[i].2.2.toNat, by have := hft.c0; omega⟩
              have hcw : ec < w' := by have := hft.a1; omega
              have hea4 : ea < 64 := by have := hft.b1; rw [HMC.out.1] at this; omega
              have heb4 : eb < 64 := by have := hft.c1; rw [HMC.out.1] at this; omega
              rw [hec] at y0
              rw [hea] at y1
              rw [heb] at y2
              have hLi : L[i] = ((ec : Int), (ea : Int), (eb : Int)) := by rw [← hec, ← hea, ← heb]
              rw [hLi] at hrun htk
              simp only [Int.toNat_natCast] at hrun
              have hcl := colL_bd HPP.out hh4 hcw
              rw [HMC.out.2] at hcl
              obtain ⟨want, hwant⟩ : ∃ want, (CL.getD ec 0).toNat = want := ⟨_, rfl⟩
              rw [hwant] at hcl hrun
              have hw1024 := hcl.2
              obtain ⟨_, _, hgc0, _, hcc⟩ := (T13.out.2).addr (by omega)
              cases hgc0
              have hcW := hcc ec hcw
              rw [HMC.out.2, hcl.1] at hcW
              have HTK := Lib.hid htk
              have HCW := Lib.hid hcW
              have HWF : Hid (Wf3 ((ec : Int), (ea : Int), (eb : Int)) ∧ ∀ y ∈ L.take i, Wf3 y) := ⟨wf3N (by omega) (by omega) (by omega), fun y hy => by
                have hf := HFIT.out y (List.mem_of_mem_take hy)
                have q1 := hf.a0; have q2 := hf.a1; have q3 := hf.b0; have q4 := hf.b1; have q5 := hf.c0; have q6 := hf.c1
                rw [HMC.out.1] at q4 q6
                exact ⟨wf64 q1 (by omega), wf64 q3 (by omega), wf64 q5 (by omega)⟩⟩
              obtain ⟨hk, hb9, hhk⟩ : ∃ hk hb9, holdsF t h' want ec ea eb (L.take i) M 0 0 = (hk, hb9) := ⟨_, _, rfl⟩
              have hkl := (holdsF_le t h' want ec ea eb (L.take i) M 0 0).2
              rw [hhk] at hrun hkl
              simp only at hrun hkl
              have hkl2 : hk ≤ 256 := by
                have : M * h' ≤ 64 * 4 := Nat.mul_le_mul hM64 hh4
                omega
              have i0 : (0 : Int) ≤ (i : Int) := by omega
              have i1 : (i : Int) < (L.length : Int) := by omega
              have hCH := fun (w : World) (h1 : RK .i64 w (some ⟨ab, ao, none⟩) 512 t) (h2 : TB w gt (some ⟨ab, ao, none⟩) 512 cT nn) (h3 : w.cell? ⟨gc, 0 + ec, none⟩ = some (.int .i64 (want : Nat))) (h4 : gc < w.heap.size) (h5 : MapE w (gt + 1) i (L.take i)) => jholds_any gt ab ao cT (gt + 1) i t nn h' ec ea eb want w' a n c gc 0 w' cc (L.take i) w HAB.out.1 (by omega) HAB.out.2.1 h1 h2 (by omega) hh4 (by omega) (by omega) hw1024 hcw (by omega) h3 h4 h5 HWF.out.2
              rw [HMC.out.1, hhk] at hCH
              have HCH := Lib.hid hCH
              clear hCH hhk hcc hcl hwant hLi hec hea heb hft hce hdr htk hcW
              obtain ⟨w5, hw5⟩ : ∃ w5, wo.alloc (.cells #[.int .i64 (ec : Nat), .int .i64 (ea : Nat), .int .i64 (eb : Nat)] 82) = w5 := ⟨_, rfl⟩
              have hbw5 : Below wo.heap.size wo w5 := by rw [← hw5]; exact balloc (bnil wo) _
              have T14 := T13.up hbw5
              clear T13
              have T15 := T14.add (fun wv => wv.cell? ⟨wo.heap.size, 0, none⟩ = some (.int .i64 (ec : Nat)) ∧ wv.cell? ⟨wo.heap.size, 1, none⟩ = some (.int .i64 (ea : Nat)) ∧ wv.cell? ⟨wo.heap.size, 2, none⟩ = some (.int .i64 (eb : Nat))) (by rw [← hw5]; exact ⟨cnw (by simp) rfl, cnw (by simp) rfl, cnw (by simp) rfl⟩)
              clear T14
              have Hw5 := Lib.hid hw5
              clear hw5 hbw5
              have HZ5 : Hid (TB w5 gt (some ⟨ab, ao, none⟩) 512 cT nn) := by show TB _ _ _ _ _ _; rw [← Hw5.out]; exact ((balloc (bnil wo) _).block _ (heap_ltT HZ.out)).trans HZ.out
              have HM5 : Hid (MapE w5 (gt + 1) i (L.take i)) := by show MapE _ _ _ _; rw [← Hw5.out]; exact mapE_grown HMP.out (World.grownBy_alloc wo _ (some gt)) (by omega)
              have HC5 : Hid (w5.cell? ⟨gc, 0 + ec, none⟩ = some (.int .i64 (want : Nat))) := by rw [← Hw5.out]; exact al000 HCW.out
              have HBW : Hid (Below gt w4 w5) := by show Below _ _ _; rw [← Hw5.out]; exact HBJ.out.trans ((balloc (bnil wo) _).mono (Nat.le_of_lt (heap_ltT HZ.out)))
              have HGW : Hid (gc < w5.heap.size ∧ gt < wo.heap.size) := ⟨by have h1 := heap_ltT HZ5.out; have := HAB.out.2.2; omega, heap_ltT HZ.out⟩
              have v_p0 : (wo.alloc (.cells #[.int .i64 (ec : Nat), .int .i64 (ea : Nat), .int .i64 (eb : Nat)] 82)).cell? ⟨W.heap.size, 0, none⟩ = some (.int .i64 w') := by rw [Hw5.out]; exact T15.out.1.1.1.2.1
              have v_p1 : (wo.alloc (.cells #[.int .i64 (ec : Nat), .int .i64 (ea : Nat), .int .i64 (eb : Nat)] 82)).cell? ⟨W.heap.size, 1, none⟩ = some (.int .i64 h') := by rw [Hw5.out]; exact T15.out.1.1.1.2.2.1
              have v_p2 : (wo.alloc (.cells #[.int .i64 (ec : Nat), .int .i64 (ea : Nat), .int .i64 (eb : Nat)] 82)).cell? ⟨W.heap.size, 2, none⟩ = some (.slice a n c) := by rw [Hw5.out]; exact T15.out.1.1.1.2.2.2
              have v_x0 : (wo.alloc (.cells #[.int .i64 (ec : Nat), .int .i64 (ea : Nat), .int .i64 (eb : Nat)] 82)).cell? ⟨wo.heap.size, 0, none⟩ = some (.int .i64 (ec : Nat)) := by rw [Hw5.out]; exact T15.out.2.1
              have v_x1 : (wo.alloc (.cells #[.int .i64 (ec : Nat), .int .i64 (ea : Nat), .int .i64 (eb : Nat)] 82)).cell? ⟨wo.heap.size, 1, none⟩ = some (.int .i64 (ea : Nat)) := by rw [Hw5.out]; exact T15.out.2.2.1
              have v_x2 : (wo.alloc (.cells #[.int .i64 (ec : Nat), .int .i64 (ea : Nat), .int .i64 (eb : Nat)] 82)).cell? ⟨wo.heap.size, 2, none⟩ = some (.int .i64 (eb : Nat)) := by rw [Hw5.out]; exact T15.out.2.2.2
              go_wp2_with fail
              rw [Hw5.out]
              refine (HCH.out w5 T15.out.1.1.1.1.1.2 HZ5.out HC5.out HGW.out.1 HM5.out).mono ?_; rintro e w6 ⟨rfl, hz6, hg6⟩
              have HZ6 := Lib.hid hz6
              have hx6 : ∀ k v, w5.cell? ⟨wo.heap.size, k, none⟩ = some v → w6.cell? ⟨wo.heap.size, k, none⟩ = some v := fun k v h => grown_cell hg6 (by show wo.heap.size ≠ gt; have := HGW.out.2; omega) h
              have HX6 : Hid (w6.cell? ⟨wo.heap.size, 0, none⟩ = some (.int .i64 (ec : Nat)) ∧ w6.cell? ⟨wo.heap.size, 1, none⟩ = some (.int .i64 (ea : Nat)) ∧ w6.cell? ⟨wo.heap.size, 2, none⟩ = some (.int .i64 (eb : Nat))) := ⟨hx6 _ _ T15.out.2.1, hx6 _ _ T15.out.2.2.1, hx6 _ _ T15.out.2.2.2⟩
              have HB6 : Hid (Below gt w4 w6) := HBW.out.grown hg6 (by have h1 := HGW.out.2; have h2 := heap_ltT HZ5.out; omega) (fun k e => by cases e; exact Nat.le_refl _)
              have HM6 : Hid (MapE w6 (gt + 1) i (L.take i)) := mapE_grown HM5.out hg6 (by omega)
              have HT6 : Hid (Sent w6 R) := HST.out.up (by rw [HGT.out]; exact HB6.out)
              clear hz6 hg6 hx6 HCH HZ5 HM5 HC5 HBW v_p0 v_p1 v_p2 v_x0 v_x1 v_x2
              cases hb9 with
              | false =>
                have HRUN : Hid ((nn + hk, some (4 + i)) = JR) := hrun
                clear hrun
                have z1 := (tb_cells HZ6.out).1.2
                have iw : IntKind.i64.wrap (4 + (i : Int)) = 4 + (i : Int) := IntWalk.i64_in _ (by omega)
                have HS0 : Hid (w6.drew.cell? ⟨gt, 1, none⟩ = some (.int .i64 ((nn + hk : Nat) : Int))) := z1
                have HTD : Hid (Sent w6.drew R) := HT6.out.up (Below.drew (bnil _))
                clear z1
                go_wp2_with fail
                go_region_held3 (fun w' => w'.cell? ⟨gt, 1, none⟩ = some (.int .i64 ((nn + hk : Nat) : Int)))
                  (first | with_reducible exact HS5.out | with_reducible exact HS0.out | go_keep)
                  (first | (go_at_call 84; refine (judge_wrong _ _ _ R HTD.out.glob rfl).mono ?_; rintro e w7 ⟨rfl, hw7⟩; have HB7 : Hid (Below w6.drew.heap.size w6.drew w7) := (by show Below _ _ _; rw [hw7]; exact balloc (bnil _) _); have HE7 : Hid (EC R w7 (.iface 117 (.pointer (some ⟨w6.drew.heap.size, 0, none⟩))) (some ([(opJudge, 4 + (i : Int))], 8))) := (by show EC _ _ _ _; rw [hw7]; exact ec_err (HTD.out.up (balloc (bnil _) _)) (isErr_new (Nat.le_refl _))); have HS5 : Hid (w7.cell? ⟨gt, 1, none⟩ = some (.int .i64 ((nn + hk : Nat) : Int))) := (HB7.out.cell (p := ⟨gt, 1, none⟩) (heap_ltT HZ6.out)).trans HS0.out; clear hw7))
                all_goals
                  go_wp2
                  go_ret2
                  rw [HOD.out, ← HRUN.out]
                  exact ⟨_, rfl, HE7.out, HBT.out.1.trans ((HB6.out.mono HBT.out.2).trans (((Below.drew (bnil w6)).trans (show Below w6.heap.size w6.drew w7 from HB7.out)).mono (by have h1 := HBT.out.2; have h2 := heap_ltT HZ6.out; omega)))⟩
              | true =>
                rw [if_pos rfl] at hrun
                obtain ⟨x0, x1, x2⟩ := HX6.out
                have y0 : (w6.alloc (.cells #[] 140)).cell? ⟨wo.heap.size, 0, none⟩ = some (.int .i64 (ec : Nat)) := al000 x0
                have y1 : (w6.alloc (.cells #[] 140)).cell? ⟨wo.heap.size, 1, none⟩ = some (.int .i64 (ea : Nat)) := al000 x1
                have y2 : (w6.alloc (.cells #[] 140)).cell? ⟨wo.heap.size, 2, none⟩ = some (.int .i64 (eb : Nat)) := al000 x2
                have hkey := key_ent _ HWF.out.1
                have hhas := has_setE HWF.out.2 HWF.out.1
                have fw : IntKind.i64.wrap ((fi : Int) + 1) = (fi : Int) + 1 := IntWalk.i64_in _ (by omega)
                have hal : i + 1 ≤ maxLen := by unfold maxLen; omega
                have HZ7 : Hid (TB (w6.alloc (.cells #[] 140)) gt (some ⟨ab, ao, none⟩) 512 cT (nn + hk)) := ((balloc (bnil w6) _).block gt (heap_ltT HZ6.out)).trans HZ6.out
                have HB7 : Hid (Below gt w4 (w6.alloc (.cells #[] 140))) := HB6.out.trans ((balloc (bnil w6) _).mono (Nat.le_of_lt (heap_ltT HZ6.out)))
                have HSZ : Hid (gt ≤ (w6.alloc (.cells #[] 140)).heap.size) := Nat.le_of_lt (heap_ltT HZ7.out)
                by_cases hmem : ((ec : Int), (ea : Int), (eb : Int)) ∈ L.take i
                · rw [decide_eq_true hmem] at hhas
                  rw [if_neg (fun h => h.1 hmem), Nat.add_zero] at hrun
                  have HKEY := Lib.hid (And.intro hkey hhas)
                  have HRUN := Lib.hid hrun
                  clear hkey hhas hrun hmem
                  go_wp2_with (first
                    | (at_lookup; refine wpList_lookup_own_unit _ rfl _ _ 138 rfl 82 140 lawE Tryd.underlying138 (unit_zero _) (gt + 1) i (setE (L.take i)) rfl HM6.out _ _ rfl HKEY.out.1 ?_; rw [HKEY.out.2])
                    | (at_mapUpdate; refine wpList_mapUpdate_own _ rfl _ _ _ 138 rfl 82 140 lawE Tryd.underlying138 (unitElem (H := Unit)) (gt + 1) i (setE (L.take i)) rfl (HM6.out.alloc _) hal _ _ _ rfl rfl HKEY.out.1 _ [] unitElem_mk ?_; intro w7 hown7 hgrow7; have HM7 := Lib.hid hown7; have HG7 := Lib.hid hgrow7; clear hown7 hgrow7))
                  have HM8 : Hid (MapE w7 (gt + 1) (i + 1) (L.take (i + 1))) := by show MapE _ _ _ _; rw [HTK.out]; have h := HM7.out; rw [setE_put] at h; exact h
                  have HZ8 : Hid (TB w7 gt (some ⟨ab, ao, none⟩) 512 cT (nn + hk)) := (HG7.out.block gt (heap_ltT HZ7.out) (fun e => by cases e)).trans HZ7.out
                  have HB8 : Hid (Below gt w4 w7) := HB7.out.grown HG7.out HSZ.out (fun k e => by cases e; omega)
                  go_roundw
                  case rel => exact ⟨i + 1, fi, nn + hk, by omega, by omega, by omega, by go_num, by go_num, HRUN.out, HZ8.out, HM8.out, HB8.out⟩
                  case measure => simp [intOf]; omega
                · rw [decide_eq_false hmem] at hhas
                  by_cases hec0 : ec = 0
                  · subst hec0
                    rw [if_pos ⟨hmem, rfl⟩] at hrun
                    have HKEY := Lib.hid (And.intro hkey hhas)
                    have HRUN := Lib.hid hrun
                    clear hkey hhas hrun hmem
                    go_wp2_with (first
                      | (at_lookup; refine wpList_lookup_own_unit _ rfl _ _ 138 rfl 82 140 lawE Tryd.underlying138 (unit_zero _) (gt + 1) i (setE (L.take i)) rfl HM6.out _ _ rfl HKEY.out.1 ?_; rw [HKEY.out.2])
                      | (at_mapUpdate; refine wpList_mapUpdate_own _ rfl _ _ _ 138 rfl 82 140 lawE Tryd.underlying138 (unitElem (H := Unit)) (gt + 1) i (setE (L.take i)) rfl (HM6.out.alloc _) hal _ _ _ rfl rfl HKEY.out.1 _ [] unitElem_mk ?_; intro w7 hown7 hgrow7; have HM7 := Lib.hid hown7; have HG7 := Lib.hid hgrow7; clear hown7 hgrow7))
                    have HM8 : Hid (MapE w7 (gt + 1) (i + 1) (L.take (i + 1))) := by show MapE _ _ _ _; rw [HTK.out]; have h := HM7.out; rw [setE_put] at h; exact h
                    have HZ8 : Hid (TB w7 gt (some ⟨ab, ao, none⟩) 512 cT (nn + hk)) := (HG7.out.block gt (heap_ltT HZ7.out) (fun e => by cases e)).trans HZ7.out
                    have HB8 : Hid (Below gt w4 w7) := HB7.out.grown HG7.out HSZ.out (fun k e => by cases e; omega)
                    go_roundw
                    case rel => exact ⟨i + 1, fi + 1, nn + hk, by omega, by omega, by omega, by go_num, by go_num, HRUN.out, HZ8.out, HM8.out, HB8.out⟩
                    case measure => simp [intOf]; omega
                  · rw [if_neg (fun h => hec0 (by have h2 : (ec : Int) = 0 := h.2; omega)), Nat.add_zero] at hrun
                    have HKEY := Lib.hid (And.intro hkey hhas)
                    have HRUN := Lib.hid hrun
                    have hecI : ((ec : Int) == 0) = false := by rw [beq_eq_false_iff_ne]; omega
                    have hecJ : ¬ (ec : Int) = 0 := by omega
                    clear hkey hhas hrun hmem
                    go_wp2_with (first
                      | (at_lookup; refine wpList_lookup_own_unit _ rfl _ _ 138 rfl 82 140 lawE Tryd.underlying138 (unit_zero _) (gt + 1) i (setE (L.take i)) rfl HM6.out _ _ rfl HKEY.out.1 ?_; rw [HKEY.out.2])
                      | (at_mapUpdate; refine wpList_mapUpdate_own _ rfl _ _ _ 138 rfl 82 140 lawE Tryd.underlying138 (unitElem (H := Unit)) (gt + 1) i (setE (L.take i)) rfl (HM6.out.alloc _) hal _ _ _ rfl rfl HKEY.out.1 _ [] unitElem_mk ?_; intro w7 hown7 hgrow7; have HM7 := Lib.hid hown7; have HG7 := Lib.hid hgrow7; clear hown7 hgrow7))
                    have HM8 : Hid (MapE w7 (gt + 1) (i + 1) (L.take (i + 1))) := by show MapE _ _ _ _; rw [HTK.out]; have h := HM7.out; rw [setE_put] at h; exact h
                    have HZ8 : Hid (TB w7 gt (some ⟨ab, ao, none⟩) 512 cT (nn + hk)) := (HG7.out.block gt (heap_ltT HZ7.out) (fun e => by cases e)).trans HZ7.out
                    have HB8 : Hid (Below gt w4 w7) := HB7.out.grown HG7.out HSZ.out (fun k e => by cases e; omega)
                    go_roundw
                    case rel => exact ⟨i + 1, fi, nn + hk, by omega, by omega, by omega, by go_num, by go_num, HRUN.out, HZ8.out, HM8.out, HB8.out⟩
                    case measure => simp [intOf]; omega
            · skip
              obtain rfl : i = L.length := by omega
              rw [List.drop_length, List.take_length] at hrun
              have HRUN : Hid ((if fi < M * M then (nn, some (4 + L.length)) else (nn, none)) = JR) := hrun
              clear hrun
              have hMI : (4 : Int) * 2 ^ h' = (M : Int) := by rw [← HMC.out.1, Int.natCast_mul, Int.natCast_pow]; rfl
              have hMw : IntKind.i64.wrap (M : Int) = (M : Int) := IntWalk.i64_in _ (by omega)
              have hM2 : M * M ≤ 4096 := Nat.mul_le_mul hM64 hM64
              have hMM : IntKind.i64.wrap ((M : Int) * (M : Int)) = ((M * M : Nat) : Int) := by rw [← Int.natCast_mul]; exact IntWalk.i64_in _ (by omega)
              have h0I : (0 : Int) ≤ (h' : Int) := by omega
              have h64I : (h' : Int) ≤ 64 := by omega
              have z1 := (tb_cells HZ.out).1.2
              have HDN : ∀ k, Below wo.heap.size wo (wo.drewN k) := fun k => ⟨rfl, rfl, rfl, Nat.le_refl _, fun _ _ => rfl⟩
              by_cases hfm : fi < M * M
              · have HR2 : Hid ((nn, some (4 + L.length)) = JR) := by have h := HRUN.out; rw [if_pos hfm] at h; exact h
                have hfI : (fi : Int) < ((M * M : Nat) : Int) := by omega
                clear HRUN
                have iw : IntKind.i64.wrap (4 + (L.length : Int)) = 4 + (L.length : Int) := IntWalk.i64_in _ (by omega)
                go_wp2_with fail
                go_quiet (fail)
                go_wp2_with fail
                have HS0 : Hid ((wo.drewN nq).drew.cell? ⟨gt, 1, none⟩ = some (.int .i64 (nn : Nat))) := z1
                have hb0 : Below w4.heap.size w4 wo := by rw [HGT.out]; exact HBJ.out
                have HTD : Hid (Sent (wo.drewN nq).drew R) := (HST.out.up hb0).up (Below.drew (HDN nq))
                clear z1 hb0
                go_region_held3 (fun w' => w'.cell? ⟨gt, 1, none⟩ = some (.int .i64 (nn : Nat)))
                  (first | with_reducible exact HS5.out | with_reducible exact HS0.out | go_keep)
                  (first | (go_at_call 84; refine (judge_wrong _ _ _ R HTD.out.glob rfl).mono ?_; rintro e w7 ⟨rfl, hw7⟩; have HB7 : Hid (Below wo.heap.size wo w7) := (by show Below _ _ _; rw [hw7]; exact (Below.drew (HDN nq)).trans (balloc (bnil (wo.drewN nq).drew) _)); have HE7 : Hid (EC R w7 (.iface 117 (.pointer (some ⟨(wo.drewN nq).drew.heap.size, 0, none⟩))) (some ([(opJudge, 4 + (L.length : Int))], 8))) := (by show EC _ _ _ _; rw [hw7]; exact ec_err (HTD.out.up (balloc (bnil _) _)) (isErr_new (Nat.le_refl _))); have HS5 : Hid (w7.cell? ⟨gt, 1, none⟩ = some (.int .i64 (nn : Nat))) := (HB7.out.cell (p := ⟨gt, 1, none⟩) (heap_ltT HZ.out)).trans HS0.out; clear hw7))
                all_goals
                  go_wp2
                  go_ret2
                  rw [HOD.out, ← HR2.out]
                  exact ⟨_, rfl, HE7.out, HBT.out.1.trans ((HBJ.out.mono HBT.out.2).trans (HB7.out.mono (by have h1 := HBT.out.2; have h2 := heap_ltT HZ.out; omega)))⟩
              · have HR2 : Hid ((nn, none) = JR) := by have h := HRUN.out; rw [if_neg hfm] at h; exact h
                have hfI : ¬ (fi : Int) < ((M * M : Nat) : Int) := by omega
                clear HRUN
                have z2 : wo.drew.cell? ⟨gt, 1, none⟩ = some (.int .i64 (nn : Nat)) := z1
                go_wp2_with fail
                go_quiet (fail)
                go_wp2
                go_ret2
                rw [HOD.out, ← HR2.out]
                exact ⟨_, rfl, rfl, HBT.out.1.trans ((HBJ.out.mono HBT.out.2).trans ((HDN _).mono (by have h1 := HBT.out.2; have h2 := heap_ltT HZ.out; omega)))⟩
        · skip
          have HOD := Lib.hid (judgeF_sz HGV.out HDF.out (Or.inr (by omega)))
          have hbI : ((h' : Int) != (h : Int)) = true := by rw [bne_iff_ne]; omega
          have hbJ : ¬ (h' : Int) = (h : Int) := by omega
          have v_p0 : w2.cell? ⟨W.heap.size, 0, none⟩ = some (.int .i64 w') := T10.out.1.2.1
          have v_p1 : w2.cell? ⟨W.heap.size, 1, none⟩ = some (.int .i64 h) := T10.out.1.2.2.1
          have v_p2 : w2.cell? ⟨W.heap.size, 2, none⟩ = some (.slice a n c) := T10.out.1.2.2.2
          go_wp2_with fail
          refine (judge_wrong _ _ _ R (T10.out.1.1.1.1.1.2).glob rfl).mono ?_; rintro e w3 ⟨rfl, hw3⟩
          have hb3 : Below w2.heap.size w2 w3 := by rw [hw3]; exact balloc (bnil w2) _
          have he3 : EC R w3 (.iface 117 (.pointer (some ⟨w2.heap.size, 0, none⟩))) (some ([(opJudge, 3)], 8)) := by rw [hw3]; exact ec_err ((T10.out.1.1.1.1.1.2).up (balloc (bnil w2) (faultObj opJudge 3 (.iface 199 (.pointer (some (R (rix 8)))))))) (isErr_new (Nat.le_refl _))
          clear hw3
          clear v_p0 v_p1 v_p2
          have T11 := T10.up hb3
          clear T10
          have HE3 := Lib.hid he3
          clear hb3 he3
          go_wp2
          go_ret2
          rw [HOD.out]
          exact ⟨_, rfl, HE3.out, T11.out.1.1.1.1.1.1.2⟩
      · skip
        have HOD := Lib.hid (judgeF_sz HGV.out HDF.out (Or.inl (by omega)))
        have hbI : ((w' : Int) != (w : Int)) = true := by rw [bne_iff_ne]; omega
        have hbJ : ¬ (w' : Int) = (w : Int) := by omega
        have v_p0 : w2.cell? ⟨W.heap.size, 0, none⟩ = some (.int .i64 w) := T10.out.1.2.1
        have v_p1 : w2.cell? ⟨W.heap.size, 1, none⟩ = some (.int .i64 h) := T10.out.1.2.2.1
        have v_p2 : w2.cell? ⟨W.heap.size, 2, none⟩ = some (.slice a n c) := T10.out.1.2.2.2
        go_wp2_with fail
        refine (judge_wrong _ _ _ R (T10.out.1.1.1.1.1.2).glob rfl).mono ?_; rintro e w3 ⟨rfl, hw3⟩
        have hb3 : Below w2.heap.size w2 w3 := by rw [hw3]; exact balloc (bnil w2) _
        have he3 : EC R w3 (.iface 117 (.pointer (some ⟨w2.heap.size, 0, none⟩))) (some ([(opJudge, 3)], 8)) := by rw [hw3]; exact ec_err ((T10.out.1.1.1.1.1.2).up (balloc (bnil w2) (faultObj opJudge 3 (.iface 199 (.pointer (some (R (rix 8)))))))) (isErr_new (Nat.le_refl _))
        clear hw3
        clear v_p0 v_p1 v_p2
        have T11 := T10.up hb3
        clear T10
        have HE3 := Lib.hid he3
        clear hb3 he3
        go_wp2
        go_ret2
        rw [HOD.out]
        exact ⟨_, rfl, HE3.out, T11.out.1.1.1.1.1.1.2⟩
end Go.Proofs.YtocfkmdoalhjmaaDoor
