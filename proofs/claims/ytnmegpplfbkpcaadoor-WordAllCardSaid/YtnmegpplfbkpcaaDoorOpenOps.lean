/- An argument of the type []edenlaw03.Op, opened. -/
import Derived.Test.YtnmegpplfbkpcaaDoorOpenSl
import Derived.Test.YtnmegpplfbkpcaaDoorNatA
import Derived.Deep.Slices
import Derived.Deep.Strs
import Derived.OpenShut
import Derived.KernelRfl
namespace Go.Proofs.YtnmegpplfbkpcaaDoor
open Go.RowKit Go.ChangeShapes Go.WideShapes Go.Deep
set_option linter.unusedVariables false
set_option maxRecDepth 100000

/-- one call: its numbers, rows, number, text -/
structure OpR where
  kd : Int
  k : Int
  n : Int
  aw : Option Addr
  nw : Nat
  cw : Nat
  lw : List Int
  av : Option Addr
  nv : Nat
  cv : Nat
  lv : List Int
  ai : Option Addr
  ni : Nat
  ci : Nat
  li : List Nat
  s : ByteArray
instance : Inhabited OpR := ⟨⟨0, 0, 0, none, 0, 0, [], none, 0, 0, [], none, 0, 0, [], ByteArray.empty⟩⟩
structure OpOk (w : World) (q : OpR) : Prop where
  sw : SlI w q.aw q.nw q.cw q.lw
  sv : SlI w q.av q.nv q.cv q.lv
  si : NR w q.ai q.ni q.li
  il : q.ni ≤ q.ci
  im : q.ci ≤ maxLen
  ss : q.s.size ≤ maxLen
theorem OpOk.up {w w' : World} {q : OpR} (h : OpOk w q) (hb : Below w.heap.size w w') : OpOk w' q := ⟨h.sw.up hb, h.sv.up hb, h.si.up hb, h.il, h.im, h.ss⟩
/-- a slice of calls reads as these -/
def OpsR (w : World) (s : Option Addr) (n : Nat) (N : Nat → OpR) : Prop :=
  n = 0 ∨ ∃ b o, s = some ⟨b, o, none⟩ ∧ b < w.heap.size ∧ ∀ j, j < n → (w.cell? ⟨b, o + j * 7, none⟩ = some (.int .i64 (N j).kd) ∧ w.cell? ⟨b, o + j * 7 + 1, none⟩ = some (.int .i64 (N j).k) ∧ w.cell? ⟨b, o + j * 7 + 2, none⟩ = some (.int .i64 (N j).n) ∧ w.cell? ⟨b, o + j * 7 + 3, none⟩ = some (.slice (N j).aw (N j).nw (N j).cw) ∧ w.cell? ⟨b, o + j * 7 + 4, none⟩ = some (.slice (N j).av (N j).nv (N j).cv) ∧ w.cell? ⟨b, o + j * 7 + 5, none⟩ = some (.slice (N j).ai (N j).ni (N j).ci) ∧ w.cell? ⟨b, o + j * 7 + 6, none⟩ = some (.string (N j).s)) ∧ OpOk w (N j)
theorem op_under : Tryd.prog.underlying 47 = some (.struct #[⟨ "Kind", 3, 0, false, "", "", 0⟩, ⟨ "K", 3, 1, false, "", "", 8⟩, ⟨ "N", 3, 2, false, "", "", 16⟩, ⟨ "W", 22, 3, false, "", "", 24⟩, ⟨ "V", 22, 4, false, "", "", 48⟩, ⟨ "I", 45, 5, false, "", "", 72⟩, ⟨ "S", 9, 6, false, "", "", 96⟩]) := by kernel_rfl
theorem nr_of_rdO {w : World} {a : Option Addr} {n : Nat} {l : List Int} (hn : l.length = n) (hR : Rd w a n 1 (l.map (Value.int .u32))) (hx : ∀ x ∈ l, 0 ≤ x ∧ x ≤ 4294967295) : NR w a n (l.map Int.toNat) := by
  have e : ofN (l.map Int.toNat) = l := by
    unfold ofN
    rw [List.map_map]
    refine (List.map_congr_left (g := id) fun x hq => ?_).trans (List.map_id _)
    have := hx x hq
    show ((x.toNat : Nat) : Int) = x
    omega
  refine ⟨⟨?_, by rw [e]; exact hR⟩, ?_⟩
  · rw [e]; exact hn.symm
  · intro y hy
    obtain ⟨x, hq, rfl⟩ := List.mem_map.1 hy
    have := hx x hq
    show x.toNat < 4294967296
    omega
theorem weightsAll_mem {H : Type} {P : Program} {e : TypeId} : ∀ {ds : List (DataW H)} {d : DataW H}, d ∈ ds → ∀ n ∈ d.weights P e, n ∈ DataW.weightsAll P e ds
  | x :: r, d, hd, n, hn => by
    simp only [DataW.weightsAll, List.mem_append]
    rcases List.mem_cons.1 hd with rfl | h
    · exact .inl hn
    · exact .inr (weightsAll_mem h n hn)
theorem weights_elem {H : Type} {P : Program} {ts : List TypeId} {ds elems spare : List (DataW H)} {j : Nat} {t e : TypeId} (hu : P.underlying t = some (.slice e)) (hz : (DataW.weightsEach P ts ds).all (· ≤ reachBytes) = true) (ht : ts[j]? = some t) (hd : ds[j]? = some (.slice elems spare)) {y : DataW H} (hy : y ∈ elems) :
    (DataW.weightsEach P [e] [y]).all (· ≤ reachBytes) = true :=
  List.all_eq_true.2 fun x hx => List.all_eq_true.1 hz x (DataW.weights_mem_each ht hd x (by
    simp only [DataW.weightsEach, List.append_nil] at hx
    simp only [DataW.weights, hu, List.mem_cons, List.mem_append]
    exact .inr (.inl (weightsAll_mem hy x hx))))
set_option maxHeartbeats 2000000 in
theorem open_ops {H : Type} {enc : TypeId × Value → H} {w : World} {fuel len cap : Nat} {a : Option Addr} {x : DataW H × List MemPlace} {ts : List TypeId} {ds : List (DataW H)} {j : Nat}
    (h : DataW.trod enc Tryd.prog w 0 (fun _ => true) true fuel 43 [.slice a len cap] = some x)
    (hz : (DataW.weightsEach Tryd.prog ts ds).all (· ≤ reachBytes) = true) (ht : ts[j]? = some 43) (hd : ds[j]? = some x.1) : ∃ N : Nat → OpR, cap ≤ maxLen ∧ len ≤ cap ∧ OpsR w a len N := by
  have c7 : Tryd.prog.cellsOf 47 = 7 := by kernel_rfl
  have c1 : Tryd.prog.cellsOf 3 = 1 := by kernel_rfl
  have cs1 : Tryd.prog.cellsOf 9 = 1 := by kernel_rfl
  have cl1 : Tryd.prog.cellsOf 22 = 1 := by kernel_rfl
  have cn1 : Tryd.prog.cellsOf 45 = 1 := by kernel_rfl
  rcases open_slice Tryd.underlying43 h with ⟨h0, _⟩ | ⟨ad, len', cap', m, n, D, Pl, h0, hb, hl, hm, hmm, hxx, hx⟩
  · cases h0
    exact ⟨fun _ => default, Nat.zero_le _, Nat.le_refl _, .inl rfl⟩
  · cases h0
    have hlm : len ≤ m := by rw [hmm]; split <;> omega
    have each : ∀ i, i < len → ∃ q : OpR, (w.cell? (ad.add (i * 7)) = some (.int .i64 q.kd) ∧ w.cell? (ad.add (i * 7 + 1)) = some (.int .i64 q.k) ∧ w.cell? (ad.add (i * 7 + 2)) = some (.int .i64 q.n) ∧ w.cell? (ad.add (i * 7 + 3)) = some (.slice q.aw q.nw q.cw) ∧ w.cell? (ad.add (i * 7 + 4)) = some (.slice q.av q.nv q.cv) ∧ w.cell? (ad.add (i * 7 + 5)) = some (.slice q.ai q.ni q.ci) ∧ w.cell? (ad.add (i * 7 + 6)) = some (.string q.s)) ∧ OpOk w q := by
      intro i hi
      obtain ⟨cs', h1, h2⟩ := hx i (by omega)
      rw [c7] at h1
      obtain ⟨_, hlen, hcell⟩ := World.cells?_some h1
      have hze := weights_elem (y := D i) Tryd.underlying43 hz ht (by rw [hd, hxx]) (List.mem_map.2 ⟨i, List.mem_range.2 hi, rfl⟩)
      obtain ⟨xs, k, hk, hxy, _, hxl, hf⟩ := DataW.trod_struct op_under h2
      match xs, hxl, cs', hlen with
      | [y0, y1, y2, y3, y4, y5, y6], _, [v0, v1, v2, v3, v4, v5, v6], _ =>
        have hD : D i = .agg ([y0, y1, y2, y3, y4, y5, y6].map (·.1)) := by have := congrArg Prod.fst hxy; simpa using this
        have hin := weights_in (j := 0) op_under hze rfl (by rw [hD]; rfl)
        have g0 := hf 0 _ rfl
        have g1 := hf 1 _ rfl
        have g2 := hf 2 _ rfl
        have g3 := hf 3 _ rfl
        have g4 := hf 4 _ rfl
        have g5 := hf 5 _ rfl
        have g6 := hf 6 _ rfl
        simp [c1, cs1, cl1, cn1] at g0 g1 g2 g3 g4 g5 g6
        obtain ⟨n0, r0, _, _⟩ := DataW.trod_int Tryd.underlying3 (show DataW.trod enc Tryd.prog w 0 (fun _ => true) true k 3 [v0] = some y0 from g0)
        obtain ⟨n1, r1, _, _⟩ := DataW.trod_int Tryd.underlying3 (show DataW.trod enc Tryd.prog w 0 (fun _ => true) true k 3 [v1] = some y1 from g1)
        obtain ⟨n2, r2, _, _⟩ := DataW.trod_int Tryd.underlying3 (show DataW.trod enc Tryd.prog w 0 (fun _ => true) true k 3 [v2] = some y2 from g2)
        obtain ⟨aw, nw, cw, lw, rfl, hw⟩ := open_sl (j := 3) (show DataW.trod enc Tryd.prog w 0 (fun _ => true) true k 22 [v3] = some y3 from g3) hin rfl rfl
        obtain ⟨av, nv, cv, lv, rfl, hv⟩ := open_sl (j := 4) (show DataW.trod enc Tryd.prog w 0 (fun _ => true) true k 22 [v4] = some y4 from g4) hin rfl rfl
        have key : ∃ ai ni ci, v5 = .slice ai ni ci := by
          rcases open_slice Tryd.underlying45 (show DataW.trod enc Tryd.prog w 0 (fun _ => true) true k 45 [v5] = some y5 from g5) with ⟨h0, _⟩ | ⟨ad, len, cap, _, _, _, _, h0, _⟩
          · cases h0; exact ⟨_, _, _, rfl⟩
          · cases h0; exact ⟨_, _, _, rfl⟩
        obtain ⟨ai, ni, ci, rfl⟩ := key
        obtain ⟨l5, e1, e2, e3, e4, e5⟩ := open_nats (show DataW.trod enc Tryd.prog w 0 (fun _ => true) true k 45 [.slice ai ni ci] = some y5 from g5)
        obtain ⟨s6, r6, _, z6⟩ := DataW.trod_string Tryd.underlying9 (show DataW.trod enc Tryd.prog w 0 (fun _ => true) true k 9 [v6] = some y6 from g6)
        cases r0; cases r1; cases r2; cases r6
        have q0 := hcell 0 (by omega)
        have q1 := hcell 1 (by omega)
        have q2 := hcell 2 (by omega)
        have q3 := hcell 3 (by omega)
        have q4 := hcell 4 (by omega)
        have q5 := hcell 5 (by omega)
        have q6 := hcell 6 (by omega)
        rw [add_add] at q0 q1 q2 q3 q4 q5 q6
        exact ⟨⟨n0, n1, n2, aw, nw, cw, lw, av, nv, cv, lv, ai, ni, ci, l5.map Int.toNat, s6⟩, ⟨by simpa using q0, by simpa using q1, by simpa using q2, by simpa using q3, by simpa using q4, by simpa using q5, by simpa using q6⟩, ⟨hw, hv, nr_of_rdO e1 e4 e5, e3, e2, z6⟩⟩
    obtain ⟨q, hq⟩ := choose_lt each
    refine ⟨q, hm, hl, ?_⟩
    by_cases h0 : len = 0
    · exact .inl h0
    · obtain ⟨b, o, sp⟩ := ad
      have hsp : sp = none := by simpa [Addr.add] using World.cell?_spot (hq 0 (by omega)).1.1
      subst hsp
      refine .inr ⟨b, o, rfl, World.block_lt_of_cell? w _ (hq 0 (by omega)).1.1, fun j hj => ?_⟩
      obtain ⟨⟨a0, a1, a2, a3, a4, a5, a6⟩, hok⟩ := hq j hj
      rw [Addr.add_lit] at a0 a1 a2 a3 a4 a5 a6
      exact ⟨⟨a0, a1, a2, a3, a4, a5, a6⟩, hok⟩
end Go.Proofs.YtnmegpplfbkpcaaDoor
