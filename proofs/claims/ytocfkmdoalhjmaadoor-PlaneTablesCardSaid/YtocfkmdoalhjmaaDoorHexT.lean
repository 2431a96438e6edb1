/- slices.Chunk by four over a table: what it hands back, and that it stops. plane.Hex of a table. -/
import Derived.Test.YtocfkmdoalhjmaaDoorChk
import Derived.Test.YtocfkmdoalhjmaaDoorLifT
import Derived.Test.YtocfkmdoalhjmaaDoorSl
import Derived.Test.YtocfkmdoalhjmaaDoorTypes
import Derived.Maps.AppendAt
namespace Go.Proofs.YtocfkmdoalhjmaaDoor
open Go.RowKit Go.Shelf
set_option linter.unusedVariables false

attribute [local go_sem] Oper.semAt_some

/-- what a round keeps: what lay below n₀, and the iterator's own two boxes -/
def KpC (n₀ Bs Bn : Nat) (W W' : World) : Prop := Below n₀ W W' ∧ W'.heap[Bs]? = W.heap[Bs]? ∧ W'.heap[Bn]? = W.heap[Bn]?
theorem kpC_t {n₀ Bs Bn : Nat} {A B C : World} (h : KpC n₀ Bs Bn A B) (k : KpC n₀ Bs Bn B C) : KpC n₀ Bs Bn A C := ⟨h.1.trans k.1, k.2.1.trans h.2.1, k.2.2.trans h.2.2⟩
theorem kpC_b {n₀ Bs Bn : Nat} {w : World} (hn : n₀ ≤ w.heap.size) (h1 : Bs < w.heap.size) (h2 : Bn < w.heap.size) (W : World) (l : Nat) (o o' : Obj) (hl : w.heap.size ≤ l) (h : W.heap[l]? = some o) (hc : o.isCells = false) (hw : o.isWalk = false) : KpC n₀ Bs Bn W (W.putObj l o') := by
  have hg := grownBy_putObj' W l o'
  have hlt := (Array.getElem?_eq_some_iff.1 h).1
  exact ⟨belowK_b (w := w) hn W l o o' hl h hc hw, hg.block Bs (by omega) (fun e => by cases e; omega), hg.block Bn (by omega) (fun e => by cases e; omega)⟩
theorem kpC_cells {n₀ Bs Bn : Nat} (W W' : World) (h : KpC n₀ Bs Bn W W') : W'.cell? ⟨Bs, 0, none⟩ = W.cell? ⟨Bs, 0, none⟩ ∧ W'.cell? ⟨Bn, 0, none⟩ = W.cell? ⟨Bn, 0, none⟩ :=
  ⟨World.cell?_of_block h.2.1, World.cell?_of_block h.2.2⟩
set_option maxRecDepth 100000 in
set_option maxHeartbeats 1000000 in
theorem chunk_in (F : Fence) (n : Nat) (h5 : F.fn 57) (hro : F.round = none) (a : Option Addr) (len cap : Nat) (w : World) :
    CallsIn F n Tryd.prog 57 #[.slice a len cap, .int .i64 4] w fun e w' => e = .returned (.func (.func 100) #[] #[.pointer (some ⟨w.heap.size, 0, none⟩), .pointer (some ⟨w.heap.size + 1, 0, none⟩)]) ∧ w' = (w.alloc (.cells #[.slice a len cap] 22)).alloc (.cells #[.int .i64 4] 3) := by
  refine callsIn_of_wp Tryd.func57 rfl h5 ?_ hro
  simp only [Tryd.ntmps57, List.size_toArray, List.length_cons, List.length_nil, Nat.reduceAdd, Nat.reduceSub, Array.replicate_succ, Array.replicate_zero, List.push_toArray, List.append_toArray, List.nil_append, List.cons_append]
  gi_wp2
  go_ret
  exact ⟨rfl, rfl⟩
/-- slices.Chunk's value goes through a table by fours, and stops -/
theorem chunk_stops (F : Fence) (n : Nat) (h7 : F.fn 100) (hro : F.round = none) (hn : 1 ≤ n) (n₀ Bs Bn b off cap : Nat) (hcap : 512 ≤ cap) (hcm : cap ≤ 9223372036854775807) (w : World) (h1 : Bs < w.heap.size) (h2 : Bn < w.heap.size)
    (hBs : w.cell? ⟨Bs, 0, none⟩ = some (.slice (some ⟨b, off, none⟩) 512 cap)) (hBn : w.cell? ⟨Bn, 0, none⟩ = some (.int .i64 4)) :
    SeqStopsK F n Tryd.prog 100 #[.pointer (some ⟨Bs, 0, none⟩), .pointer (some ⟨Bn, 0, none⟩)] (fun x : Fin 128 => #[Value.slice (some ⟨b, off + 4 * x.val, none⟩) 4 4]) (KpC n₀ Bs Bn) (fun ys => ys = uptoC fK 128) (fun pre => ∃ k, k ≤ 128 ∧ pre = uptoC fK k) 128 w := fun l J Jx W hW hJ _ hY h0 =>
  chunk1_in F n h7 hro hn l Bs Bn b off cap (KpC n₀ Bs Bn) hcap hcm kpC_cells J Jx (fun s A B hs hg => hJ s A B none hs hg (fun r e => by cases e)) hY W ((hW.cell (p := ⟨Bs, 0, none⟩) h1).trans hBs) ((hW.cell (p := ⟨Bn, 0, none⟩) h2).trans hBn) h0
end Go.Proofs.YtocfkmdoalhjmaaDoor
namespace Go.Proofs.YtocfkmdoalhjmaaDoor
open Go.RowKit Go.Shelf
set_option linter.unusedVariables false
set_option maxRecDepth 100000

attribute [local go_sem] Oper.semAt_some
theorem hex_at : ∀ y : Fin 16, (hexS[y.val]'(show y.val < hexS.size from y.isLt)).toNat = (hexC y.val).toNat := by decide +kernel
theorem foldB (T : Nat → Nat) (h : ∀ j, T j ≤ 1) : ∀ k, (List.range k).foldl (fun n i => 2 * n + T i) 0 < 2 ^ k
  | 0 => by simp
  | k + 1 => by
    have ih := foldB T h k
    have := h k
    rw [List.range_succ, List.foldl_append, Nat.pow_succ]
    show 2 * _ + T k < _
    omega
/-- a table's digit, as a byte's value -/
def hexV (t : List Int) (x : Fin 128) : Value := .int .u8 ((hexC (wtF t x.val)).toNat : Nat)
theorem hex_own (n1 n2 B : Nat) (t : List Int) (w1 : World) (vs : Value) (h1 : n1 ≤ w1.heap.size) (h2 : n1 ≤ B) :
    OwnFrom B (fun (pre : List (Fin 128)) W' => ((∃ v, Boxed W' n2 67 v ∧ W'.ownsRow n1 5 1 v pre.length (pre.map (hexV t)) ∧ True) ∧ Below n1 w1 W') ∧ Boxed W' (n2 + 1) 22 vs ∧ Boxed W' (n2 + 1 + 1) 3 (.int .i64 4)) :=
  OwnFrom.and (OwnFrom.and (Own.from (holdsRow_own n1 n2 67 5 1 (fun pre : List (Fin 128) => pre.length) (fun pre => pre.map (hexV t)) (fun _ _ => True)) B) (ownFrom_below h1 h2))
    (OwnFrom.and (Own.from (boxed_own (n2 + 1) 22 (fun _ : List (Fin 128) => vs)) B) (Own.from (boxed_own (n2 + 1 + 1) 3 (fun _ : List (Fin 128) => .int .i64 4)) B))
theorem hexAp {wr w1 w5 : World} {n1 n2 k m : Nat} {v v5 vs vn : Value} {xs ys : List Value} {tmp : Obj} (hv : Boxed wr n2 67 v) (hrow : wr.ownsRow n1 5 1 v k xs) (hB : Below n1 w1 wr) (hs : n1 ≤ wr.heap.size) (hle : n1 ≤ n2) (hvs : Boxed wr (n2 + 1) 22 vs) (hvn : Boxed wr (n2 + 1 + 1) 3 vn) (hown : w5.ownsRow n1 5 1 v5 m ys) (hg : (wr.drew.alloc tmp).grownBy w5 v.ownBlock) :
    w5.cell? ⟨n2, 0, none⟩ = some v ∧ w5.frozen? ⟨n2, 0, none⟩ = false ∧ KeepsOthers wr (w5.setCell ⟨n2, 0, none⟩ v5) ∧ KpC n1 (n2 + 1) (n2 + 1 + 1) wr (w5.setCell ⟨n2, 0, none⟩ v5) ∧ ((∃ v, Boxed (w5.setCell ⟨n2, 0, none⟩ v5) n2 67 v ∧ (w5.setCell ⟨n2, 0, none⟩ v5).ownsRow n1 5 1 v m ys ∧ True) ∧ Below n1 w1 (w5.setCell ⟨n2, 0, none⟩ v5)) ∧ Boxed (w5.setCell ⟨n2, 0, none⟩ v5) (n2 + 1) 22 vs ∧ Boxed (w5.setCell ⟨n2, 0, none⟩ v5) (n2 + 1 + 1) 3 vn := by
  have hvd : Boxed wr.drew n2 67 v := hv
  have hrd : wr.drew.ownsRow n1 5 1 v k xs := hrow
  have hsd : Boxed wr.drew (n2 + 1) 22 vs := hvs
  have hnd : Boxed wr.drew (n2 + 1 + 1) 3 vn := hvn
  obtain ⟨hv1, hv2, hr2, hk2, hb2⟩ := hvd.appended (by decide) hrd hs hle hown hg
  have hs5 := ((hsd.alloc tmp).kept hg (hsd.not_row (by decide) hrd)).other (show n2 + 1 ≠ n2 by omega) v5
  have hn5 := ((hnd.alloc tmp).kept hg (hnd.not_row (by decide) hrd)).other (show n2 + 1 + 1 ≠ n2 by omega) v5
  have hb3 : Below n1 wr (w5.setCell ⟨n2, 0, none⟩ v5) := (Below.drew (Below.refl n1 wr)).trans hb2
  exact ⟨hv1.cell, hv1.frozen, (KeepsOthers.drew wr).trans hk2, ⟨hb3, hs5.trans hvs.symm, hn5.trans hvn.symm⟩, ⟨⟨v5, hv2, hr2, trivial⟩, hB.trans hb3⟩, hs5, hn5⟩
theorem hexSnoc (t : List Int) (pre : List (Fin 128)) (x : Fin 128) {Y : Nat} (h : wtF t x.val = Y) : pre.map (hexV t) ++ [.int .u8 ((hexC Y).toNat : Nat)] = (pre ++ [x]).map (hexV t) := by
  subst h
  simp [hexV]
/-- append as the step of a region that draws its order, within a fence -/
theorem step_appendIn {F : Fence} {n : Nat} {P : Program} {ops : Array Oper} {o : Oper} {a : Act} {w : World} {K : Act → World → Prop} {Q : Exit → Act → World → Prop} {E : Prop}
    (hg : o.guard = none) (s x : Operand) (t : TypeId) (hop : o.op = Op.call { callee := Callee.builtin Builtin.append, args := #[s, x], argTypes := #[t, t] })
    (base : Nat) (e : TypeId) (i : TypeInfo) (z : Value) (size bytes : Nat) (h1 : P.underlying t = some (.slice e)) (h2 : P.info? e = some i) (h3 : i.zero = some z) (h4 : i.size = size) (h5 : i.bytes = bytes) (h6 : z.cells.size = size) (h7 : 0 < size)
    (v : Value) (k : Nat) (xs : List Value) (hs : a.eval s = v) (hown : w.ownsRow base e size v k xs) (ad : Addr) (m c : Nat) (news : List Value) (hx : a.eval x = .slice (some ad) m c) (hn : news.length = m * size)
    (hc : ∀ j u, news[j]? = some u → w.cell? (ad.add j) = some u) (h1c : ∀ u ∈ news, u.oneCell' = true) (b1 : k + m ≤ maxLen) (b2 : (k + m) * bytes ≤ 140737488355328) (b3 : base ≤ w.heap.size)
    (hK : ∀ v' w', w'.ownsRow base e size v' (k + m) (xs ++ news) → w.grownBy w' v.ownBlock → K (a.put o.dst v') w') :
    if Region.wanted o (yielded ops a.tmps) = true then Oper.wpIn F n P o a w K Q else E := by
  have hw : Region.wanted o (yielded ops a.tmps) = true := by simp [Region.wanted, hg]
  rw [if_pos hw]
  obtain ⟨v', w', hrun, r1, r2, r3⟩ := run_append_own (P := P) w base t o.type e i z size bytes h1 h2 h3 h4 h5 h6 h7 v k xs hown ad m c news hn hc h1c b1 b2 b3
  unfold Oper.wpIn
  refine ⟨?_, ?_⟩
  · simp [Oper.about, hop, resolve, Target.leads, Sem.run_pure]
  · rw [Oper.semAt_plain F _ _ (by rw [hop]; intro c hc'; cases hc')]
    simp [execOp, hop, resolve, invoke, builtin, hs, hx, hrun, Result.andThen]
    exact hK _ _ r1 r2
theorem strOfU8 (l : List UInt8) : strOfNums (l.map fun c => ((c.toNat : Nat) : Int)) = ⟨l.toArray⟩ := by
  unfold strOfNums
  congr 1
  apply Array.ext'
  simp only [List.map_map]
  have : (List.map ((fun x => Int.toNat x |> Nat.toUInt8) ∘ fun c : UInt8 => ((c.toNat : Nat) : Int)) l) = l := by
    rw [List.map_congr_left (g := id) (fun c _ => by simp)]
    simp
  simpa using this
theorem hexRow {t : List Int} {w : World} {B : Nat} {v : Value} (h : w.ownsRow B 5 1 v (uptoC fK 128).length ((uptoC fK 128).map (hexV t))) : ∃ g c, v = .slice (some ⟨g, 0, none⟩) 128 c ∧ Rd w (some ⟨g, 0, none⟩) 128 1 (((hexT t).map fun c => ((c.toNat : Nat) : Int)).map (Value.int .u8)) := by
  have hl : (uptoC fK 128).length = 127 + 1 := uptoC_length _ _
  have he : (uptoC fK 128).map (hexV t) = ((hexT t).map fun c => ((c.toNat : Nat) : Int)).map (Value.int .u8) := by
    unfold uptoC hexT
    rw [List.map_map, List.map_map, List.map_map]
    refine List.map_congr_left fun k hk => ?_
    have h2 := fK_val (List.mem_range.1 hk)
    show hexV t (fK k) = _
    unfold hexV
    rw [h2]
    rfl
  rw [hl, he] at h
  obtain ⟨g, c, rfl⟩ := ownsRow_succ h
  exact ⟨g, c, rfl, (owns_rd h).2⟩
theorem hexEnd {wr w1 W9 : World} {n1 n2 : Nat} {t : List Int} {pre : List (Fin 128)} {x : Fin 128} {Y : Nat} {vs vn : Value} {A B : Prop} (hY : wtF t x.val = Y)
    (h : A ∧ B ∧ KeepsOthers wr W9 ∧ KpC n1 (n2 + 1) (n2 + 1 + 1) wr W9 ∧ ((∃ v, Boxed W9 n2 67 v ∧ W9.ownsRow n1 5 1 v (pre.length + 1) (pre.map (hexV t) ++ [.int .u8 ((hexC Y).toNat : Nat)]) ∧ True) ∧ Below n1 w1 W9) ∧ Boxed W9 (n2 + 1) 22 vs ∧ Boxed W9 (n2 + 1 + 1) 3 vn) :
    KeepsOthers wr W9 ∧ KpC n1 (n2 + 1) (n2 + 1 + 1) wr W9 ∧ ((∃ v, Boxed W9 n2 67 v ∧ W9.ownsRow n1 5 1 v (pre ++ [x]).length ((pre ++ [x]).map (hexV t)) ∧ True) ∧ Below n1 w1 W9) ∧ Boxed W9 (n2 + 1) 22 vs ∧ Boxed W9 (n2 + 1 + 1) 3 vn := by
  obtain ⟨_, _, h1, h2, h3⟩ := h
  rw [hexSnoc t pre x hY, show pre.length + 1 = (pre ++ [x]).length by simp] at h3
  exact ⟨h1, h2, h3⟩
set_option maxHeartbeats 16000000 in
theorem hex_ok (a : Option Addr) (c : Nat) (t : List Int) (W : World) (R : Nat → Addr) (hS : Sent W R) (hT : SlI W a 512 c t) (ht : IsTab t) :
    Calls Tryd.prog 18 #[.slice a 512 c] W fun e w' => e = .returned (.tuple #[.string ⟨(hexT t).toArray⟩, .nilIface]) ∧ Below W.heap.size W w' := by
  have HS := Lib.hid hS
  have HT := Lib.hid hT
  have HTT := Lib.hid ht
  clear hS hT ht
  refine (callsIn_wide (n := 5)).1 ?_
  refine callsIn_of_wp_marks Tryd.func18 rfl trivial ?_ rfl
  simp only [Tryd.ntmps18, List.size_toArray, List.length_cons, List.length_nil, Nat.reduceAdd, Nat.reduceSub, Array.replicate_succ, Array.replicate_zero, List.push_toArray, List.append_toArray, List.nil_append, List.cons_append]
  obtain ⟨i0, hi2, hi3, hi4, hi5⟩ := et_u8.hi
  have HI5 := Lib.hid hi5
  have HI4 := Lib.hid (And.intro hi2 (And.intro hi3 hi4))
  clear hi5
  gi_wp2_with (first
    | (refine ⟨trivial, ?_⟩; gi_at_call 34; refine (callsIn_wide.2 (plcheck_ok a 512 c t W R HS.out HT.out.rk HT.out.nm HTT.out)).mono ?_; rintro e w1 ⟨rfl, hb1⟩)
    | (gi_at_make; refine wpListIn_make_own w1 rfl _ _ _ rfl w1.heap.size 5 i0 (.int .u8 0) 1 et_u8.ht hi2 hi3 hi4 .i64 .i64 _ 128 rfl rfl rfl (by rw [HI5.out]; decide) (by unfold maxLen; omega) (Nat.le_refl _) ?_; intro w2 hown2 hg2)
    | (refine ⟨trivial, ?_⟩; gi_at_call 57; refine (chunk_in Fence.wide _ trivial rfl a 512 c _).mono ?_; rintro e w' ⟨rfl, rfl⟩))
  obtain ⟨n2, hn2⟩ : ∃ n2, w2.heap.size = n2 := ⟨_, rfl⟩
  obtain ⟨n1, hn1⟩ : ∃ n1, w1.heap.size = n1 := ⟨_, rfl⟩
  have hlt12 : n1 < n2 := by rw [← hn1, ← hn2]; exact (hown2.lt _ rfl).2
  have bX := Boxed.new w2 67 (.slice (some ⟨w1.heap.size, 0, none⟩) 0 128)
  obtain ⟨W4, hW4⟩ : ∃ W4, ((w2.alloc (.cells #[.slice (some ⟨w1.heap.size, 0, none⟩) 0 128] 67)).alloc (.cells #[.slice a 512 c] 22)).alloc (.cells #[.int .i64 4] 3) = W4 := ⟨_, rfl⟩
  have hs4 : W4.heap.size = n2 + 1 + 1 + 1 := by rw [← hW4, ← hn2]; simp
  have hB24 : Below w2.heap.size w2 W4 := by rw [← hW4]; exact balloc (balloc (balloc (bnil w2) _) _) _
  have cBs : W4.cell? ⟨n2 + 1, 0, none⟩ = some (.slice a 512 c) := by rw [← hW4, ← hn2]; exact al000 (cnw (by simp) rfl)
  have cBn : W4.cell? ⟨n2 + 1 + 1, 0, none⟩ = some (.int .i64 4) := by rw [← hW4, ← hn2]; exact cnw (by simp) rfl
  have bX4 := ((bX.alloc (.cells #[.slice a 512 c] 22)).alloc (.cells #[.int .i64 4] 3))
  have bS := (Boxed.new (w2.alloc (.cells #[.slice (some ⟨w1.heap.size, 0, none⟩) 0 128] 67)) 22 (.slice a 512 c)).alloc (.cells #[.int .i64 4] 3)
  have bN := Boxed.new ((w2.alloc (.cells #[.slice (some ⟨w1.heap.size, 0, none⟩) 0 128] 67)).alloc (.cells #[.slice a 512 c] 22)) 3 (.int .i64 4)
  rw [hW4, World.size_alloc] at bS
  rw [hW4, World.size_alloc, World.size_alloc] at bN
  rw [hn2] at bS bN
  have bS4 : Boxed W4 (n2 + 1) 22 (.slice a 512 c) := bS
  have bN4 : Boxed W4 (n2 + 1 + 1) 3 (.int .i64 4) := bN
  clear bS bN
  rw [hW4]
  rw [hW4] at bX4
  have hown4 := owns_up hown2 hB24
  rw [hn2] at bX4 ⊢
  rw [hn1] at bX4 hown4 ⊢
  obtain ⟨ab, ao, hab, hlab, hcell⟩ := HT.out.rk.addr (by omega)
  subst hab
  refine wpIn_rangeFunc_ownF rfl (by omega) (gf := 100) (lb := #[.pointer (some ⟨n2 + 1, 0, none⟩), .pointer (some ⟨n2 + 1 + 1, 0, none⟩)]) rfl trivial (enters_of Tryd.func100 (by kernel_rfl) rfl)
    (chunk_stops Fence.wide _ trivial rfl (by omega) n1 (n2 + 1) (n2 + 1 + 1) ab ao c HT.out.le HT.out.mx W4 (by omega) (by omega) cBs cBn) kpC_t (kpC_b (by omega) (by omega) (by omega)) (Below.refl _ _) (fun _ => rfl)
    (fun pre W' => ((∃ v, Boxed W' n2 67 v ∧ W'.ownsRow n1 5 1 v pre.length (pre.map (hexV t)) ∧ True) ∧ Below n1 w1 W') ∧ Boxed W' (n2 + 1) 22 (.slice (some ⟨ab, ao, none⟩) 512 c) ∧ Boxed W' (n2 + 1 + 1) 3 (.int .i64 4))
    (fun _ _ _ => False)
    ?own (fun _ _ _ _ _ hs _ _ => hs) ⟨⟨⟨_, bX4, hown4, trivial⟩, ?b0⟩, bS4, bN4⟩
    (fun x => { tmps := #[.slice (some ⟨ab, ao, none⟩) 512 c, undef, .string ⟨#[]⟩, .nilIface, .nilIface, .pointer (some ⟨n2, 0, none⟩), .slice (some ⟨ab, ao + 4 * x.val, none⟩) 4 4, undef, undef, undef, .slice (some ⟨ab, ao, none⟩) 512 c, .nilIface, .nilIface, .bool false, undef, .slice (some ⟨n1, 0, none⟩) 0 128, .slice (some ⟨ab, ao, none⟩) 512 c, .func (.func 100) #[] #[.pointer (some ⟨n2 + 1, 0, none⟩), .pointer (some ⟨n2 + 1 + 1, 0, none⟩)], .slice (some ⟨ab, ao + 4 * x.val, none⟩) 4 4, undef, undef, undef, undef, undef, undef, undef, undef, undef, undef, undef, undef, undef, undef, undef, undef, undef, undef], defers := [] }) ?assign ?body ?done ?stop
  case own => exact hex_own n1 n2 _ t w1 _ (Nat.le_of_eq hn1.symm) (by omega)
  case b0 =>
    have h12 : Below n1 w1 w2 := (Below.refl n1 w1).grown hg2 (Nat.le_of_eq hn1.symm) (fun k e => by cases e)
    exact h12.trans (hB24.mono (by omega))
  case assign =>
    clear hcell hn1 hn2 hs4 cBs cBn bX bX4 bS4 bN4 hown4 hB24 hg2 hown2 hW4 hi2 hi3 hi4 hb1
    intro l x W' K hK
    gi_wp2
    exact hK
  case body =>
    rintro l pre x W' ⟨⟨⟨v, hv, hrow, _⟩, hB⟩, hSb, hNb⟩ hlen
    have HSN := Lib.hid (And.intro hSb hNb)
    clear hSb hNb
    have hx := x.isLt
    obtain ⟨X, hX⟩ : ∃ X, 4 * x.val = X := ⟨_, rfl⟩
    have cc : ∀ j, j < 4 → W'.cell? ⟨ab, ao + X + j, none⟩ = some (.int .i64 (t.getD (X + j) 0)) := by
      intro j hj
      have hbW : Below W.heap.size W W' := hb1.trans (hB.mono (by rw [← hn1]; exact hb1.size))
      have hc := hcell (X + j) (by omega)
      rw [← Nat.add_assoc] at hc
      exact (hbW.cell (p := ⟨ab, ao + X + j, none⟩) hlab).trans hc
    obtain ⟨T, hT2⟩ : ∃ T : Nat → Nat, (∀ j, j < 4 → t.getD (X + j) 0 = (T j : Int)) ∧ ∀ j, T j ≤ 1 := by
      refine ⟨fun j => (t.getD (X + j) 0).toNat % 2, fun j hj => ?_, fun j => by show _ % 2 ≤ 1; omega⟩
      obtain ⟨u, eu, hu⟩ := tab_bit HTT.out (show X + j < 512 by omega)
      show t.getD (X + j) 0 = (((t.getD (X + j) 0).toNat % 2 : Nat) : Int)
      rw [eu, Int.toNat_natCast]
      omega
    have HCC := Lib.hid cc
    have HT2 := Lib.hid hT2
    have HV := Lib.hid hv
    have HROW := Lib.hid hrow
    have HBB := Lib.hid hB
    clear cc hT2 hv hrow hB
    rw [hX]
    gi_wp2
    gi_loopw [7, 21] (fun nx jx wr => ∃ j : Nat, j ≤ 4 ∧ jx = .int .i64 (j : Nat) ∧ nx = .int .i64 ((List.range j).foldl (fun n i => 2 * n + T i) 0 : Nat) ∧ wr = W') (fun _ jx _ => 4 - (intOf jx).toNat)
    case atStart => exact ⟨0, by omega, rfl, rfl, rfl⟩
    case round =>
      obtain ⟨j, hj, rfl, rfl, rfl⟩ := hrel
      by_cases hlt : j < 4
      · have z0 := HCC.out j hlt
        rw [HT2.out.1 j hlt] at z0
        have hT1 := HT2.out.2 j
        have hb := foldB T HT2.out.2 j
        have hp : 2 ^ j ≤ 8 := by
          have := Nat.pow_le_pow_right (n := 2) (by omega) (show j ≤ 3 by omega)
          have h9 : (2 : Nat) ^ 3 = 8 := by decide
          omega
        have hb2 : (List.range j).foldl (fun n i => 2 * n + T i) 0 ≤ 8 := by omega
        have HNX : Hid ((List.range (j + 1)).foldl (fun n i => 2 * n + T i) 0 = 2 * (List.range j).foldl (fun n i => 2 * n + T i) 0 + T j) := by show _ = _; rw [List.range_succ, List.foldl_append]; rfl
        generalize (List.range j).foldl (fun n i => 2 * n + T i) 0 = N at *
        generalize T j = u at *
        have x0 : (0 : Int) ≤ (j : Int) := by omega
        have x1 : (j : Int) < ((4 : Nat) : Int) := by omega
        have x2 : (j : Int) < 4 := by omega
        clear hb hp hW4 hcell cBs cBn hs4 hB24 hown4 bX bX4 bS4 bN4 hi2 hi3 hi4 hg2 hown2 hb1
        gi_wp2
        go_roundw
        case rel => exact ⟨j + 1, by omega, by go_num, by rw [HNX.out]; go_num, trivial⟩
        case measure => simp [intOf]; omega
      · obtain rfl : j = 4 := by omega
        have x2 : ¬ ((4 : Nat) : Int) < 4 := by omega
        clear hW4 hcell cBs cBn hs4 hB24 hown4 bX bX4 bS4 bN4 hi2 hi3 hi4 hg2 hown2 hb1
        have hbv := HV.out.cell
        have hbf := HV.out.frozen
        have hwt : (List.range 4).foldl (fun n i => 2 * n + T i) 0 = wtF t x.val := by
          show 2 * (2 * (2 * (2 * 0 + T 0) + T 1) + T 2) + T 3 = _
          have t0 := HT2.out.1 0 (by omega)
          have t1 := HT2.out.1 1 (by omega)
          have t2 := HT2.out.1 2 (by omega)
          have t3 := HT2.out.1 3 (by omega)
          rw [Nat.add_zero] at t0
          unfold wtF
          rw [hX, t0, t1, t2, t3]
          simp only [Int.toNat_natCast]
          omega
        have hlt16 := wtF_lt HTT.out hx
        obtain ⟨Y, hY⟩ : ∃ Y, wtF t x.val = Y := ⟨_, rfl⟩
        rw [hY] at hwt hlt16
        have hix : ∀ w, (Instr.index 9 (.string hexS) (.int .i64 (Y : Int))).run Tryd.prog w = .ok (.int .u8 ((hexC Y).toNat : Nat)) w := by
          intro w
          have hsz : hexS.size = 16 := rfl
          rw [run_index_string w 9 hexS .i64 (Y : Int) (by kernel_rfl), dif_pos ⟨by omega, by rw [hsz]; omega⟩]
          have h9 := hex_at ⟨Y, hlt16⟩
          simp only [Int.toNat_natCast] at h9 ⊢
          rw [h9]
        have hixL : ∀ w, (Instr.index 9 (.string { data := #[48, 49, 50, 51, 52, 53, 54, 55, 56, 57, 97, 98, 99, 100, 101, 102] }) (.int .i64 (Y : Int))).run Tryd.prog w = .ok (.int .u8 ((hexC Y).toNat : Nat)) w := hix
        rw [hwt]
        have HY := Lib.hid hY
        have y0 : (0 : Int) ≤ (Y : Int) := by omega
        have y1 : (Y : Int) < 16 := by omega
        clear hwt hix hY
        gi_wp2
        have HSB : Hid (n1 ≤ wr.heap.size) := by show _ ≤ _; have := HBB.out.size; omega
        have HRA : Hid ((wr.drew.alloc (.cells #[.int .u8 ((hexC Y).toNat : Nat)] 5)).ownsRow n1 5 1 v pre.length (pre.map (hexV t))) := by
          have h : wr.drew.ownsRow n1 5 1 v pre.length (pre.map (hexV t)) := HROW.out
          exact h.alloc _
        have HSA : Hid (n1 ≤ (wr.drew.alloc (.cells #[.int .u8 ((hexC Y).toNat : Nat)] 5)).heap.size) := by
          have := HBB.out.size
          show _ ≤ _
          simp
          have e : wr.drew.heap.size = wr.heap.size := rfl
          omega
        have hbva : (wr.alloc (.cells #[.int .u8 ((hexC Y).toNat : Nat)] 5)).cell? ⟨n2, 0, none⟩ = some v := al000 hbv
        have hmix : Tryd.prog.follows .mixedOrders = true := by kernel_rfl
        refine wpIn_region_any hmix ?_
        change wpAnyIn _ _ _ _ _ _ _ _ _ (World.drew _)
        refine wpAnyIn_ready (rs := [0, 1]) (by kernel_rfl) (by simp) ?_
        refine AllReadyIn.cons rfl (fun K hK => ?_) (AllReadyIn.cons rfl (fun K hK => ?_) AllReadyIn.nil)
        · skip
          go_simp
          refine hK _ _ ?_; clear hK K
          refine wpAnyIn_ready (rs := [1]) (by kernel_rfl) (by simp) ?_
          refine AllReadyIn.cons rfl (fun K hK => ?_) AllReadyIn.nil
          go_simp
          refine hK _ _ ?_; clear hK K
          refine wpAnyIn_ready (rs := [2]) (by kernel_rfl) (by simp) ?_
          refine AllReadyIn.cons rfl (fun K hK => ?_) AllReadyIn.nil
          go_simp
          refine hK _ _ ?_; clear hK K
          refine wpAnyIn_ready (rs := [3]) (by kernel_rfl) (by simp) ?_
          refine AllReadyIn.cons rfl (fun K hK => ?_) AllReadyIn.nil
          go_simp
          refine hK _ _ ?_; clear hK K
          refine wpAnyIn_ready (rs := [4]) (by kernel_rfl) (by simp) ?_
          refine AllReadyIn.cons rfl (fun K hK => ?_) AllReadyIn.nil
          refine step_appendIn rfl _ _ 67 rfl n1 5 i0 (.int .u8 0) 1 1 et_u8.ht HI4.out.1 HI4.out.2.1 HI4.out.2.2 HI5.out rfl (by decide) v pre.length _ rfl HRA.out ⟨wr.drew.heap.size, 0, none⟩ 1 1 [.int .u8 ((hexC Y).toNat : Nat)] rfl rfl (cell_one_new _ _ _) (by simp [Value.oneCell']) (by unfold maxLen; omega) (by omega) HSA.out ?_
          intro v5 w5 hown5 hgrow5
          have HAP := Lib.hid (hexAp HV.out HROW.out HBB.out HSB.out (by omega) HSN.out.1 HSN.out.2 hown5 hgrow5)
          obtain ⟨g5, c5, rfl⟩ := ownsRow_succ hown5
          have hc5 := HAP.out.1
          have hf5 := HAP.out.2.1
          clear hown5 hgrow5
          refine hK _ _ ?_; clear hK K
          refine wpAnyIn_ready (rs := [5]) (by kernel_rfl) (by simp) ?_
          refine AllReadyIn.cons rfl (fun K hK => ?_) AllReadyIn.nil
          go_simp
          refine hK _ _ ?_; clear hK K
          refine wpAnyIn_done (by kernel_rfl) ?_ _
          gi_wp2; exact hexEnd HY.out HAP.out
        · skip
          go_simp
          refine hK _ _ ?_; clear hK K
          refine wpAnyIn_ready (rs := [0, 2]) (by kernel_rfl) (by simp) ?_
          refine AllReadyIn.cons rfl (fun K hK => ?_) (AllReadyIn.cons rfl (fun K hK => ?_) AllReadyIn.nil)
          · skip
            go_simp
            refine hK _ _ ?_; clear hK K
            refine wpAnyIn_ready (rs := [2]) (by kernel_rfl) (by simp) ?_
            refine AllReadyIn.cons rfl (fun K hK => ?_) AllReadyIn.nil
            go_simp
            refine hK _ _ ?_; clear hK K
            refine wpAnyIn_ready (rs := [3]) (by kernel_rfl) (by simp) ?_
            refine AllReadyIn.cons rfl (fun K hK => ?_) AllReadyIn.nil
            go_simp
            refine hK _ _ ?_; clear hK K
            refine wpAnyIn_ready (rs := [4]) (by kernel_rfl) (by simp) ?_
            refine AllReadyIn.cons rfl (fun K hK => ?_) AllReadyIn.nil
            refine step_appendIn rfl _ _ 67 rfl n1 5 i0 (.int .u8 0) 1 1 et_u8.ht HI4.out.1 HI4.out.2.1 HI4.out.2.2 HI5.out rfl (by decide) v pre.length _ rfl HRA.out ⟨wr.drew.heap.size, 0, none⟩ 1 1 [.int .u8 ((hexC Y).toNat : Nat)] rfl rfl (cell_one_new _ _ _) (by simp [Value.oneCell']) (by unfold maxLen; omega) (by omega) HSA.out ?_
            intro v5 w5 hown5 hgrow5
            have HAP := Lib.hid (hexAp HV.out HROW.out HBB.out HSB.out (by omega) HSN.out.1 HSN.out.2 hown5 hgrow5)
            obtain ⟨g5, c5, rfl⟩ := ownsRow_succ hown5
            have hc5 := HAP.out.1
            have hf5 := HAP.out.2.1
            clear hown5 hgrow5
            refine hK _ _ ?_; clear hK K
            refine wpAnyIn_ready (rs := [5]) (by kernel_rfl) (by simp) ?_
            refine AllReadyIn.cons rfl (fun K hK => ?_) AllReadyIn.nil
            go_simp
            refine hK _ _ ?_; clear hK K
            refine wpAnyIn_done (by kernel_rfl) ?_ _
            gi_wp2; exact hexEnd HY.out HAP.out
          · skip
            go_simp
            refine hK _ _ ?_; clear hK K
            refine wpAnyIn_ready (rs := [0, 3]) (by kernel_rfl) (by simp) ?_
            refine AllReadyIn.cons rfl (fun K hK => ?_) (AllReadyIn.cons rfl (fun K hK => ?_) AllReadyIn.nil)
            · skip
              go_simp
              refine hK _ _ ?_; clear hK K
              refine wpAnyIn_ready (rs := [3]) (by kernel_rfl) (by simp) ?_
              refine AllReadyIn.cons rfl (fun K hK => ?_) AllReadyIn.nil
              go_simp
              refine hK _ _ ?_; clear hK K
              refine wpAnyIn_ready (rs := [4]) (by kernel_rfl) (by simp) ?_
              refine AllReadyIn.cons rfl (fun K hK => ?_) AllReadyIn.nil
              refine step_appendIn rfl _ _ 67 rfl n1 5 i0 (.int .u8 0) 1 1 et_u8.ht HI4.out.1 HI4.out.2.1 HI4.out.2.2 HI5.out rfl (by decide) v pre.length _ rfl HRA.out ⟨wr.drew.heap.size, 0, none⟩ 1 1 [.int .u8 ((hexC Y).toNat : Nat)] rfl rfl (cell_one_new _ _ _) (by simp [Value.oneCell']) (by unfold maxLen; omega) (by omega) HSA.out ?_
              intro v5 w5 hown5 hgrow5
              have HAP := Lib.hid (hexAp HV.out HROW.out HBB.out HSB.out (by omega) HSN.out.1 HSN.out.2 hown5 hgrow5)
              obtain ⟨g5, c5, rfl⟩ := ownsRow_succ hown5
              have hc5 := HAP.out.1
              have hf5 := HAP.out.2.1
              clear hown5 hgrow5
              refine hK _ _ ?_; clear hK K
              refine wpAnyIn_ready (rs := [5]) (by kernel_rfl) (by simp) ?_
              refine AllReadyIn.cons rfl (fun K hK => ?_) AllReadyIn.nil
              go_simp
              refine hK _ _ ?_; clear hK K
              refine wpAnyIn_done (by kernel_rfl) ?_ _
              gi_wp2; exact hexEnd HY.out HAP.out
            · skip
              go_simp
              refine hK _ _ ?_; clear hK K
              refine wpAnyIn_ready (rs := [0]) (by kernel_rfl) (by simp) ?_
              refine AllReadyIn.cons rfl (fun K hK => ?_) AllReadyIn.nil
              go_simp
              refine hK _ _ ?_; clear hK K
              refine wpAnyIn_ready (rs := [4]) (by kernel_rfl) (by simp) ?_
              refine AllReadyIn.cons rfl (fun K hK => ?_) AllReadyIn.nil
              refine step_appendIn rfl _ _ 67 rfl n1 5 i0 (.int .u8 0) 1 1 et_u8.ht HI4.out.1 HI4.out.2.1 HI4.out.2.2 HI5.out rfl (by decide) v pre.length _ rfl HRA.out ⟨wr.drew.heap.size, 0, none⟩ 1 1 [.int .u8 ((hexC Y).toNat : Nat)] rfl rfl (cell_one_new _ _ _) (by simp [Value.oneCell']) (by unfold maxLen; omega) (by omega) HSA.out ?_
              intro v5 w5 hown5 hgrow5
              have HAP := Lib.hid (hexAp HV.out HROW.out HBB.out HSB.out (by omega) HSN.out.1 HSN.out.2 hown5 hgrow5)
              obtain ⟨g5, c5, rfl⟩ := ownsRow_succ hown5
              have hc5 := HAP.out.1
              have hf5 := HAP.out.2.1
              clear hown5 hgrow5
              refine hK _ _ ?_; clear hK K
              refine wpAnyIn_ready (rs := [5]) (by kernel_rfl) (by simp) ?_
              refine AllReadyIn.cons rfl (fun K hK => ?_) AllReadyIn.nil
              go_simp
              refine hK _ _ ?_; clear hK K
              refine wpAnyIn_done (by kernel_rfl) ?_ _
              gi_wp2; exact hexEnd HY.out HAP.out
  case done =>
    rintro D ys W9 hD rfl ⟨⟨⟨v, hv, hrow, _⟩, hB⟩, _, _⟩ hK
    obtain ⟨g9, c9, rfl, hrd⟩ := hexRow hrow
    have hc := hv.cell
    have cv := conv_str Tryd.underlying67 Tryd.underlying5 Tryd.underlying9 (c := c9) hrd
    rw [strOfU8] at cv
    have HW9 := Lib.hid (hb1.trans (hB.mono (by rw [← hn1]; exact hb1.size)))
    have HSZ : Hid (W.heap.size ≤ W4.heap.size) := by show _ ≤ _; have := hb1.size; omega
    clear hv hrow hrd hB hW4 hcell cBs cBn hs4 hB24 hown4 bX bX4 bS4 bN4 hi2 hi3 hi4 hg2 hown2
    gi_wp2
    refine ⟨by simp, .inl ⟨_, _, rfl, run_takeDeferred hK, ?_⟩⟩
    refine ⟨.tuple #[.string ⟨(hexT t).toArray⟩, .nilIface], by simp [results, Tryd.results18, go_sem], rfl, ?_⟩
    exact (HW9.out).trans (belowK_b (w := W4) (by have := HSZ.out; omega) W9 D _ _ hD hK rfl rfl)
  case stop =>
    rintro D c pre W9 _ _ h _
    exact h.elim
/-- what Hex answers, for any numbers -/
def hexO (t : List Int) : ByteArray := if tabD t = none then ⟨(hexT t).toArray⟩ else ⟨#[]⟩
def StrErr (R : Nat → Addr) (W : World) (s : ByteArray) (x : ErrD) (e : Ending) (w' : World) : Prop := ∃ ev, e = .returned (.tuple #[.string s, ev]) ∧ EC R w' ev x ∧ Below W.heap.size W w'
set_option maxHeartbeats 4000000 in
theorem hex_any (a : Option Addr) (n c : Nat) (t : List Int) (W : World) (R : Nat → Addr) (hS : Sent W R) (hT : SlI W a n c t) :
    Calls Tryd.prog 18 #[.slice a n c] W (StrErr R W (hexO t) (tabD t)) := by
  by_cases hd : tabD t = none
  · have ht := tabD_none hd
    obtain rfl : n = 512 := hT.rk.len.trans ht.len
    refine (hex_ok a c t W R hS hT ht).mono ?_
    rintro e w' ⟨rfl, hb⟩
    unfold StrErr hexO
    rw [if_pos hd, hd]
    exact ⟨_, rfl, rfl, hb⟩
  · have HD := Lib.hid hd
    have hO : hexO t = ⟨#[]⟩ := by unfold hexO; rw [if_neg hd]
    have HO := Lib.hid hO
    have HS := Lib.hid hS
    have HT := Lib.hid hT
    clear hd hO hS hT
    refine (callsIn_wide (n := 5)).1 ?_
    refine callsIn_of_wp_marks Tryd.func18 rfl trivial ?_ rfl
    simp only [Tryd.ntmps18, List.size_toArray, List.length_cons, List.length_nil, Nat.reduceAdd, Nat.reduceSub, Array.replicate_succ, Array.replicate_zero, List.push_toArray, List.append_toArray, List.nil_append, List.cons_append]
    gi_wp2_with (first
      | (refine ⟨trivial, ?_⟩; gi_at_call 34; refine (callsIn_wide.2 (plcheck_er a n c t W R HS.out HT.out.rk HT.out.nm HD.out)).mono ?_; rintro e w1 ⟨g, rfl, he, hb1⟩; have HE := Lib.hid he; have HB := Lib.hid hb1; clear he hb1))
    refine ⟨.tuple #[.string ⟨#[]⟩, .iface 117 (.pointer (some ⟨g, 0, none⟩))], by simp [results, Tryd.results18, go_sem], ?_⟩
    rw [HO.out]
    exact ⟨_, rfl, HE.out, HB.out⟩
end Go.Proofs.YtocfkmdoalhjmaaDoor
