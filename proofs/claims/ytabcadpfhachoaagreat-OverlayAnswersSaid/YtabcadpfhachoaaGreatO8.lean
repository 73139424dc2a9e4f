/- Contract: the iterator of pieces (overlay): all pieces, in their order, for every loop body that keeps what the iterator has made. -/
import Derived.Test.YtabcadpfhachoaaGreatO7
import Derived.Test.YtabcadpfhachoaaGreatHI
import Derived.RangeFuncNested
import Derived.RangeFuncBound
import Derived.RangeFuncCalls
import Derived.RangeFuncLeaves
import Derived.Shelf.Abstract
import Derived.Shelf.RegionOpen
import Derived.OwnWalkIn
import Derived.TacticsInMore
import Derived.LoopNIn
import Derived.LoopIn
import Derived.Sort.CutIn
import Derived.Deep.OwnRows
namespace Go.Proofs.YtabcadpfhachoaaGreat
open Go.RowKit Go.Shelf
set_option linter.unusedVariables false
set_option linter.unusedSimpArgs false
attribute [local go_sem] Oper.semAt_some

/-- A piece, with a set that is small. -/
abbrev Pc := { p : Nat × R4 // p.1 < 4096 }
def pcV (x : Pc) : Array Value := #[.int .i64 (x.1.1 : Int), .agg #[.int .i64 x.1.2.l, .int .i64 x.1.2.b, .int .i64 x.1.2.r, .int .i64 x.1.2.t]]
/-- Rows of spans that a round has made. -/
structure RowsAt (W : World) (B : Nat) (g m : Nat) (rows : List (List (Sg Unit))) (vs : List Value) : Prop where
  len : rows.length = m
  vlen : vs.length = m
  o : W.ownsRow B 91 1 (.slice (some ⟨g, 0, none⟩) m m) m vs
  fs : ∀ t (h : t < rows.length) (h' : t < vs.length), W.ownsRow B 109 2 vs[t] rows[t].length (sCells rows[t])
theorem RowsAt.but {W W' : World} {B g m : Nat} {rows : List (List (Sg Unit))} {vs : List Value} (h : RowsAt W B g m rows vs) (hb : CellsBut 42 W W') : RowsAt W' B g m rows vs :=
  ⟨h.len, h.vlen, ownsRow_but h.o hb (by decide), fun t h1 h2 => ownsRow_but (h.fs t h1 h2) hb (by decide)⟩
theorem RowsAt.slss {W : World} {B g m : Nat} {rows : List (List (Sg Unit))} {vs : List Value} (h : RowsAt W B g m rows vs) : SlSS W (some ⟨g, 0, none⟩) m rows := by
  refine ⟨h.len, fun i hi => ?_⟩
  have hv : i < vs.length := by have := h.len; have := h.vlen; omega
  have hf := h.fs i hi hv
  obtain ⟨A, c, hA, _, _, _⟩ := own_slice hf
  rcases Lies.of_own h.o with h0 | ⟨b, off, e, hb, hc⟩
  · have := h.len; omega
  · injection e with e
    injection e with e1 e2
    subst e1 e2
    exact ⟨g, 0, A, c, rfl, hb, hc i _ (by rw [List.getElem?_eq_getElem hv, hA]), SlS.of_own (by rw [← hA]; exact hf)⟩

theorem Tryz.infoSpans : (Tryz.prog.info? 91).map (fun i => (i.zero, i.size, i.bytes)) = some (some (.slice none 0 0), 1, 24) := by kernel_rfl
theorem madeCells_listR (z : Value) (n : Nat) : (madeCells #[z] n).toList = List.replicate n z := by
  refine List.ext_getElem (by simp [madeCells]) (fun i h1 h2 => ?_)
  simp [madeCells, Nat.mod_one]
theorem own_madeR (w : World) (e : TypeId) (z : Value) (n : Nat) (hn : n ≤ maxLen) : (w.alloc (.cells (madeCells #[z] n) e)).ownsRow w.heap.size e 1 (.slice (some ⟨w.heap.size, 0, none⟩) n n) n (List.replicate n z) :=
  ⟨by simp, .inr ⟨w.heap.size, n, madeCells #[z] n, rfl, Nat.le_refl _, heap_alloc_new w _, Nat.le_refl _, hn, by simp [size_madeCells], by rw [madeCells_listR]; simp⟩⟩
theorem flatten_le {α : Type} (b : Nat) : ∀ (l : List (List α)), (∀ r ∈ l, r.length ≤ b) → l.flatten.length ≤ b * l.length
  | [], _ => by simp
  | r :: t, h => by
    have h1 := h r (by simp)
    have h2 := flatten_le b t (fun r hr => h r (by simp [hr]))
    rw [List.flatten_cons, List.length_append, List.length_cons, Nat.mul_succ]
    omega
theorem flat_prefix {α : Type} (f : Nat → List α) (i : Nat) : ∀ n, i < n → (List.range i).flatMap f ++ f i <+: (List.range n).flatMap f
  | 0, h => by omega
  | n + 1, h => by
    rw [List.range_succ, List.flatMap_append]
    by_cases hi : i < n
    · exact (flat_prefix f i n hi).trans (List.prefix_append _ _)
    · obtain rfl : i = n := by omega
      simp
theorem piece_prefix (m : List (List R4)) (k s : Nat) (hk : k + 1 < (cutsP m.flatten).length) (rows : List (List (Sg Unit))) (hr : rows = m.map fun a => rowP a ((cutsP m.flatten).getD k 0)) (hs : s + 1 < (endsP rows).length) :
    (List.range k).flatMap (bandPcs m (cutsP m.flatten)) ++ (List.range s).flatMap (onePc rows ((cutsP m.flatten).getD k 0) ((cutsP m.flatten).getD (k + 1) 0) (endsP rows)) ++ onePc rows ((cutsP m.flatten).getD k 0) ((cutsP m.flatten).getD (k + 1) 0) (endsP rows) s <+: piecesP m := by
  refine List.IsPrefix.trans ?_ (flat_prefix (bandPcs m (cutsP m.flatten)) k _ (show k < (cutsP m.flatten).length - 1 by omega))
  rw [List.append_assoc, List.prefix_append_right_inj]
  have := flat_prefix (onePc rows ((cutsP m.flatten).getD k 0) ((cutsP m.flatten).getD (k + 1) 0) (endsP rows)) s _ (show s < (endsP rows).length - 1 by omega)
  unfold bandPcs rowPcs
  rw [← hr]
  exact this
set_option maxHeartbeats 8000000 in
set_option maxRecDepth 100000 in
theorem pieces1_in (l n₀ bc bl bL : Nat) (A : Option Addr) (m c n N : Nat) (L : RL) (J Jx : List Pc → World → Prop) (w0 W : World)
    (hY : ∀ pre x W, J pre W → pre.length < N → YieldAt Fence.wide (n - 1) Tryz.prog l (pcV x) W fun e W' => (e = .returned (.bool true) ∧ J (pre ++ [x]) W' ∧ Keeps n₀ 42 W W') ∨ (e = .returned (.bool false) ∧ Jx (pre ++ [x]) W'))
    (hJ : AbidesFrom W.heap.size J) (hP : PcAt W n₀ bc bl bL A m c L) (hw0 : w0.heap.size = n₀) (hlow : Below n₀ w0 W) (hA : SlG w0 A m c L) (hm : m ≤ 12) (hpos : ∀ a ∈ rgs L, ∀ q ∈ a, q.l < q.r) (hlen : ∀ a ∈ rgs L, a.length ≤ 120)
    (hN : (piecesP (rgs L)).length ≤ N) (hn : 3 ≤ n) (h0 : J [] W) :
    CallsIn Fence.wide n Tryz.prog 56 #[.func (.yield l) #[] #[], .pointer (some ⟨bc, 0, none⟩), .pointer (some ⟨bl, 0, none⟩), .pointer (some ⟨bL, 0, none⟩)] W fun e W' => (∃ v, e = .returned v) ∧
      ((∃ ys : List Pc, ys.map (·.1) = piecesP (rgs L) ∧ J ys W') ∨ (∃ pre : List Pc, pre.map (·.1) <+: piecesP (rgs L) ∧ Jx pre W')) := by
  have hfE : Fence.wide.fn 58 := trivial
  have hfW : Fence.wide.fn 59 := trivial
  have hn1 : 1 ≤ n := by omega
  have hn2 : 1 ≤ n - 1 := by omega
  have HY := Lib.hid hY
  have HJ := Lib.hid hJ
  have HP := Lib.hid hP
  have Hlow := Lib.hid hlow
  have HA := Lib.hid hA
  have Hpos := Lib.hid hpos
  have Hlen := Lib.hid hlen
  have HN := Lib.hid hN
  have H0 := Lib.hid h0
  have Hw0 := Lib.hid hw0
  clear hY hJ hP hlow hA hpos hlen hN h0 hw0
  refine callsIn_of_wp Tryz.func56 rfl trivial ?_ rfl
  simp only [Tryz.ntmps56, List.size_toArray, List.length_cons, List.length_nil, Nat.reduceAdd, Nat.reduceSub, Array.replicate_succ, Array.replicate_zero, List.push_toArray, List.append_toArray, List.nil_append, List.cons_append]
  gi_wp2_with fail
  gi_loopw [5] (fun i wr => ∃ (k : Nat) (pre : List Pc), i = .int .i64 ((k : Int) + 1) ∧ k ≤ (cutsP (rgs L).flatten).length - 1 ∧ pre.map (·.1) = (List.range k).flatMap (bandPcs (rgs L) (cutsP (rgs L).flatten)) ∧ J pre wr ∧ Keeps n₀ 42 W wr) (fun i _ => (cutsP (rgs L).flatten).length - (intOf i).toNat)
  case atStart => exact ⟨0, [], rfl, by omega, rfl, H0.out, ⟨Below.refl _ _, CellsBut.refl _ _⟩⟩
  case round =>
    obtain ⟨wA, rfl⟩ : ∃ wA : World, wA = wr := ⟨_, rfl⟩
    obtain ⟨k, pre, rfl, hk2, hpre, hj, hkp⟩ := hrel
    have Hpre := Lib.hid hpre
    have Hj := Lib.hid hj
    have Hkp := Lib.hid hkp
    have HPA := Lib.hid (HP.out.but hkp.but)
    obtain ⟨cv, hcb, hcown⟩ := HPA.out.cuts
    obtain ⟨CA, cc, rfl, hCl, hCc, hCm⟩ := own_slice hcown
    obtain ⟨C, hC⟩ : ∃ C, C = cutsP (rgs L).flatten := ⟨_, rfl⟩
    rw [← hC] at hk2 hcb hcown hCl hCc
    have HC := Lib.hid hC
    have cb := cell_of_row _ _ 0 _ _ _ hcb
    have Hcown := Lib.hid hcown
    have Hcb := Lib.hid hcb
    have cl := cell_of_row _ _ 0 _ _ _ HPA.out.regs
    have hltA := HPA.out.lt
    clear hpre hj hkp hcb hcown hCl hC
    unfold maxLen at hCm
    obtain ⟨nC, hnC⟩ : ∃ nC, C.length = nC := ⟨_, rfl⟩
    rw [hnC] at hk2 cb hCc Hcown Hcb
    have HnC := Lib.hid hnC
    clear hnC
    by_cases hkn : k + 1 < nC
    · have hkn' : (k : Int) + 1 < (nC : Int) := by omega
      have hmk := fun W : World => run_make_row' (P := Tryz.prog) 90 91 (.slice none 0 0) 24 Tryz.underlying90 Tryz.infoSpans rfl .i64 .i64 m (by omega) (by omega) W
      gi_upto_region 4 with fail
      clear hmk
      obtain ⟨wB, hwB⟩ : ∃ wB : World, wB = wA.alloc (.cells (madeCells #[.slice none 0 0] m) 91) := ⟨_, rfl⟩
      rw [← hwB]
      have HbAB : Hid (Below wA.heap.size wA wB) := Lib.hid (by rw [hwB]; exact (Below.refl _ _).alloc (Nat.le_refl _) _)
      have hsB : wA.heap.size + 1 = wB.heap.size := by rw [hwB]; simp
      have HsB := Lib.hid hsB
      have hsB' : wA.heap.size < wB.heap.size := by omega
      clear hsB
      have HR0 : Hid (wB.ownsRow wA.heap.size 91 1 (.slice (some ⟨wA.heap.size, 0, none⟩) m m) m (List.replicate m (.slice none 0 0))) := Lib.hid (by rw [hwB]; exact own_madeR wA _ _ m (by unfold maxLen; omega))
      clear hwB
      have HPB := Lib.hid (HPA.out.but (CellsBut.below HbAB.out))
      have clB := cell_of_row _ _ 0 _ _ _ HPB.out.regs
      clear cb cl
      obtain ⟨y, hy⟩ : ∃ y, y = C.getD k 0 := ⟨_, rfl⟩
      have Hy := Lib.hid hy
      obtain ⟨rows, hrows⟩ : ∃ rows, rows = (rgs L).map fun a => rowP a y := ⟨_, rfl⟩
      have Hrows := Lib.hid hrows
      clear hy hrows
      gi_upto_region 5 with fail
      gi_loopw [7, 22] (fun _ i wr => ∃ (t : Nat) (vs : List Value), t ≤ m ∧ i = .int .i64 (t : Int) ∧ vs.length = m ∧ wr.ownsRow wA.heap.size 91 1 (.slice (some ⟨wA.heap.size, 0, none⟩) m m) m vs ∧ (∀ q (h : q < rows.length) (h' : q < vs.length), q < t → wr.ownsRow (wA.heap.size + 1) 109 2 vs[q] rows[q].length (sCells rows[q])) ∧ Below wA.heap.size wA wr) (fun _ i _ => m - (intOf i).toNat)
      case atStart =>
        exact ⟨0, List.replicate m (.slice none 0 0), Nat.zero_le _, rfl, by simp, HR0.out, fun q _ _ h => absurd h (by omega), HbAB.out⟩
      case round =>
        obtain ⟨t, vs, htm, rfl, hvl, hro, hfs, hbr⟩ := hrel
        have Hvl := Lib.hid hvl
        have Hro := Lib.hid hro
        have Hfs := Lib.hid hfs
        have Hbr := Lib.hid hbr
        have HPr := Lib.hid (HPA.out.but (CellsBut.below hbr))
        have hsr := hbr.size
        clear hvl hro hfs hbr
        by_cases htm1 : t < m
        · have htm' : (t : Int) < (m : Int) := by omega
          have hltr := HPr.out.lt
          obtain ⟨lv, hLb, hLo⟩ := HPr.out.lists
          obtain ⟨gL, lc, rfl, hgL0, hgL, _, _, hLc, _⟩ := own_at hLo (by omega)
          obtain ⟨uv, hCb, hCo⟩ := HPr.out.cuts
          rw [← HC.out, HnC.out] at hCo
          obtain ⟨gC, cc', rfl, hgC0, hgC, _, _, hCc', _⟩ := own_at hCo (by omega)
          have hCk : k < C.length := by have := HnC.out; omega
          have cC := hCc' k (.int .i64 y) (by rw [List.getElem?_map, List.getElem?_eq_getElem hCk]; simp only [Option.map_some]; rw [Hy.out]; simp [List.getD, List.getElem?_eq_getElem hCk])
          have hLt : t < L.length := by have := HPr.out.len; omega
          have cL := hLc t (rgC L[t]) (by unfold rgCells; rw [List.getElem?_map, List.getElem?_eq_getElem hLt]; rfl)
          have hslr : SlR wr L[t].2.a L[t].1.length L[t].2.c L[t].1 := (HA.out.fits _ (List.getElem_mem hLt)).below (by rw [Hw0.out]; exact Hlow.out.trans (Hkp.out.low.trans (Hbr.out.mono (by have := Hkp.out.low.size; have := Hlow.out.size; have := Hw0.out; omega))))
          have Hslr := Lib.hid hslr
          have hpt : ∀ q ∈ L[t].1, q.l < q.r := Hpos.out _ (by unfold rgs; exact List.mem_map_of_mem (List.getElem_mem hLt))
          have hlt2 : L[t].1.length ≤ 120 := Hlen.out _ (by unfold rgs; exact List.mem_map_of_mem (List.getElem_mem hLt))
          have Hpt := Lib.hid hpt
          have hrt : t < rows.length := by rw [Hrows.out, List.length_map, rgs_len]; exact hLt
          have Hrt : Hid (rows[t] = rowP L[t].1 y) := Lib.hid (by simp only [Hrows.out, List.getElem_map, rgs])
          have b1 := cell_of_row _ _ 0 _ _ _ hLb
          have b2 := cell_of_row _ _ 0 _ _ _ hCb
          obtain ⟨a0, ha0⟩ : ∃ a0, L[t].2.a = a0 := ⟨_, rfl⟩
          obtain ⟨c9, hc9⟩ : ∃ c9, L[t].2.c = c9 := ⟨_, rfl⟩
          unfold rgC at cL
          rw [ha0, hc9] at cL Hslr
          generalize L[t].1 = lr at *
          have e1 : IntKind.i64.wrap (k : Int) = (k : Int) := IntWalk.i64_in _ (by omega)
          have hkn0 : k < nC := by omega
          have hvt : t < vs.length := by have := Hvl.out; omega
          obtain ⟨gR, rc, hgR, _, hgRl, _, _, hRc, hRf⟩ := own_at Hro.out (by omega)
          obtain rfl : wA.heap.size = gR := by injection hgR with e _ _; injection e with e; injection e
          have cR := Lib.hid (hRc t vs[t] (List.getElem?_eq_getElem hvt))
          have fR := Lib.hid (hRf t)
          clear hgR hRc hRf
          clear hLb hLo hLc hCb hCo hCc' hslr hpt ha0 hc9
          gi_upto_region 7 with fail
          refine wpIn_wide.2 ?_
          refine wp_region_held_tail (S := fun w' => w'.cell? ⟨bL, 0, none⟩ = some (.slice (some ⟨gL, 0, none⟩) m lc) ∧ w'.cell? ⟨gL, t, none⟩ = some (.slice a0 lr.length c9) ∧ w'.cell? ⟨bc, 0, none⟩ = some (.slice (some ⟨gC, 0, none⟩) nC cc') ∧ w'.cell? ⟨gC, k, none⟩ = some (.int .i64 y)) 12 (by kernel_rfl) (by kernel_rfl) (by kernel_rfl) ?_
          have hHeld : (fun w' : World => w'.cell? ⟨bL, 0, none⟩ = some (.slice (some ⟨gL, 0, none⟩) m lc) ∧ w'.cell? ⟨gL, t, none⟩ = some (.slice a0 lr.length c9) ∧ w'.cell? ⟨bc, 0, none⟩ = some (.slice (some ⟨gC, 0, none⟩) nC cc') ∧ w'.cell? ⟨gC, k, none⟩ = some (.int .i64 y)) wr.drew := ⟨b1, cL, b2, cC⟩
          simp only [List.take_succ_cons, List.take_zero, List.replicate]
          refine wpAnyH_take (i := 0) (v := ?vva0) rfl (by kernel_rfl) (by kernel_rfl) (by kernel_rfl) (fun _ _ _ h => h) (Or.inl ⟨by rfl, ?hya0⟩) hHeld ?resta0; (case hya0 => (intro w hSw; (try dsimp only at hSw); go_simp; all_goals (with_reducible rfl))); simp only [Act.put, List.setIfInBounds_toArray, List.set_cons_zero, List.set_cons_succ]
          refine wpAnyH_take (i := 1) (v := ?vva1) rfl (by kernel_rfl) (by kernel_rfl) (by kernel_rfl) (fun _ _ _ h => h) (Or.inl ⟨by rfl, ?hya1⟩) hHeld ?resta1; (case hya1 => (intro w hSw; (try dsimp only at hSw); go_simp; all_goals (with_reducible rfl))); simp only [Act.put, List.setIfInBounds_toArray, List.set_cons_zero, List.set_cons_succ]
          refine wpAnyH_take (i := 2) (v := ?vva2) rfl (by kernel_rfl) (by kernel_rfl) (by kernel_rfl) (fun _ _ _ h => h) (Or.inl ⟨by rfl, ?hya2⟩) hHeld ?resta2; (case hya2 => (intro w hSw; (try dsimp only at hSw); go_simp; all_goals (with_reducible rfl))); simp only [Act.put, List.setIfInBounds_toArray, List.set_cons_zero, List.set_cons_succ]
          refine wpAnyH_take (i := 3) (v := ?vva3) rfl (by kernel_rfl) (by kernel_rfl) (by kernel_rfl) (fun _ _ _ h => h) (Or.inl ⟨by rfl, ?hya3⟩) hHeld ?resta3; (case hya3 => (intro w hSw; (try dsimp only at hSw); go_simp; all_goals (with_reducible rfl))); simp only [Act.put, List.setIfInBounds_toArray, List.set_cons_zero, List.set_cons_succ]
          refine wpAnyH_take (i := 4) (v := ?vva4) rfl (by kernel_rfl) (by kernel_rfl) (by kernel_rfl) (fun _ _ _ h => h) (Or.inl ⟨by rfl, ?hya4⟩) hHeld ?resta4; (case hya4 => (intro w hSw; (try dsimp only at hSw); go_simp; all_goals (with_reducible rfl))); simp only [Act.put, List.setIfInBounds_toArray, List.set_cons_zero, List.set_cons_succ]
          refine wpAnyH_take (i := 5) (v := ?vva5) rfl (by kernel_rfl) (by kernel_rfl) (by kernel_rfl) (fun _ _ _ h => h) (Or.inl ⟨by rfl, ?hya5⟩) hHeld ?resta5; (case hya5 => (intro w hSw; (try dsimp only at hSw); go_simp; all_goals (with_reducible rfl))); simp only [Act.put, List.setIfInBounds_toArray, List.set_cons_zero, List.set_cons_succ]
          refine wpAnyH_take (i := 6) (v := ?vva6) rfl (by kernel_rfl) (by kernel_rfl) (by kernel_rfl) (fun _ _ _ h => h) (Or.inl ⟨by rfl, ?hya6⟩) hHeld ?resta6; (case hya6 => (intro w hSw; (try dsimp only at hSw); go_simp; all_goals (with_reducible rfl))); simp only [Act.put, List.setIfInBounds_toArray, List.set_cons_zero, List.set_cons_succ]
          refine wpAnyH_take (i := 7) (v := ?vva7) rfl (by kernel_rfl) (by kernel_rfl) (by kernel_rfl) (fun _ _ _ h => h) (Or.inl ⟨by rfl, ?hya7⟩) hHeld ?resta7; (case hya7 => (intro w hSw; (try dsimp only at hSw); go_simp; all_goals (with_reducible rfl))); simp only [Act.put, List.setIfInBounds_toArray, List.set_cons_zero, List.set_cons_succ]
          refine wpAnyH_take (i := 8) (v := ?vva8) rfl (by kernel_rfl) (by kernel_rfl) (by kernel_rfl) (fun _ _ _ h => h) (Or.inl ⟨by rfl, ?hya8⟩) hHeld ?resta8; (case hya8 => (intro w hSw; (try dsimp only at hSw); go_simp; all_goals (with_reducible rfl))); simp only [Act.put, List.setIfInBounds_toArray, List.set_cons_zero, List.set_cons_succ]
          refine wpAnyH_take (i := 9) (v := ?vva9) rfl (by kernel_rfl) (by kernel_rfl) (by kernel_rfl) (fun _ _ _ h => h) (Or.inl ⟨by rfl, ?hya9⟩) hHeld ?resta9; (case hya9 => (intro w hSw; (try dsimp only at hSw); go_simp; all_goals (with_reducible rfl))); simp only [Act.put, List.setIfInBounds_toArray, List.set_cons_zero, List.set_cons_succ]
          refine wpAnyH_take (i := 10) (v := ?vva10) rfl (by kernel_rfl) (by kernel_rfl) (by kernel_rfl) (fun _ _ _ h => h) (Or.inl ⟨by rfl, ?hya10⟩) hHeld ?resta10; (case hya10 => (intro w hSw; (try dsimp only at hSw); go_simp; all_goals (with_reducible rfl))); simp only [Act.put, List.setIfInBounds_toArray, List.set_cons_zero, List.set_cons_succ]
          refine wpAnyH_ready (rs := [11]) (by kernel_rfl) (by simp) ?_; refine AllReadyH.cons rfl (fun K hK => ?_) AllReadyH.nil
          go_simp
          go_at_call 57
          refine (row_any a0 lr.length c9 lr y _ (Hslr.out.drewN 1) (by omega) Hpt.out).mono ?_
          rintro e w5 ⟨v5, rfl, hown5, hb5⟩
          rw [← Hrt.out] at hown5
          obtain ⟨R5, r5, rfl, _, _, _⟩ := own_slice hown5
          have Hown5 : Hid (w5.ownsRow wr.heap.size 109 2 (.slice R5 rows[t].length r5) rows[t].length (sCells rows[t])) := Lib.hid hown5
          have Hb5 : Hid (Below wr.heap.size wr w5) := Lib.hid ((below_drewN (Below.refl wr.heap.size wr) 1).trans hb5)
          have c5 : w5.cell? ⟨wA.heap.size, t, none⟩ = some vs[t] := (Hb5.out.cell (p := ⟨wA.heap.size, t, none⟩) hgRl).trans cR.out
          have f5 : w5.frozen? ⟨wA.heap.size, t, none⟩ = false := (Hb5.out.frozen (p := ⟨wA.heap.size, t, none⟩) hgRl).trans fR.out
          clear hown5 hb5
          refine hK.out _ _ ⟨(Hb5.out.cell (p := ⟨bL, 0, none⟩) hltr.2.2).trans b1, (Hb5.out.cell (p := ⟨gL, t, none⟩) hgL).trans cL, (Hb5.out.cell (p := ⟨bc, 0, none⟩) hltr.1).trans b2, (Hb5.out.cell (p := ⟨gC, k, none⟩) hgC).trans cC⟩ (fun hHeld => ?_)
          clear hK K
          (try simp only [Act.put, List.setIfInBounds_toArray, List.set_cons_zero, List.set_cons_succ])
          refine wpAnyH_done (by kernel_rfl) ?_ _
          clear hHeld
          show wpList _ _ _ _ _ _
          simp only [List.drop_succ_cons, List.drop_zero]
          go_wp2
          gi_wp2
          go_roundw
          case rel =>
            have hsz5 := Hb5.out.size
            refine ⟨t + 1, vs.set t (.slice R5 rows[t].length r5), by omega, by go_num, by rw [List.length_set]; exact Hvl.out, own_setN (ownsRow_below Hro.out Hb5.out) t _, ?_, ?_⟩
            · intro q hq hq' hqt
              rw [List.length_set] at hq'
              by_cases hqe : q = t
              · subst hqe
                rw [List.getElem_set_self]
                exact own_setNe (own_rebase Hown5.out (by omega)) (fun g hg => by have := own_base Hown5.out g hg; show g ≠ wA.heap.size; omega) _
              · rw [List.getElem_set_ne (fun e => hqe e.symm)]
                have h7 := Hfs.out q hq hq' (by omega)
                exact own_setNe (ownsRow_below h7 Hb5.out) (fun g hg => by have := own_base h7 g hg; show g ≠ wA.heap.size; omega) _
            · exact (Hbr.out.trans (Hb5.out.mono (by omega))).setCell (by simp) _
          case measure => simp [intOf]; omega
        · have htm' : ¬ (t : Int) < (m : Int) := by omega
          obtain ⟨wF, rfl⟩ : ∃ wF : World, wF = wr := ⟨_, rfl⟩
          obtain rfl : t = m := by omega
          have hrl : rows.length = t := by rw [Hrows.out, List.length_map, rgs_len]; exact HPr.out.len
          have HRA : Hid (RowsAt wF wA.heap.size wA.heap.size t rows vs) := Lib.hid ⟨hrl, Hvl.out, Hro.out, fun q h1 h2 => own_rebase (Hfs.out q h1 h2 (by omega)) (by omega)⟩
          have Hjr : Hid (J pre wF) := Lib.hid (HJ.out pre wA wF none Hj.out (Go.Proofs.YtabcadpfhachoaaGreat.Below.grown_none Hbr.out) (fun r e => by cases e))
          have Hkr : Hid (Keeps n₀ 42 W wF) := Lib.hid (Hkp.out.t ⟨Hbr.out.mono (by have := Hkp.out.low.size; have := Hlow.out.size; have := Hw0.out; omega), CellsBut.below Hbr.out⟩)
          have hfl : rows.flatten.length ≤ 100000 := by
            have h1 := flatten_le 120 rows (fun r hr => by
              rw [Hrows.out] at hr
              obtain ⟨a, ha, rfl⟩ := List.mem_map.1 hr
              exact Nat.le_trans (rowP_len a y) (Hlen.out a ha))
            rw [hrl] at h1
            omega
          clear Hro Hfs Hvl Hj hrl
          gi_wp2_with (first
            | (gi_at_call 58
               refine (callsIn_wide.2 (ends_any _ t t rows wF HRA.out.slss (by omega) hfl)).mono ?_
               rintro e w6 ⟨v6, rfl, hown6, hb6⟩
               obtain ⟨E6, e6, rfl, _, _, _⟩ := own_slice hown6
               have Hown6 := Lib.hid hown6
               have Hb6 := Lib.hid hb6
               clear hown6 hb6)
            | fail)
          have hs6 := Hb6.out.size
          have HR6 := Lib.hid (HRA.out.but (CellsBut.below Hb6.out))
          have HP6 := Lib.hid (HPr.out.but (CellsBut.below Hb6.out))
          have Hj6 : Hid (J pre w6) := Lib.hid (HJ.out pre wF w6 none Hjr.out (Go.Proofs.YtabcadpfhachoaaGreat.Below.grown_none Hb6.out) (fun r e => by cases e))
          have Hk6 : Hid (Keeps n₀ 42 W w6) := Lib.hid (Hkr.out.t ⟨Hb6.out.mono (by have := Hkr.out.low.size; have := Hlow.out.size; have := Hw0.out; omega), CellsBut.below Hb6.out⟩)
          obtain ⟨nE, hnE⟩ : ∃ nE, (endsP rows).length = nE := ⟨_, rfl⟩
          have HnE := Lib.hid hnE
          obtain ⟨z, hz⟩ : ∃ z, z = C.getD (k + 1) 0 := ⟨_, rfl⟩
          have Hz := Lib.hid hz
          have HE6 : Hid (w6.ownsRow wF.heap.size 3 1 (.slice E6 nE e6) nE ((endsP rows).map (.int .i64))) := Lib.hid (by rw [← hnE]; exact Hown6.out)
          clear Hown6 hz
          rw [hnE]
          clear hnE HRA HPr Hjr Hkr
          gi_loopw [9, 10] (fun i _ wx => ∃ (s : Nat) (pre' : List Pc), i = .int .i64 ((s : Int) + 1) ∧ s ≤ nE - 1 ∧ pre'.map (·.1) = pre.map (·.1) ++ (List.range s).flatMap (onePc rows y z (endsP rows)) ∧ J pre' wx ∧ Keeps n₀ 42 w6 wx) (fun i _ _ => nE - (intOf i).toNat)
          case atStart => exact ⟨0, pre, rfl, by omega, by simp, Hj6.out, ⟨Below.refl _ _, CellsBut.refl _ _⟩⟩
          case round =>
            obtain ⟨wx, rfl⟩ : ∃ wx : World, wx = wr := ⟨_, rfl⟩
            obtain ⟨s, pre', rfl, hs1, hpre', hjx, hkx⟩ := hrel
            have Hpre' := Lib.hid hpre'
            have Hjx := Lib.hid hjx
            have Hkx := Lib.hid hkx
            clear hpre' hjx hkx
            by_cases hsn : s + 1 < nE
            · have hsn' : (s : Int) + 1 < (nE : Int) := by omega
              have hsE : s + 1 < (endsP rows).length := by have := HnE.out; omega
              have hsb : (s : Int) + 2 ≤ 9223372036854775807 := by have hml : maxLen = 2 ^ 63 - 1 := rfl; have := HnE.out; omega
              have HEx := Lib.hid (ownsRow_but HE6.out Hkx.out.but (by decide))
              obtain ⟨gE, cE, hgE, _, hgEl, _, _, hEc, _⟩ := own_at HEx.out (by omega)
              obtain ⟨rfl, rfl⟩ : E6 = some ⟨gE, 0, none⟩ ∧ e6 = cE := by injection hgE with h1 _ h3; exact ⟨h1, h3⟩
              obtain ⟨x, hx⟩ : ∃ x, x = (endsP rows).getD s 0 := ⟨_, rfl⟩
              obtain ⟨x', hx'⟩ : ∃ x', x' = (endsP rows).getD (s + 1) 0 := ⟨_, rfl⟩
              have cx : wx.cell? ⟨gE, s, none⟩ = some (.int .i64 x) := hEc s _ (by rw [List.getElem?_map, List.getElem?_eq_getElem (show s < (endsP rows).length by omega), hx]; simp [List.getD, List.getElem?_eq_getElem (show s < (endsP rows).length by omega)])
              have cx' : wx.cell? ⟨gE, s + 1, none⟩ = some (.int .i64 x') := hEc (s + 1) _ (by rw [List.getElem?_map, List.getElem?_eq_getElem hsE, hx']; simp [List.getD, List.getElem?_eq_getElem hsE])
              have Hx := Lib.hid hx
              have Hx' := Lib.hid hx'
              have HRx := Lib.hid (HR6.out.but Hkx.out.but)
              have HPx := Lib.hid (HP6.out.but Hkx.out.but)
              have hltx := HPx.out.lt
              obtain ⟨uv, hCb, hCo⟩ := HPx.out.cuts
              rw [← HC.out, HnC.out] at hCo
              obtain ⟨gC, cC, rfl, _, hgCl, _, _, hCc', _⟩ := own_at hCo (by omega)
              have hCk : k < C.length := by have := HnC.out; omega
              have hCk1 : k + 1 < C.length := by have := HnC.out; omega
              have cy : wx.cell? ⟨gC, k, none⟩ = some (.int .i64 y) := hCc' k _ (by rw [List.getElem?_map, List.getElem?_eq_getElem hCk, Hy.out]; simp [List.getD, List.getElem?_eq_getElem hCk])
              have cz : wx.cell? ⟨gC, k + 1, none⟩ = some (.int .i64 z) := hCc' (k + 1) _ (by rw [List.getElem?_map, List.getElem?_eq_getElem hCk1, Hz.out]; simp [List.getD, List.getElem?_eq_getElem hCk1])
              have cb := cell_of_row _ _ 0 _ _ _ hCb
              have e1 : IntKind.i64.wrap (s : Int) = (s : Int) := IntWalk.i64_in _ (by have hml : maxLen = 2 ^ 63 - 1 := rfl; have := HnE.out; omega)
              have e2 : IntKind.i64.wrap (k : Int) = (k : Int) := IntWalk.i64_in _ (by omega)
              have hsn0 : s < nE := by omega
              have hs01 : 0 ≤ (s : Int) + 1 := by omega
              have hk01 : 0 ≤ (k : Int) + 1 := by omega
              have hkn0 : k < nC := by omega
              clear hgE hEc hx hx' hCb hCo hCc'
              gi_upto_region 14 with (first
                | (gi_at_call 59
                   refine (callsIn_wide.2 (within_any' _ t t rows x wx HRx.out.slss (by omega))).mono ?_
                   rintro e w7 ⟨rfl, hb7⟩
                   have Hb7 := Lib.hid hb7
                   have d1 : w7.cell? ⟨gE, s, none⟩ = some (.int .i64 x) := (hb7.cell (p := ⟨gE, s, none⟩) hgEl).trans cx
                   have d2 : w7.cell? ⟨gE, s + 1, none⟩ = some (.int .i64 x') := (hb7.cell (p := ⟨gE, s + 1, none⟩) hgEl).trans cx'
                   have d3 : w7.cell? ⟨bc, 0, none⟩ = some (.slice (some ⟨gC, 0, none⟩) nC cC) := (hb7.cell (p := ⟨bc, 0, none⟩) hltx.1).trans cb
                   have d4 : w7.cell? ⟨gC, k, none⟩ = some (.int .i64 y) := (hb7.cell (p := ⟨gC, k, none⟩) hgCl).trans cy
                   have d5 : w7.cell? ⟨gC, k + 1, none⟩ = some (.int .i64 z) := (hb7.cell (p := ⟨gC, k + 1, none⟩) hgCl).trans cz
                   clear hb7)
                | fail)
              have Hj7 : Hid (J pre' w7) := Lib.hid (HJ.out pre' wx w7 none Hjx.out (Go.Proofs.YtabcadpfhachoaaGreat.Below.grown_none Hb7.out) (fun r e => by cases e))
              have Hk7 : Hid (Keeps n₀ 42 w6 w7) := Lib.hid (Hkx.out.t ⟨Hb7.out.mono (by have := Hkx.out.low.size; have := Hk6.out.low.size; have := Hlow.out.size; have := Hw0.out; omega), CellsBut.below Hb7.out⟩)
              obtain ⟨st, hst⟩ : ∃ st, st = withinSP rows x := ⟨_, rfl⟩
              rw [← hst]
              have Hst := Lib.hid hst
              clear hst cx cx' cy cz cb
              have hst12 : st < 4096 := by rw [Hst.out]; exact withinSP_lt rows x (by rw [HRx.out.len]; omega)
              by_cases hs0 : st = 0
              · subst hs0
                refine wpIn_wide.2 ?_
                go_quiet (fail)
                gi_wp2
                go_roundw
                case rel =>
                  refine ⟨s + 1, pre', by go_num, by omega, ?_, HJ.out pre' w7 _ none Hj7.out (only_drewN (World.grownBy.refl _ _) _) (fun r e => by cases e), Hk7.out.t ⟨below_drewN (Below.refl _ _) _, ⟨Nat.le_refl _, fun _ _ _ _ _ h => h⟩⟩⟩
                  rw [Hpre'.out, List.range_succ, List.flatMap_append, List.flatMap_singleton]
                  unfold onePc
                  rw [← Hx.out, ← Hst.out, if_pos rfl, List.append_nil]
                case measure => simp [intOf]; omega
              · have hp1 : onePc rows y z (endsP rows) s = [(st, ⟨x, y, x', z⟩)] := by
                  unfold onePc
                  rw [← Hx.out, ← Hst.out, if_neg hs0, ← Hx'.out]
                obtain ⟨p, hp⟩ : ∃ p : Pc, p = ⟨(st, ⟨x, y, x', z⟩), hst12⟩ := ⟨_, rfl⟩
                have hmp : (pre' ++ [p]).map (·.1) = pre.map (·.1) ++ (List.range s).flatMap (onePc rows y z (endsP rows)) ++ onePc rows y z (endsP rows) s := by
                  rw [List.map_append, Hpre'.out, hp1, hp]
                  rfl
                have hpf : (pre' ++ [p]).map (·.1) <+: piecesP (rgs L) := by
                  rw [hmp, Hpre.out]
                  have := piece_prefix (rgs L) k s (by rw [← HC.out, HnC.out]; omega) rows (by rw [Hrows.out, Hy.out, HC.out]) hsE
                  rw [← HC.out, ← Hy.out, ← Hz.out] at this
                  rw [← HC.out]
                  exact this
                have hlN : pre'.length < N := by
                  have h1 := hpf.length_le
                  have h2 := HN.out
                  simp at h1
                  omega
                have Hmp := Lib.hid hmp
                have Hpf := Lib.hid hpf
                have Hj8 : Hid (J pre' w7.drew) := Lib.hid (HJ.out pre' w7 _ none Hj7.out (only_drew (World.grownBy.refl _ _)) (fun r e => by cases e))
                obtain ⟨fn, tmps, assign, body, hy, hR⟩ := HY.out pre' p w7.drew Hj8.out hlN
                have hs0' : ((st : Int) == 0) = false := by simp; omega
                have hs0'' : ((st : Int) != 0) = true := by simp; omega
                rw [hp] at hy
                dsimp only [pcV] at hy
                have HR := Lib.hid hR
                have Hy8 := Lib.hid hy
                clear hy
                clear hmp hpf hR hp1
                refine wpIn_region_head wideF (S := fun w' => w'.cell? ⟨gE, s, none⟩ = some (.int .i64 x) ∧ w'.cell? ⟨gE, s + 1, none⟩ = some (.int .i64 x') ∧ w'.cell? ⟨bc, 0, none⟩ = some (.slice (some ⟨gC, 0, none⟩) nC cC) ∧ w'.cell? ⟨gC, k, none⟩ = some (.int .i64 y) ∧ w'.cell? ⟨gC, k + 1, none⟩ = some (.int .i64 z)) 24 (by kernel_rfl) (by kernel_rfl) (fun _ _ h => h) ?_
                have hHeld : (fun w' : World => w'.cell? ⟨gE, s, none⟩ = some (.int .i64 x) ∧ w'.cell? ⟨gE, s + 1, none⟩ = some (.int .i64 x') ∧ w'.cell? ⟨bc, 0, none⟩ = some (.slice (some ⟨gC, 0, none⟩) nC cC) ∧ w'.cell? ⟨gC, k, none⟩ = some (.int .i64 y) ∧ w'.cell? ⟨gC, k + 1, none⟩ = some (.int .i64 z)) w7.drew := ⟨d1, d2, d3, d4, d5⟩
                simp only [List.take_succ_cons, List.take_zero, List.replicate]
                refine wpAnyH_take (i := 0) (v := ?vvb0) rfl (by kernel_rfl) (by kernel_rfl) (by kernel_rfl) (fun _ _ _ h => h) (Or.inl ⟨by rfl, ?hyb0⟩) hHeld ?restb0; (case hyb0 => (intro w hSw; (try dsimp only at hSw); go_simp; all_goals (with_reducible rfl))); simp only [Act.put, List.getElem_toArray, List.getElem_cons_zero, List.getElem_cons_succ, List.setIfInBounds_toArray, List.set_cons_zero, List.set_cons_succ]
                refine wpAnyH_take (i := 1) (v := ?vvb1) rfl (by kernel_rfl) (by kernel_rfl) (by kernel_rfl) (fun _ _ _ h => h) (Or.inl ⟨by rfl, ?hyb1⟩) hHeld ?restb1; (case hyb1 => (intro w hSw; (try dsimp only at hSw); go_simp; all_goals (with_reducible rfl))); simp only [Act.put, List.getElem_toArray, List.getElem_cons_zero, List.getElem_cons_succ, List.setIfInBounds_toArray, List.set_cons_zero, List.set_cons_succ]
                refine wpAnyH_take (i := 2) (v := ?vvb2) rfl (by kernel_rfl) (by kernel_rfl) (by kernel_rfl) (fun _ _ _ h => h) (Or.inl ⟨by rfl, ?hyb2⟩) hHeld ?restb2; (case hyb2 => (intro w hSw; (try dsimp only at hSw); go_simp; all_goals (with_reducible rfl))); simp only [Act.put, List.getElem_toArray, List.getElem_cons_zero, List.getElem_cons_succ, List.setIfInBounds_toArray, List.set_cons_zero, List.set_cons_succ]
                refine wpAnyH_take (i := 3) (v := ?vvb3) rfl (by kernel_rfl) (by kernel_rfl) (by kernel_rfl) (fun _ _ _ h => h) (Or.inl ⟨by rfl, ?hyb3⟩) hHeld ?restb3; (case hyb3 => (intro w hSw; (try dsimp only at hSw); go_simp; all_goals (with_reducible rfl))); simp only [Act.put, List.getElem_toArray, List.getElem_cons_zero, List.getElem_cons_succ, List.setIfInBounds_toArray, List.set_cons_zero, List.set_cons_succ]
                refine wpAnyH_take (i := 4) (v := ?vvb4) rfl (by kernel_rfl) (by kernel_rfl) (by kernel_rfl) (fun _ _ _ h => h) (Or.inl ⟨by rfl, ?hyb4⟩) hHeld ?restb4; (case hyb4 => (intro w hSw; (try dsimp only at hSw); go_simp; all_goals (with_reducible rfl))); simp only [Act.put, List.getElem_toArray, List.getElem_cons_zero, List.getElem_cons_succ, List.setIfInBounds_toArray, List.set_cons_zero, List.set_cons_succ]
                refine wpAnyH_take (i := 5) (v := ?vvb5) rfl (by kernel_rfl) (by kernel_rfl) (by kernel_rfl) (fun _ _ _ h => h) (Or.inl ⟨by rfl, ?hyb5⟩) hHeld ?restb5; (case hyb5 => (intro w hSw; (try dsimp only at hSw); go_simp; all_goals (with_reducible rfl))); simp only [Act.put, List.getElem_toArray, List.getElem_cons_zero, List.getElem_cons_succ, List.setIfInBounds_toArray, List.set_cons_zero, List.set_cons_succ]
                refine wpAnyH_take (i := 6) (v := ?vvb6) rfl (by kernel_rfl) (by kernel_rfl) (by kernel_rfl) (fun _ _ _ h => h) (Or.inl ⟨by rfl, ?hyb6⟩) hHeld ?restb6; (case hyb6 => (intro w hSw; (try dsimp only at hSw); go_simp; all_goals (with_reducible rfl))); simp only [Act.put, List.getElem_toArray, List.getElem_cons_zero, List.getElem_cons_succ, List.setIfInBounds_toArray, List.set_cons_zero, List.set_cons_succ]
                refine wpAnyH_take (i := 7) (v := ?vvb7) rfl (by kernel_rfl) (by kernel_rfl) (by kernel_rfl) (fun _ _ _ h => h) (Or.inl ⟨by rfl, ?hyb7⟩) hHeld ?restb7; (case hyb7 => (intro w hSw; (try dsimp only at hSw); go_simp; all_goals (with_reducible rfl))); simp only [Act.put, List.getElem_toArray, List.getElem_cons_zero, List.getElem_cons_succ, List.setIfInBounds_toArray, List.set_cons_zero, List.set_cons_succ]
                refine wpAnyH_take (i := 8) (v := ?vvb8) rfl (by kernel_rfl) (by kernel_rfl) (by kernel_rfl) (fun _ _ _ h => h) (Or.inl ⟨by rfl, ?hyb8⟩) hHeld ?restb8; (case hyb8 => (intro w hSw; (try dsimp only at hSw); go_simp; all_goals (with_reducible rfl))); simp only [Act.put, List.getElem_toArray, List.getElem_cons_zero, List.getElem_cons_succ, List.setIfInBounds_toArray, List.set_cons_zero, List.set_cons_succ]
                refine wpAnyH_take (i := 9) (v := ?vvb9) rfl (by kernel_rfl) (by kernel_rfl) (by kernel_rfl) (fun _ _ _ h => h) (Or.inl ⟨by rfl, ?hyb9⟩) hHeld ?restb9; (case hyb9 => (intro w hSw; (try dsimp only at hSw); go_simp; all_goals (with_reducible rfl))); simp only [Act.put, List.getElem_toArray, List.getElem_cons_zero, List.getElem_cons_succ, List.setIfInBounds_toArray, List.set_cons_zero, List.set_cons_succ]
                refine wpAnyH_take (i := 10) (v := ?vvb10) rfl (by kernel_rfl) (by kernel_rfl) (by kernel_rfl) (fun _ _ _ h => h) (Or.inl ⟨by rfl, ?hyb10⟩) hHeld ?restb10; (case hyb10 => (intro w hSw; (try dsimp only at hSw); go_simp; all_goals (with_reducible rfl))); simp only [Act.put, List.getElem_toArray, List.getElem_cons_zero, List.getElem_cons_succ, List.setIfInBounds_toArray, List.set_cons_zero, List.set_cons_succ]
                refine wpAnyH_take (i := 11) (v := ?vvb11) rfl (by kernel_rfl) (by kernel_rfl) (by kernel_rfl) (fun _ _ _ h => h) (Or.inl ⟨by rfl, ?hyb11⟩) hHeld ?restb11; (case hyb11 => (intro w hSw; (try dsimp only at hSw); go_simp; all_goals (with_reducible rfl))); simp only [Act.put, List.getElem_toArray, List.getElem_cons_zero, List.getElem_cons_succ, List.setIfInBounds_toArray, List.set_cons_zero, List.set_cons_succ]
                refine wpAnyH_take (i := 12) (v := ?vvb12) rfl (by kernel_rfl) (by kernel_rfl) (by kernel_rfl) (fun _ _ _ h => h) (Or.inl ⟨by rfl, ?hyb12⟩) hHeld ?restb12; (case hyb12 => (intro w hSw; (try dsimp only at hSw); go_simp; all_goals (with_reducible rfl))); simp only [Act.put, List.getElem_toArray, List.getElem_cons_zero, List.getElem_cons_succ, List.setIfInBounds_toArray, List.set_cons_zero, List.set_cons_succ]
                refine wpAnyH_take (i := 13) (v := ?vvb13) rfl (by kernel_rfl) (by kernel_rfl) (by kernel_rfl) (fun _ _ _ h => h) (Or.inl ⟨by rfl, ?hyb13⟩) hHeld ?restb13; (case hyb13 => (intro w hSw; (try dsimp only at hSw); go_simp; all_goals (with_reducible rfl))); simp only [Act.put, List.getElem_toArray, List.getElem_cons_zero, List.getElem_cons_succ, List.setIfInBounds_toArray, List.set_cons_zero, List.set_cons_succ]
                refine wpAnyH_take (i := 14) (v := ?vvb14) rfl (by kernel_rfl) (by kernel_rfl) (by kernel_rfl) (fun _ _ _ h => h) (Or.inl ⟨by rfl, ?hyb14⟩) hHeld ?restb14; (case hyb14 => (intro w hSw; (try dsimp only at hSw); go_simp; all_goals (with_reducible rfl))); simp only [Act.put, List.getElem_toArray, List.getElem_cons_zero, List.getElem_cons_succ, List.setIfInBounds_toArray, List.set_cons_zero, List.set_cons_succ]
                refine wpAnyH_take (i := 15) (v := ?vvb15) rfl (by kernel_rfl) (by kernel_rfl) (by kernel_rfl) (fun _ _ _ h => h) (Or.inl ⟨by rfl, ?hyb15⟩) hHeld ?restb15; (case hyb15 => (intro w hSw; (try dsimp only at hSw); go_simp; all_goals (with_reducible rfl))); simp only [Act.put, List.getElem_toArray, List.getElem_cons_zero, List.getElem_cons_succ, List.setIfInBounds_toArray, List.set_cons_zero, List.set_cons_succ]
                refine wpAnyH_take (i := 16) (v := ?vvb16) rfl (by kernel_rfl) (by kernel_rfl) (by kernel_rfl) (fun _ _ _ h => h) (Or.inl ⟨by rfl, ?hyb16⟩) hHeld ?restb16; (case hyb16 => (intro w hSw; (try dsimp only at hSw); go_simp; all_goals (with_reducible rfl))); simp only [Act.put, List.getElem_toArray, List.getElem_cons_zero, List.getElem_cons_succ, List.setIfInBounds_toArray, List.set_cons_zero, List.set_cons_succ]
                refine wpAnyH_take (i := 17) (v := ?vvb17) rfl (by kernel_rfl) (by kernel_rfl) (by kernel_rfl) (fun _ _ _ h => h) (Or.inl ⟨by rfl, ?hyb17⟩) hHeld ?restb17; (case hyb17 => (intro w hSw; (try dsimp only at hSw); go_simp; all_goals (with_reducible rfl))); simp only [Act.put, List.getElem_toArray, List.getElem_cons_zero, List.getElem_cons_succ, List.setIfInBounds_toArray, List.set_cons_zero, List.set_cons_succ]
                refine wpAnyH_take (i := 18) (v := ?vvb18) rfl (by kernel_rfl) (by kernel_rfl) (by kernel_rfl) (fun _ _ _ h => h) (Or.inl ⟨by rfl, ?hyb18⟩) hHeld ?restb18; (case hyb18 => (intro w hSw; (try dsimp only at hSw); go_simp; all_goals (with_reducible rfl))); simp only [Act.put, List.getElem_toArray, List.getElem_cons_zero, List.getElem_cons_succ, List.setIfInBounds_toArray, List.set_cons_zero, List.set_cons_succ]
                refine wpAnyH_take (i := 19) (v := ?vvb19) rfl (by kernel_rfl) (by kernel_rfl) (by kernel_rfl) (fun _ _ _ h => h) (Or.inl ⟨by rfl, ?hyb19⟩) hHeld ?restb19; (case hyb19 => (intro w hSw; (try dsimp only at hSw); go_simp; all_goals (with_reducible rfl))); simp only [Act.put, List.getElem_toArray, List.getElem_cons_zero, List.getElem_cons_succ, List.setIfInBounds_toArray, List.set_cons_zero, List.set_cons_succ]
                refine wpAnyH_take (i := 20) (v := ?vvb20) rfl (by kernel_rfl) (by kernel_rfl) (by kernel_rfl) (fun _ _ _ h => h) (Or.inl ⟨by rfl, ?hyb20⟩) hHeld ?restb20; (case hyb20 => (intro w hSw; (try dsimp only at hSw); go_simp; all_goals (with_reducible rfl))); simp only [Act.put, List.getElem_toArray, List.getElem_cons_zero, List.getElem_cons_succ, List.setIfInBounds_toArray, List.set_cons_zero, List.set_cons_succ]
                refine wpAnyH_take (i := 21) (v := ?vvb21) rfl (by kernel_rfl) (by kernel_rfl) (by kernel_rfl) (fun _ _ _ h => h) (Or.inl ⟨by rfl, ?hyb21⟩) hHeld ?restb21; (case hyb21 => (intro w hSw; (try dsimp only at hSw); go_simp; all_goals (with_reducible rfl))); simp only [Act.put, List.getElem_toArray, List.getElem_cons_zero, List.getElem_cons_succ, List.setIfInBounds_toArray, List.set_cons_zero, List.set_cons_succ]
                refine wpAnyH_take (i := 22) (v := ?vvb22) rfl (by kernel_rfl) (by kernel_rfl) (by kernel_rfl) (fun _ _ _ h => h) (Or.inl ⟨by rfl, ?hyb22⟩) hHeld ?restb22; (case hyb22 => (intro w hSw; (try dsimp only at hSw); go_simp; all_goals (with_reducible rfl))); simp only [Act.put, List.getElem_toArray, List.getElem_cons_zero, List.getElem_cons_succ, List.setIfInBounds_toArray, List.set_cons_zero, List.set_cons_succ]
                refine wpAnyH_take (i := 23) (v := ?vvb23) rfl (by kernel_rfl) (by kernel_rfl) (by kernel_rfl) (fun _ _ _ h => h) (Or.inl ⟨by rfl, ?hyb23⟩) hHeld ?restb23; (case hyb23 => (intro w hSw; (try dsimp only at hSw); go_simp; all_goals (with_reducible rfl))); simp only [Act.put, List.getElem_toArray, List.getElem_cons_zero, List.getElem_cons_succ, List.setIfInBounds_toArray, List.set_cons_zero, List.set_cons_succ]
                refine wpAnyH_done (by kernel_rfl) ?_ _
                clear hHeld
                show wpAnyIn _ _ _ _ _ _ _ _ _ _
                have hy := Hy8.out
                refine wpAnyIn_ready (rs := [24]) (by kernel_rfl) (by simp) ?_
                refine AllReadyIn.cons rfl (fun K hK => ?_) AllReadyIn.nil
                go_simp
                clear hy
                refine HR.out.mono ?_
                rintro e W3 (⟨rfl, hJ3, hk3⟩ | ⟨rfl, hJx3⟩)
                · have HJ3 := Lib.hid hJ3
                  have Hk3 := Lib.hid hk3
                  clear hJ3 hk3
                  refine hK _ _ ?_
                  clear hK K
                  (try simp only [Act.put, List.getElem_toArray, List.getElem_cons_zero, List.getElem_cons_succ, List.setIfInBounds_toArray, List.set_cons_zero, List.set_cons_succ])
                  refine wpAnyIn_ready (rs := [25]) (by kernel_rfl) (by simp) ?_
                  refine AllReadyIn.cons rfl (fun K hK => ?_) AllReadyIn.nil
                  go_simp
                  refine hK _ _ ?_
                  clear hK K
                  (try simp only [Act.put, List.getElem_toArray, List.getElem_cons_zero, List.getElem_cons_succ, List.setIfInBounds_toArray, List.set_cons_zero, List.set_cons_succ])
                  refine wpAnyIn_ready (rs := [26]) (by kernel_rfl) (by simp) ?_
                  refine AllReadyIn.cons rfl (fun K hK => ?_) AllReadyIn.nil
                  go_simp
                  refine hK _ _ ?_
                  clear hK K
                  (try simp only [Act.put, List.getElem_toArray, List.getElem_cons_zero, List.getElem_cons_succ, List.setIfInBounds_toArray, List.set_cons_zero, List.set_cons_succ])
                  refine wpAnyIn_done (by kernel_rfl) ?_ _
                  gi_wp2
                  go_roundw
                  case rel =>
                    refine ⟨s + 1, pre' ++ [p], by go_num, by omega, ?_, HJ3.out, Hk7.out.t (Keeps.t ⟨Below.drew (Below.refl _ _), ⟨Nat.le_refl _, fun _ _ _ _ _ h => h⟩⟩ Hk3.out)⟩
                    rw [Hmp.out, List.range_succ, List.flatMap_append, List.flatMap_singleton, List.append_assoc]
                  case measure => simp [intOf]; omega
                · have HJx3 := Lib.hid hJx3
                  clear hJx3
                  refine hK _ _ ?_
                  clear hK K
                  (try simp only [Act.put, List.getElem_toArray, List.getElem_cons_zero, List.getElem_cons_succ, List.setIfInBounds_toArray, List.set_cons_zero, List.set_cons_succ])
                  refine wpAnyIn_ready (rs := [25]) (by kernel_rfl) (by simp) ?_
                  refine AllReadyIn.cons rfl (fun K hK => ?_) AllReadyIn.nil
                  go_simp
                  refine hK _ _ ?_
                  clear hK K
                  (try simp only [Act.put, List.getElem_toArray, List.getElem_cons_zero, List.getElem_cons_succ, List.setIfInBounds_toArray, List.set_cons_zero, List.set_cons_succ])
                  refine wpAnyIn_ready (rs := [26]) (by kernel_rfl) (by simp) ?_
                  refine AllReadyIn.cons rfl (fun K hK => ?_) AllReadyIn.nil
                  go_simp
                  refine hK _ _ ?_
                  clear hK K
                  (try simp only [Act.put, List.getElem_toArray, List.getElem_cons_zero, List.getElem_cons_succ, List.setIfInBounds_toArray, List.set_cons_zero, List.set_cons_succ])
                  refine wpAnyIn_done (by kernel_rfl) ?_ _
                  gi_wp2
                  refine bodyPost_ret (results_none rfl _ _ _) rfl ?_
                  exact ⟨⟨_, rfl⟩, .inr ⟨pre' ++ [p], Hpf.out, HJx3.out⟩⟩
            · have hsn' : ¬ (s : Int) + 1 < (nE : Int) := by omega
              gi_wp2
              go_roundw
              case rel =>
                refine ⟨k + 1, pre', by go_num, by rw [← HC.out, HnC.out]; omega, ?_, Hjx.out, Hk6.out.t Hkx.out⟩
                have hss : s = (endsP rows).length - 1 := by have := HnE.out; omega
                rw [Hpre'.out, Hpre.out, List.range_succ, List.flatMap_append, hss, List.flatMap_singleton]
                unfold bandPcs rowPcs
                rw [← HC.out, ← Hy.out, ← Hz.out, ← Hrows.out]
              case measure => rw [← HC.out, HnC.out]; simp [intOf]; omega
    · have hkn' : ¬ (k : Int) + 1 < (nC : Int) := by omega
      gi_wp2
      go_end0
      refine ⟨⟨_, rfl⟩, .inl ⟨pre, ?_, Hj.out⟩⟩
      have hkk : k = nC - 1 := by omega
      rw [Hpre.out, hkk, ← HnC.out, HC.out]
      rfl

/-- The iterator of pieces, as a loop's law wants it. -/
theorem pieces_stops (n₀ bc bl bL : Nat) (A : Option Addr) (m c n : Nat) (L : RL) (w0 w : World) (hP : PcAt w n₀ bc bl bL A m c L) (hw0 : w0.heap.size = n₀) (hlow : Below n₀ w0 w) (hA : SlG w0 A m c L) (hm : m ≤ 12) (hpos : ∀ a ∈ rgs L, ∀ q ∈ a, q.l < q.r) (hlen : ∀ a ∈ rgs L, a.length ≤ 120) (hn : 3 ≤ n) :
    SeqStopsK Fence.wide n Tryz.prog 56 #[.pointer (some ⟨bc, 0, none⟩), .pointer (some ⟨bl, 0, none⟩), .pointer (some ⟨bL, 0, none⟩)] pcV (Keeps n₀ 42) (fun ys => ys.map (·.1) = piecesP (rgs L)) (fun pre => pre.map (·.1) <+: piecesP (rgs L)) (piecesP (rgs L)).length w :=
  fun l J Jx W hW hJ _ hY h0 => pieces1_in l n₀ bc bl bL A m c n _ L J Jx w0 W hY hJ (hP.but (CellsBut.below hW)) hw0 (hlow.trans (hW.mono (by have := hlow.size; omega))) hA hm hpos hlen (Nat.le_refl _) hn h0
end Go.Proofs.YtabcadpfhachoaaGreat
