/- RegionForm: the walk. -/
import Derived.Test.YtmkopmcjilaedaaR9
namespace Go.Proofs.Ytmkopmcjilaedaa
open Go.RowKit
set_option linter.unusedVariables false
set_option linter.unusedSimpArgs false

theorem halve_two {c : Int} {q : R4} {m : Int} (hm : q.l + c.tmod (q.r - q.l) = m) (h : q.l < m) : halve c q = [⟨q.l, q.b, m, q.t⟩, ⟨m, q.b, q.r, q.t⟩] := by
  subst hm; unfold halve; rw [if_pos h]
theorem halve_one {c : Int} {q : R4} {m : Int} (hm : q.l + c.tmod (q.r - q.l) = m) (h : ¬ q.l < m) : halve c q = [⟨m, q.b, q.r, q.t⟩] := by
  subst hm; unfold halve; rw [if_neg h]
theorem halves_succ (c : Int) (l : List R4) (k : Nat) (h : k < l.length) : (l.take (k + 1)).flatMap (halve c) = (l.take k).flatMap (halve c) ++ halve c l[k] := by
  rw [List.take_succ_eq_append_getElem h, List.flatMap_append]; simp
/-- Two rectangles change places. -/
def swapL (l : List R4) (i k : Nat) (hi : i < l.length) (hk : k < l.length) : List R4 := (l.set i l[k]).set k l[i]
theorem swapL_perm (l : List R4) (i k : Nat) (hi : i < l.length) (hk : k < l.length) : (swapL l i k hi hk).Perm l := List.set_set_perm hi hk
theorem rCells_set4 (l : List R4) (i : Nat) (h : i < l.length) (z : R4) : rCells (l.set i z) = ((((rCells l).set (i * 4) (.int .i64 z.l)).set (i * 4 + 1) (.int .i64 z.b)).set (i * 4 + 2) (.int .i64 z.r)).set (i * 4 + 3) (.int .i64 z.t) := by
  obtain ⟨p, q, e1, e2, e3⟩ := rCells_split l i h
  rw [e3, e1, ← e2]
  simp [List.set_append]
/-- A row of rectangles of one's own, of which one is another. -/
theorem own_rect {w : World} {base g n c : Nat} {l : List R4} (h : w.ownsRow base 30 4 (.slice (some ⟨g, 0, none⟩) n c) n (rCells l)) (i : Nat) (hi : i < l.length) (z : R4) :
    ((((w.setCell ⟨g, i * 4, none⟩ (.int .i64 z.l)).setCell ⟨g, i * 4 + 1, none⟩ (.int .i64 z.b)).setCell ⟨g, i * 4 + 2, none⟩ (.int .i64 z.r)).setCell ⟨g, i * 4 + 3, none⟩ (.int .i64 z.t)).ownsRow base 30 4 (.slice (some ⟨g, 0, none⟩) n c) n (rCells (l.set i z)) := by
  rw [rCells_set4 l i hi z]
  exact own_setN (own_setN (own_setN (own_setN h _ _) _ _) _ _) _ _
theorem set4_below {w0 w : World} {B g i : Nat} {a b c d : Value} (h : Below B w0 w) (hg : B ≤ g) : Below B w0 ((((w.setCell ⟨g, i * 4, none⟩ a).setCell ⟨g, i * 4 + 1, none⟩ b).setCell ⟨g, i * 4 + 2, none⟩ c).setCell ⟨g, i * 4 + 3, none⟩ d) :=
  (((h.setCell hg _).setCell hg _).setCell hg _).setCell hg _
theorem SlR.of_ownN {w : World} {base n : Nat} {v : Value} {l : List R4} (h : w.ownsRow base 30 4 v n (rCells l)) (hl : l.length = n) : ∃ A c, v = .slice A n c ∧ SlR w A n c l := by
  subst hl; exact SlR.of_own h
/-- What the tape makes of the numbers, in the law. -/
theorem tape_reg (r : List Int) : Reg 9 28 (mkReg r 9 4).1 := mkReg_reg r 9 4 (by omega) (by omega) (by omega) (by omega)

set_option maxHeartbeats 16000000 in
set_option maxRecDepth 100000 in
theorem formLaw (A : Option Addr) (n c : Nat) (zs : List Int) (cut : Int) (w : World) (hn : zs.length = n) (hc : n ≤ c) (hm : c ≤ maxLen) (hw : ∀ z ∈ zs, (Lit.int .i64 z).wf = true) (hA : Lies w A n (zs.map (.int .i64))) (hcut : 0 ≤ cut ∧ cut ≤ 255) :
    Calls Try.prog 3 #[.slice A n c, .int .u8 cut] w fun e w' => e = .returned (.bool true) ∧ Below w.heap.size w w' := by
  obtain ⟨i0, hi, hz0, hz1, hz2⟩ := info_parts Try.infoRect
  have HN := Lib.hid (new_any A n c zs w hn hc hm hw hA)
  have hwc : IntKind.i64.wrap cut = cut := IntWalk.i64_in _ (by omega)
  clear hn hw hA
  go_enter Try.func3, Try.ntmps3
  go_wp2_with fail
  refine HN.out.mono ?_
  rintro e w0 ⟨g, rfl, hg, ht, hb0⟩
  generalize zs.take 400 = r at *
  have hlt := ht.lt
  go_wp2_with fail
  refine (region_any g r 9 4 _ ht (by omega) (by omega)).mono ?_
  rintro e w1 ⟨v1, rfl, hown1, ht1, hg1⟩
  have Hreg := Lib.hid (tape_reg r)
  generalize (mkReg r 9 4).1 = a at *
  generalize (mkReg r 9 4).2 = r1 at *
  have Hb1 : Hid (Below w.heap.size w w1) := Lib.hid (below_only hb0 hg1 hg hb0.size)
  have hs1 := Hb1.out.size
  obtain ⟨D, dc, rfl, hD⟩ := SlR.of_own hown1
  obtain ⟨m, hm'⟩ : ∃ m, a.length = m := ⟨_, rfl⟩
  have Hm := Lib.hid hm'
  have hm28 : m ≤ 28 := by have := Hreg.out.len; omega
  rw [hm'] at hD ⊢
  have HD := Lib.hid hD
  clear HN hb0 hg1 ht ht1 hown1 hD hm' hlt hg
  go_upto_region 5 with fail
  obtain ⟨w2, hw2⟩ : ∃ w2 : World, w2 = w1.alloc (.cells #[.slice D m dc] 27) := ⟨_, rfl⟩
  rw [← hw2]
  have hbx : w2.heap[w1.heap.size]? = some (.cells #[.slice D m dc] 27 (0, 0)) := by rw [hw2]; exact heap_alloc_new w1 _
  have Hbx := Lib.hid hbx
  have hs2 : w1.heap.size < w2.heap.size := by rw [hw2]; simp
  have Hb2 : Hid (Below w.heap.size w w2) := Lib.hid (by rw [hw2]; exact Hb1.out.alloc hs1 _)
  have HD2 : Hid (SlR w2 D m dc a) := Lib.hid (by rw [hw2]; exact HD.out.below (by repeat' (first | with_reducible exact Below.refl _ _ | with_reducible refine below_drewN ?_ _ | with_reducible refine Below.drew ?_ | with_reducible refine Below.alloc ?_ ?_ _ | with_reducible refine Below.setCell ?_ ?_ _ | with_reducible refine Below.trans ?_ (Below.mono (by with_reducible assumption) ?_) | (simp; done) | (simp; omega) | omega)))
  clear hw2 hbx
  go_loopw [7, 9, 10, 22] (fun pv _ _ iv wr => ∃ k : Nat, k ≤ m ∧ iv = .int .i64 (k : Int) ∧ wr.ownsRow w2.heap.size 30 4 pv ((a.take k).flatMap (halve cut)).length (rCells ((a.take k).flatMap (halve cut))) ∧ Below w2.heap.size w2 wr) (fun _ _ _ iv _ => m - (intOf iv).toNat)
  case atStart => exact ⟨0, Nat.zero_le _, rfl, World.ownsRow_nil _ _ _ _, Below.refl _ _⟩
  case round =>
    obtain ⟨k, hk, rfl, hown, hbw⟩ := hrel
    have hsw := hbw.size
    have Hown := Lib.hid hown
    have Hbw := Lib.hid hbw
    clear hown
    by_cases hkm : k < m
    · have hkl : k < a.length := by have := Hm.out; omega
      obtain ⟨b, off, rfl, hb, c0, c1, c2, c3⟩ := (HD2.out.below hbw).at k hkl
      have Hnext := Lib.hid (halves_succ cut a k hkl)
      have hq := Hreg.out.ins _ (List.getElem_mem hkl)
      have hpl : ((a.take k).flatMap (halve cut)).length ≤ 56 := by have h1 := halves_len cut (a.take k); rw [List.length_take] at h1; have := Hm.out; omega
      have hkm' : (k : Int) < (m : Int) := by omega
      generalize a[k] = q at *
      generalize (a.take k).flatMap (halve cut) = ps at *
      have hwd : IntKind.i64.wrap (q.r - q.l) = q.r - q.l := IntWalk.i64_in _ (by omega)
      have hw0 : ¬ q.r - q.l = 0 := by omega
      have t1 := Int.tmod_lt_of_pos cut (show 0 < q.r - q.l by omega)
      have t2 := Int.tmod_nonneg (q.r - q.l) hcut.1
      obtain ⟨md, hmd⟩ : ∃ md, cut.tmod (q.r - q.l) = md := ⟨_, rfl⟩
      obtain ⟨wd, hwd2⟩ : ∃ wd, q.r - q.l = wd := ⟨_, rfl⟩
      have Hmd := Lib.hid hmd
      rw [hwd2] at hw0 hmd t1 t2
      have hwd : IntKind.i64.wrap (q.r - q.l) = wd := hwd.trans hwd2
      rw [hmd] at t1 t2
      have hwm : IntKind.i64.wrap (cut.tmod wd) = md := by rw [hmd]; exact IntWalk.i64_in _ (by omega)
      obtain ⟨mm, hmm⟩ : ∃ mm, q.l + md = mm := ⟨_, rfl⟩
      have hem : cut % (q.r - q.l) = md := by rw [← hmd, ← hwd2, Int.tmod_eq_emod_of_nonneg hcut.1]
      have Hws : Hid (wrap64 (q.l + cut % (q.r - q.l)) = mm) := Lib.hid (by rw [hem, hmm]; exact IntWalk.wrap64_in _ (by omega))
      have Hmm : Hid (q.l + cut.tmod (q.r - q.l) = mm) := Lib.hid (by rw [hwd2, hmd, hmm])
      have hlm : q.l < mm ∨ ¬ q.l < mm := by omega
      have hbs : b < wr.heap.size := by omega
      clear hbw hmd hwd2 hmm hq hem
      go_upto_region 7 with fail
      obtain ⟨wb, hwb⟩ : ∃ wb : World, wb = wr.alloc (.cells #[.int .i64 q.l, .int .i64 q.b, .int .i64 q.r, .int .i64 q.t] 30) := ⟨_, rfl⟩
      rw [← hwb]
      have hqb : wb.heap[wr.heap.size]? = some (.cells #[.int .i64 q.l, .int .i64 q.b, .int .i64 q.r, .int .i64 q.t] 30 (0, 0)) := by rw [hwb]; exact heap_alloc_new wr _
      have q0 := cell_of_row wb wr.heap.size 0 _ _ _ hqb
      have q1 := cell_of_row wb wr.heap.size 1 _ _ _ hqb
      have q2 := cell_of_row wb wr.heap.size 2 _ _ _ hqb
      have q3 := cell_of_row wb wr.heap.size 3 _ _ _ hqb
      have hsb : wr.heap.size < wb.heap.size := by rw [hwb]; simp
      have Hbb : Hid (Below wr.heap.size wr wb) := Lib.hid (by rw [hwb]; exact (by repeat' (first | with_reducible exact Below.refl _ _ | with_reducible refine below_drewN ?_ _ | with_reducible refine Below.drew ?_ | with_reducible refine Below.alloc ?_ ?_ _ | with_reducible refine Below.setCell ?_ ?_ _ | with_reducible refine Below.trans ?_ (Below.mono (by with_reducible assumption) ?_) | (simp; done) | (simp; omega) | omega)))
      have Hnew := Lib.hid (own_fresh Hown.out)
      have Hlow := Lib.hid (own_base Hown.out)
      clear hwb c0 c1 c2 c3
      go_quiet (fail)
      go_upto_region 8 with fail
      rw [Hws.out]
      have Hb4 : Hid (Below wr.heap.size wr (wb.drewN nq)) := Lib.hid (below_drewN Hbb.out nq)
      have q04 : (wb.drewN nq).cell? ⟨wr.heap.size, 0, none⟩ = some (.int .i64 q.l) := q0
      have q14 : (wb.drewN nq).cell? ⟨wr.heap.size, 1, none⟩ = some (.int .i64 q.b) := q1
      have q24 : (wb.drewN nq).cell? ⟨wr.heap.size, 2, none⟩ = some (.int .i64 q.r) := q2
      have q34 : (wb.drewN nq).cell? ⟨wr.heap.size, 3, none⟩ = some (.int .i64 q.t) := q3
      have Hq4 : Hid ((wb.drewN nq).heap[wr.heap.size]? = some (.cells #[.int .i64 q.l, .int .i64 q.b, .int .i64 q.r, .int .i64 q.t] 30 (0, 0))) := Lib.hid hqb
      have hs4 : wr.heap.size < (wb.drewN nq).heap.size := hsb
      clear q0 q1 q2 q3 hqb
      generalize wb.drewN nq = w4 at *
      have Hown4 : Hid (w4.ownsRow w2.heap.size 30 4 u7 ps.length (rCells ps)) := Lib.hid (ownsRow_below Hown.out Hb4.out)
      have hsw4 : w2.heap.size ≤ w4.heap.size := by omega
      rcases hlm with hlt | hlt
      · have Hh := Lib.hid (halve_two Hmm.out hlt)
        go_wp2_with (first
          | (at_builtin
             refine wpList_append_any _ rfl (.tmp 41) (.tmp 50) _ rfl w2.heap.size 30 i0 _ 4 32 Try.underlying25 hi hz0 hz1 hz2 rfl (by omega) _ ps.length (rCells ps) rfl
               (Hown4.out.alloc _) _ _ 1 1 [.int .i64 q.l, .int .i64 q.b, .int .i64 mm, .int .i64 q.t] rfl ⟨rfl, fun _ => ⟨_, rfl, Nat.lt_succ_self _, fun j u hu => (by exact news_any _ _ _ j u hu)⟩⟩ (by simp [Value.oneCell']) (by simp only [maxLen]; omega) (by omega) (by simp; omega) ?_
             intro v5 w5 hown5 hg5 hat5
             have hq5 : w5.heap[wr.heap.size]? = some (.cells #[.int .i64 q.l, .int .i64 q.b, .int .i64 q.r, .int .i64 q.t] 30 (0, 0)) := (hg5.block wr.heap.size (by simp; omega) (fun e => Hnew.out e.symm)).trans ((Below.heap_alloc _ _ _ hs4).trans Hq4.out)
             have q05 := cell_of_row w5 wr.heap.size 0 _ _ _ hq5
             have q15 := cell_of_row w5 wr.heap.size 1 _ _ _ hq5
             have q25 := cell_of_row w5 wr.heap.size 2 _ _ _ hq5
             have q35 := cell_of_row w5 wr.heap.size 3 _ _ _ hq5
             have Hb5 : Hid (Below w2.heap.size w2 w5) := Lib.hid (Below.grown ((Hbw.out.trans (Hb4.out.mono hsw)).alloc hsw4 _) hg5 (by simp; omega) Hlow.out)
             have hs5 := Hb5.out.size
             have Hown5 := Lib.hid hown5
             clear hown5 hg5 hat5 hq5)
          | (at_builtin
             refine wpList_append_any _ rfl (.tmp 52) (.tmp 61) _ rfl w2.heap.size 30 i0 _ 4 32 Try.underlying25 hi hz0 hz1 hz2 rfl (by omega) _ (ps.length + 1) (rCells ps ++ [.int .i64 q.l, .int .i64 q.b, .int .i64 mm, .int .i64 q.t]) rfl
               (Hown5.out.alloc _) _ _ 1 1 [.int .i64 mm, .int .i64 q.b, .int .i64 q.r, .int .i64 q.t] rfl ⟨rfl, fun _ => ⟨_, rfl, Nat.lt_succ_self _, fun j u hu => (by exact news_any _ _ _ j u hu)⟩⟩ (by simp [Value.oneCell']) (by simp only [maxLen]; omega) (by omega) (by simp; omega) ?_
             intro v6 w6 hown6 hg6 hat6)
          | fail)
        go_roundw
        case rel =>
          refine ⟨k + 1, by omega, by go_num, ?_, Below.grown (Hb5.out.alloc hs5 _) hg6 (by simp; omega) (own_base Hown5.out)⟩
          rw [Hnext.out, Hh.out, List.length_append, rCells_app]
          simpa [rCells, R4.cells] using hown6
        case measure => simp [intOf]; omega
      · have Hh := Lib.hid (halve_one Hmm.out hlt)
        go_wp2_with (first
          | (at_builtin
             refine wpList_append_any _ rfl (.tmp 52) (.tmp 61) _ rfl w2.heap.size 30 i0 _ 4 32 Try.underlying25 hi hz0 hz1 hz2 rfl (by omega) _ ps.length (rCells ps) rfl
               (Hown4.out.alloc _) _ _ 1 1 [.int .i64 mm, .int .i64 q.b, .int .i64 q.r, .int .i64 q.t] rfl ⟨rfl, fun _ => ⟨_, rfl, Nat.lt_succ_self _, fun j u hu => (by exact news_any _ _ _ j u hu)⟩⟩ (by simp [Value.oneCell']) (by simp only [maxLen]; omega) (by omega) (by simp; omega) ?_
             intro v6 w6 hown6 hg6 hat6)
          | fail)
        go_roundw
        case rel =>
          refine ⟨k + 1, by omega, by go_num, ?_, Below.grown ((Hbw.out.trans (Hb4.out.mono hsw)).alloc hsw4 _) hg6 (by simp; omega) Hlow.out⟩
          rw [Hnext.out, Hh.out, List.length_append, rCells_app]
          simpa [rCells, R4.cells] using hown6
        case measure => simp [intOf]; omega
    · have e1 : a.take k = a := List.take_of_length_le (by have := Hm.out; omega)
      have hkm' : ¬ (k : Int) < (m : Int) := by omega
      rw [e1] at Hown
      obtain ⟨P, hP⟩ : ∃ P, a.flatMap (halve cut) = P := ⟨_, rfl⟩
      have hpl : P.length ≤ 56 := by have h1 := halves_len cut a; have := Hm.out; rw [hP] at h1; omega
      have HP := Lib.hid hP
      rw [hP] at Hown
      obtain ⟨E, ec, rfl, _, _, _⟩ := own_slice Hown.out
      clear e1 hbw hP
      obtain ⟨w3, rfl⟩ : ∃ w3 : World, w3 = wr := ⟨_, rfl⟩
      have hwl : IntKind.i64.wrap ((P.length : Int) - 1) = (P.length : Int) - 1 := IntWalk.i64_in _ (by omega)
      go_upto_region 13 with fail
      obtain ⟨N, hN⟩ : ∃ N, P.length = N := ⟨_, rfl⟩
      have HN := Lib.hid hN
      rw [hN] at Hown hwl hpl ⊢
      clear hN
      go_loopw [11, 12] (fun iv kv wq => ∃ (i : Nat) (k : Int) (cur : List R4), iv = .int .i64 (i : Int) ∧ kv = .int .i64 k ∧ -1 ≤ k ∧ k < (N : Int) ∧ i ≤ N ∧ Hid (cur.Perm P) ∧ wq.ownsRow w2.heap.size 30 4 (.slice E N ec) N (rCells cur) ∧ Below w2.heap.size w2 wq) (fun iv kv _ => (intOf kv - intOf iv + 1).toNat)
      case atStart => exact ⟨0, (N : Int) - 1, P, rfl, rfl, by omega, by omega, Nat.zero_le _, Lib.hid (List.Perm.refl _), Hown.out, Hbw.out⟩
      case round =>
        obtain ⟨i, k, cur, rfl, rfl, hk0, hkN, hiN, Hcp, hown5, hb5⟩ := hrel
        have hs5 := hb5.size
        have Hb5 := Lib.hid hb5
        have Hown5 := Lib.hid hown5
        have hcl : cur.length = N := by rw [Hcp.out.length_eq, HN.out]
        by_cases hik : (i : Int) < k
        · obtain ⟨kn, rfl⟩ := Int.eq_ofNat_of_zero_le (show 0 ≤ k by omega)
          have h1 : i < cur.length := by omega
          have h2 : kn < cur.length := by omega
          obtain ⟨G, gc, hGe, hGb, hGl, _, _, hcells, hfr⟩ := own_at Hown5.out (by omega)
          injection hGe with hGe _ hGc
          subst hGe hGc
          obtain ⟨i1, i2, i3, i4⟩ := rCells_at cur i h1
          obtain ⟨k1, k2, k3, k4⟩ := rCells_at cur kn h2
          have c1 := hcells _ _ i1
          have c2 := hcells _ _ i2
          have c3 := hcells _ _ i3
          have c4 := hcells _ _ i4
          have d1 := hcells _ _ k1
          have d2 := hcells _ _ k2
          have d3 := hcells _ _ k3
          have d4 := hcells _ _ k4
          have f1 := hfr (i * 4)
          have f2 := hfr (i * 4 + 1)
          have f3 := hfr (i * 4 + 2)
          have f4 := hfr (i * 4 + 3)
          have e1 := hfr (kn * 4)
          have e2 := hfr (kn * 4 + 1)
          have e3 := hfr (kn * 4 + 2)
          have e4 := hfr (kn * 4 + 3)
          have Hsw := Lib.hid (swapL_perm cur i kn h1 h2)
          have Hsd : Hid (swapL cur i kn h1 h2 = (cur.set i cur[kn]).set kn cur[i]) := Lib.hid rfl
          have hki : kn < N := by omega
          have hii : i < N := by omega
          have hne : ¬ kn = i := by omega
          have hne2 : ¬ i = kn := by omega
          have hlen : (cur.set i cur[kn]).length = N := by simp [hcl]
          generalize swapL cur i kn h1 h2 = nxt at *
          generalize cur[i] = qi at *
          generalize cur[kn] = qk at *
          have hik' : i < kn := by omega
          have hki2 : (kn : Int) < (N : Int) := by omega
          have hii2 : (i : Int) < (N : Int) := by omega
          have hwi : IntKind.i64.wrap ((i : Int) + 1) = (i : Int) + 1 := IntWalk.i64_in _ (by omega)
          have hwk : IntKind.i64.wrap ((kn : Int) - 1) = (kn : Int) - 1 := IntWalk.i64_in _ (by omega)
          clear hb5 hown5 hcells hfr i1 i2 i3 i4 k1 k2 k3 k4
          go_upto_region 15 with fail
          go_region
          go_wp2
          go_roundw
          case rel =>
            refine ⟨i + 1, (kn : Int) - 1, nxt, by go_num, rfl, by omega, by omega, by omega, Lib.hid (Hsw.out.trans Hcp.out), ?_, Below.drew (set4_below (set4_below Hb5.out hGb) hGb)⟩
            rw [Hsd.out]
            exact World.ownsRow.drew (own_rect (own_rect Hown5.out i h1 qk) kn (by omega) qi)
          case measure => simp [intOf]; omega
        · have hik' : ¬ (i : Int) < k := hik
          have hbx5 : wr.heap[w1.heap.size]? = some (.cells #[.slice D m dc] 27 (0, 0)) := (hb5.block _ hs2).trans Hbx.out
          have cb5 := cell_of_row wr w1.heap.size 0 _ _ _ hbx5
          have Hbx5 := Lib.hid hbx5
          clear hb5 hown5 hbx5
          obtain ⟨X, hX⟩ : ∃ X, cur ++ a = X := ⟨_, rfl⟩
          obtain ⟨M, hM⟩ : ∃ M, N + m = M := ⟨_, rfl⟩
          have hM84 : M ≤ 84 := by omega
          have HXc : Hid (rCells cur ++ rCells a = rCells X) := Lib.hid (by rw [← hX, rCells_app])
          have HM := Lib.hid hM
          have Hof : Hid (ofP X = (a, 0)) := Lib.hid (by rw [← hX]; exact form_law cut hcut.1 9 (by omega) a cur Hreg.out (by rw [HP.out]; exact Hcp.out))
          have Hrd := Lib.hid ((HD2.out.below Hb5.out).lies.reads (size := 4) (by rw [rCells_len, Hm.out]))
          have Hvalid := Lib.hid (Hreg.out.valid (by omega) (by omega))
          have Hca : Hid (X.length = M) := Lib.hid (by rw [← hX, List.length_append, hcl, Hm.out, hM])
          clear hX hM hcl
          go_wp2_with (first
            | (at_builtin
               refine wpList_append_any _ rfl (.tmp 89) (.tmp 91) _ rfl w2.heap.size 30 i0 _ 4 32 Try.underlying25 hi hz0 hz1 hz2 rfl (by omega) _ N (rCells cur) rfl
                 Hown5.out _ D m dc (rCells a) rfl Hrd.out (rCells_one a) (by simp only [maxLen]; omega) (by omega) hs5 ?_
               intro v7 w7 hown7 hg7 hat7
               rw [HXc.out, HM.out] at hown7
               have Hb7 : Hid (Below w2.heap.size w2 w7) := Lib.hid (Below.grown Hb5.out hg7 hs5 (own_base Hown5.out))
               have hs7 := Hb7.out.size
               obtain ⟨F, fc, rfl, hF⟩ := SlR.of_ownN hown7 Hca.out
               have HF := Lib.hid hF
               clear hown7 hg7 hat7 hF)
            | (go_at_call 9
               refine (of_any F M fc X _ HF.out).mono ?_
               rintro e w8 ⟨v8, rfl, hown8, hb8⟩
               rw [Hof.out] at hown8 ⊢
               obtain ⟨K, kc, rfl, hK⟩ := SlR.of_own hown8
               rw [Hm.out] at hK ⊢
               have HK := Lib.hid hK
               have Hb8 : Hid (Below w2.heap.size w2 w8) := Lib.hid (Hb7.out.trans (hb8.mono hs7))
               have hs8 := Hb8.out.size
               have hbx8 := (Hb8.out.block _ hs2).trans Hbx.out
               have cb8 := cell_of_row _ w1.heap.size 0 _ _ _ hbx8
               have hlt8 : w1.heap.size < w8.heap.size := Nat.lt_of_lt_of_le hs2 hs8
               clear hown8 hb8 hK hbx8)
            | (go_at_call 10
               refine (sameP_any D K m dc m kc a a _ (HD2.out.below (Hb8.out.trans ((show Below w8.heap.size w8 _ from (by repeat' (first | with_reducible exact Below.refl _ _ | with_reducible refine below_drewN ?_ _ | with_reducible refine Below.drew ?_ | with_reducible refine Below.alloc ?_ ?_ _ | with_reducible refine Below.setCell ?_ ?_ _ | with_reducible refine Below.trans ?_ (Below.mono (by with_reducible assumption) ?_) | (simp; done) | (simp; omega) | omega))).mono hs8))) (HK.out.below (show Below w8.heap.size w8 _ from (by repeat' (first | with_reducible exact Below.refl _ _ | with_reducible refine below_drewN ?_ _ | with_reducible refine Below.drew ?_ | with_reducible refine Below.alloc ?_ ?_ _ | with_reducible refine Below.setCell ?_ ?_ _ | with_reducible refine Below.trans ?_ (Below.mono (by with_reducible assumption) ?_) | (simp; done) | (simp; omega) | omega))))).mono ?_
               rintro e w9 ⟨rfl, hb9⟩
               simp only [decide_true]
               have Hb9 : Hid (Below w8.heap.size w8 w9) := Lib.hid (show Below w8.heap.size w8 w9 from (by have hbq := hb9; exact (by repeat' (first | with_reducible exact Below.refl _ _ | with_reducible assumption | with_reducible refine below_drewN ?_ _ | with_reducible refine Below.drew ?_ | with_reducible refine Below.alloc ?_ ?_ _ | with_reducible refine Below.setCell ?_ ?_ _ | with_reducible refine Below.trans ?_ (Below.mono (by with_reducible assumption) ?_) | with_reducible refine below_only ?_ (by with_reducible assumption) ?_ ?_ | (simp; done) | (simp; omega) | omega))))
               have hbx9 : w9.heap[w8.heap.size]? = some (.cells #[.slice K m kc] 27 (0, 0)) := (hb9.block _ (by first | (simp; done) | (simp; omega))).trans (heap_alloc_new w8 _)
               have cb9 := cell_of_row _ w8.heap.size 0 _ _ _ hbx9
               have hs9 := Hb9.out.size
               clear hb9 hbx9)
            | (go_at_call 11
               refine (valid_any K m kc a _ (HK.out.below (Hb9.out.trans ((show Below w9.heap.size w9 _ from (by repeat' (first | with_reducible exact Below.refl _ _ | with_reducible refine below_drewN ?_ _ | with_reducible refine Below.drew ?_ | with_reducible refine Below.alloc ?_ ?_ _ | with_reducible refine Below.setCell ?_ ?_ _ | with_reducible refine Below.trans ?_ (Below.mono (by with_reducible assumption) ?_) | (simp; done) | (simp; omega) | omega))).mono hs9)))).mono ?_
               rintro e w10 ⟨rfl, hb10⟩
               rw [Hvalid.out]
               have Hb10 : Hid (Below w8.heap.size w8 w10) := Lib.hid (Hb9.out.trans (hb10.mono hs9))
               have hs10 := Hb10.out.size
               clear hb10)
            | (go_at_call 12
               refine (awake_any _).mono ?_
               rintro e w11 ⟨rfl, hb11⟩
               have Hb11 : Hid (Below w8.heap.size w8 w11) := Lib.hid (Hb10.out.trans (hb11.mono hs10))
               clear hb11)
            | fail)
          go_ret
          exact ⟨rfl, Hb2.out.trans ((Hb8.out.trans (Hb11.out.mono hs8)).mono (Nat.le_trans hs1 (Nat.le_of_lt hs2)))⟩
end Go.Proofs.Ytmkopmcjilaedaa
