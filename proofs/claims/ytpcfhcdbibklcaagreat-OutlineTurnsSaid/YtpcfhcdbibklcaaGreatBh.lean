/- Contract: in (the reference of outlines). -/
import Derived.Test.YtpcfhcdbibklcaaGreatBc
import Derived.Test.YtpcfhcdbibklcaaGreatF3
import Derived.Test.YtpcfhcdbibklcaaGreatQ
namespace Go.Proofs.YtpcfhcdbibklcaaGreat
open Go.RowKit
set_option linter.unusedVariables false
set_option linter.unusedSimpArgs false

theorem inC_out (l : List R4) (xs ys : List Int) (i k : Int) (h : i < 0 ∨ k < 0 ∨ (xs.length : Int) ≤ i + 1 ∨ (ys.length : Int) ≤ k + 1) : inC l xs ys i k = false := by
  unfold inC
  rcases h with h | h | h | h
  · rw [decide_eq_false (show ¬ (0 : Int) ≤ i by omega)]; simp
  · rw [decide_eq_false (show ¬ (0 : Int) ≤ k by omega)]; simp
  · rw [decide_eq_false (show ¬ i + 1 < (xs.length : Int) by omega)]; simp
  · rw [decide_eq_false (show ¬ k + 1 < (ys.length : Int) by omega)]; simp
set_option maxHeartbeats 8000000 in
set_option maxRecDepth 100000 in
theorem in5_any (A : Option Addr) (n c : Nat) (l : List R4) (X Y : Option Addr) (xc yc : Nat) (xs ys : List Int) (i k : Int) (w : World) (hA : SlR w A n c l) (hX : SlI w X xs.length xc xs) (hY : SlI w Y ys.length yc ys)
    (hi : -5 ≤ i ∧ i ≤ 100000000) (hk : -5 ≤ k ∧ k ≤ 100000000) :
    Calls Tryz.prog 82 #[.agg #[.slice A n c], .slice X xs.length xc, .slice Y ys.length yc, .int .i64 i, .int .i64 k] w fun e w' => e = .returned (.bool (inC l xs ys i k)) ∧ Below w.heap.size w w' := by
  have hnl := hA.len
  have hnm := Nat.le_trans hA.cap hA.top
  unfold maxLen at hnm
  have hwi : IntKind.i64.wrap (i + 1) = i + 1 := IntWalk.i64_in _ (by omega)
  have hwk : IntKind.i64.wrap (k + 1) = k + 1 := IntWalk.i64_in _ (by omega)
  have Hout := Lib.hid (inC_out l xs ys i k)
  by_cases h1 : i < 0
  · rw [Hout.out (.inl h1)]
    have d1 : decide (i < 0) = true := decide_eq_true h1
    go_enter Tryz.func82, Tryz.ntmps82
    go_wp2
    go_ret
    exact ⟨rfl, (by repeat' (first | with_reducible exact Below.refl _ _ | with_reducible refine below_drewN ?_ _ | with_reducible refine Below.drew ?_ | with_reducible refine Below.alloc ?_ ?_ _ | with_reducible refine Below.setCell ?_ ?_ _ | with_reducible refine Below.trans ?_ (Below.mono (by with_reducible assumption) ?_) | (simp; done) | (simp; omega) | omega))⟩
  · have d1 : decide (i < 0) = false := decide_eq_false h1
    by_cases h2 : k < 0
    · rw [Hout.out (.inr (.inl h2))]
      have d2 : decide (k < 0) = true := decide_eq_true h2
      go_enter Tryz.func82, Tryz.ntmps82
      go_wp2
      go_ret
      exact ⟨rfl, (by repeat' (first | with_reducible exact Below.refl _ _ | with_reducible refine below_drewN ?_ _ | with_reducible refine Below.drew ?_ | with_reducible refine Below.alloc ?_ ?_ _ | with_reducible refine Below.setCell ?_ ?_ _ | with_reducible refine Below.trans ?_ (Below.mono (by with_reducible assumption) ?_) | (simp; done) | (simp; omega) | omega))⟩
    · have d2 : decide (k < 0) = false := decide_eq_false h2
      by_cases h3 : (xs.length : Int) ≤ i + 1
      · rw [Hout.out (.inr (.inr (.inl h3)))]
        have d3 : decide ((xs.length : Int) ≤ i + 1) = true := decide_eq_true h3
        go_enter Tryz.func82, Tryz.ntmps82
        go_wp2
        go_ret
        exact ⟨rfl, (by repeat' (first | with_reducible exact Below.refl _ _ | with_reducible refine below_drewN ?_ _ | with_reducible refine Below.drew ?_ | with_reducible refine Below.alloc ?_ ?_ _ | with_reducible refine Below.setCell ?_ ?_ _ | with_reducible refine Below.trans ?_ (Below.mono (by with_reducible assumption) ?_) | (simp; done) | (simp; omega) | omega))⟩
      · have d3 : decide ((xs.length : Int) ≤ i + 1) = false := decide_eq_false h3
        by_cases h4 : (ys.length : Int) ≤ k + 1
        · rw [Hout.out (.inr (.inr (.inr h4)))]
          have d4 : decide ((ys.length : Int) ≤ k + 1) = true := decide_eq_true h4
          go_enter Tryz.func82, Tryz.ntmps82
          go_wp2
          go_ret
          exact ⟨rfl, (by repeat' (first | with_reducible exact Below.refl _ _ | with_reducible refine below_drewN ?_ _ | with_reducible refine Below.drew ?_ | with_reducible refine Below.alloc ?_ ?_ _ | with_reducible refine Below.setCell ?_ ?_ _ | with_reducible refine Below.trans ?_ (Below.mono (by with_reducible assumption) ?_) | (simp; done) | (simp; omega) | omega))⟩
        · have d4 : decide ((ys.length : Int) ≤ k + 1) = false := decide_eq_false h4
          obtain ⟨i', rfl⟩ := Int.eq_ofNat_of_zero_le (show 0 ≤ i by omega)
          obtain ⟨k', rfl⟩ := Int.eq_ofNat_of_zero_le (show 0 ≤ k by omega)
          have hi' : i' < xs.length := by omega
          have hk' : k' < ys.length := by omega
          have HA := Lib.hid hA
          have HX := Lib.hid hX
          have HY := Lib.hid hY
          have Hres : Hid (inC l xs ys i' k' = inL l xs[i'] ys[k']) := Lib.hid (by
            unfold inC
            rw [decide_eq_true (show (0 : Int) ≤ i' by omega), decide_eq_true (show (0 : Int) ≤ k' by omega), decide_eq_true (show (i' : Int) + 1 < xs.length by omega), decide_eq_true (show (k' : Int) + 1 < ys.length by omega), Int.toNat_natCast, Int.toNat_natCast, getD_at hi', getD_at hk']
            rfl)
          obtain ⟨bx, ox, hXe, hbx, cx⟩ := hX.at i' hi'
          obtain ⟨by_, oy, hYe, hby, cy⟩ := hY.at k' hk'
          subst hXe hYe
          generalize xs[i'] = x at *
          generalize ys[k'] = y at *
          generalize inC l xs ys i' k' = res at *
          have hil : (i' : Int) < (xs.length : Int) := by omega
          have hkl : (k' : Int) < (ys.length : Int) := by omega
          have hi0 : (0 : Int) ≤ (i' : Int) := by omega
          have hk0 : (0 : Int) ≤ (k' : Int) := by omega
          clear hA hX hY Hout HX HY
          go_enter Tryz.func82, Tryz.ntmps82
          go_upto_region 4 with fail
          obtain ⟨w0, hw0⟩ : ∃ w0 : World, w0 = w.alloc (.cells #[.slice A n c] 25) := ⟨_, rfl⟩
          rw [← hw0]
          have Hb0 : Hid (Below w.heap.size w w0) := Lib.hid (by rw [hw0]; exact (by repeat' (first | with_reducible exact Below.refl _ _ | with_reducible refine below_drewN ?_ _ | with_reducible refine Below.drew ?_ | with_reducible refine Below.alloc ?_ ?_ _ | with_reducible refine Below.setCell ?_ ?_ _ | with_reducible refine Below.trans ?_ (Below.mono (by with_reducible assumption) ?_) | (simp; done) | (simp; omega) | omega)))
          have hs0 : w.heap.size ≤ w0.heap.size := Hb0.out.size
          clear hw0
          go_loopw [12, 36] (fun _ j wr => ∃ m : Nat, m ≤ n ∧ j = .int .i64 (m : Int) ∧ Hid (inL (l.take m) x y = false) ∧ Below w0.heap.size w0 wr) (fun _ j _ => n - (intOf j).toNat)
          case atStart => exact ⟨0, Nat.zero_le _, rfl, Lib.hid rfl, Below.refl _ _⟩
          case round =>
            obtain ⟨m, hm, rfl, Hf, hbr⟩ := hrel
            have hsr := hbr.size
            have Hbr := Lib.hid hbr
            by_cases hmn : m < n
            · have hml : m < l.length := by omega
              obtain ⟨b, off, hAe, hb, c0, c1, c2, c3⟩ := (HA.out.below (Hb0.out.trans (hbr.mono hs0))).at m hml
              subst hAe
              have Hst := Lib.hid (inL_take_succ l m hml x y)
              have Hyes : Hid (l[m].has x y = true → res = true) := Lib.hid (fun h => by rw [Hres.out]; exact List.any_eq_true.2 ⟨l[m], List.getElem_mem hml, h⟩)
              have cxr := (Hb0.out.trans (hbr.mono hs0)).cell (p := ⟨bx, ox + i', none⟩) hbx |>.trans cx
              have cyr := (Hb0.out.trans (hbr.mono hs0)).cell (p := ⟨by_, oy + k', none⟩) hby |>.trans cy
              have hbxr : bx < wr.heap.size := by omega
              have hbyr : by_ < wr.heap.size := by omega
              generalize l[m] = q at *
              have hmn' : (m : Int) < (n : Int) := by omega
              have hm0 : (0 : Int) ≤ (m : Int) := by omega
              go_upto_region 6 with fail
              obtain ⟨wx, hwx⟩ : ∃ wx : World, wx = wr.alloc (.cells #[.int .i64 q.l, .int .i64 q.b, .int .i64 q.r, .int .i64 q.t] 58) := ⟨_, rfl⟩
              rw [← hwx]
              have Hbx : Hid (Below w0.heap.size w0 wx) := Lib.hid (by rw [hwx]; exact hbr.alloc hsr _)
              have hrx : wx.heap[wr.heap.size]? = some (.cells #[.int .i64 q.l, .int .i64 q.b, .int .i64 q.r, .int .i64 q.t] 58 (0, 0)) := by rw [hwx]; exact heap_alloc_new wr _
              have x0 := cell_of_row wx wr.heap.size 0 _ _ _ hrx
              have x1 := cell_of_row wx wr.heap.size 1 _ _ _ hrx
              have x2 := cell_of_row wx wr.heap.size 2 _ _ _ hrx
              have x3 := cell_of_row wx wr.heap.size 3 _ _ _ hrx
              have cxx : wx.cell? ⟨bx, ox + i', none⟩ = some (.int .i64 x) := by rw [hwx, World.cell?_alloc_lt wr _ _ (show bx < wr.heap.size from hbxr)]; exact cxr
              have cyx : wx.cell? ⟨by_, oy + k', none⟩ = some (.int .i64 y) := by rw [hwx, World.cell?_alloc_lt wr _ _ (show by_ < wr.heap.size from hbyr)]; exact cyr
              clear hwx hrx c0 c1 c2 c3 cx cy cxr cyr hbr
              by_cases g1 : q.l ≤ x
              · have e1 : decide (q.l ≤ x) = true := decide_eq_true g1
                by_cases g2 : x < q.r
                · have e2 : decide (x < q.r) = true := decide_eq_true g2
                  by_cases g3 : q.b ≤ y
                  · have e3 : decide (q.b ≤ y) = true := decide_eq_true g3
                    by_cases g4 : y < q.t
                    · have e4 : decide (y < q.t) = true := decide_eq_true g4
                      have Hr : Hid (res = true) := Lib.hid (Hyes.out (by simp [R4.has]; omega))
                      clear Hyes Hst
                      go_quiet (fail)
                      go_wp2
                      go_ret
                      exact ⟨by rw [Hr.out]; rfl, Hb0.out.trans ((below_drewN Hbx.out _).mono hs0)⟩
                    · have e4 : decide (y < q.t) = false := decide_eq_false g4
                      have Hno : q.has x y = false := by simp [R4.has]; omega
                      rw [Hno, Bool.or_false] at Hst
                      clear Hyes
                      go_quiet (fail)
                      go_wp2
                      go_roundw
                      case rel => exact ⟨m + 1, by omega, by go_num, Lib.hid (by rw [Hst.out]; exact Hf.out), below_drewN Hbx.out _⟩
                      case measure => simp [intOf]; omega
                  · have e3 : decide (q.b ≤ y) = false := decide_eq_false g3
                    have Hno : q.has x y = false := by simp [R4.has]; omega
                    rw [Hno, Bool.or_false] at Hst
                    clear Hyes
                    go_quiet (fail)
                    go_wp2
                    go_roundw
                    case rel => exact ⟨m + 1, by omega, by go_num, Lib.hid (by rw [Hst.out]; exact Hf.out), below_drewN Hbx.out _⟩
                    case measure => simp [intOf]; omega
                · have e2 : decide (x < q.r) = false := decide_eq_false g2
                  have Hno : q.has x y = false := by simp [R4.has]; omega
                  rw [Hno, Bool.or_false] at Hst
                  clear Hyes
                  go_quiet (fail)
                  go_wp2
                  go_roundw
                  case rel => exact ⟨m + 1, by omega, by go_num, Lib.hid (by rw [Hst.out]; exact Hf.out), below_drewN Hbx.out _⟩
                  case measure => simp [intOf]; omega
              · have e1 : decide (q.l ≤ x) = false := decide_eq_false g1
                have Hno : q.has x y = false := by simp [R4.has]; omega
                rw [Hno, Bool.or_false] at Hst
                clear Hyes
                go_quiet (fail)
                go_wp2
                go_roundw
                case rel => exact ⟨m + 1, by omega, by go_num, Lib.hid (by rw [Hst.out]; exact Hf.out), below_drewN Hbx.out _⟩
                case measure => simp [intOf]; omega
            · have Hr : Hid (res = false) := Lib.hid (by have := Hf.out; rw [List.take_of_length_le (by omega)] at this; rw [Hres.out]; exact this)
              have hmn' : ¬ (m : Int) < (n : Int) := by omega
              go_wp2
              go_ret
              exact ⟨by rw [Hr.out]; rfl, Hb0.out.trans (hbr.mono hs0)⟩
end Go.Proofs.YtpcfhcdbibklcaaGreat
