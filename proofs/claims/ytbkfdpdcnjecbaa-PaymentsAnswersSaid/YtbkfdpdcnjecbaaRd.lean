/- Contract: read (payments): the order of a record, and whether it is one. -/
import Derived.Test.YtbkfdpdcnjecbaaG1
import Derived.Outline
namespace Go.Proofs.Ytbkfdpdcnjecbaa
open Go.RowKit
set_option linter.unusedVariables false

/-- Where the fields of a record begin, and how wide they are. -/
def atF : Nat → Nat
  | 0 => 0
  | 1 => 8
  | 2 => 10
  | 3 => 18
  | 4 => 26
  | _ => 28
def wdF : Nat → Nat
  | 0 => 8
  | 1 => 2
  | 2 => 8
  | 3 => 8
  | _ => 2
def seg (l : List Int) (k : Nat) : List Int := (l.drop (atF k)).take (wdF k)
theorem atF_le (k : Nat) (h : k < 5) : atF k ≤ 26 ∧ atF k + wdF k ≤ 28 ∧ atF (k + 1) = atF k + wdF k ∧ wdF k ≤ 8 ∧ 1 ≤ wdF k := by
  rcases (show k = 0 ∨ k = 1 ∨ k = 2 ∨ k = 3 ∨ k = 4 by omega) with rfl | rfl | rfl | rfl | rfl <;> decide
theorem seg_len (l : List Int) (hl : l.length = 28) (k : Nat) (h : k < 5) : (seg l k).length = wdF k := by
  have := atF_le k h
  simp [seg]
  omega
def ordOf (l : List Int) : Ord4 := ⟨numS (seg l 0), numS (seg l 1), numS (seg l 2), numS (seg l 3)⟩
def okB (l : List Int) : Bool := (numS (seg l 4) == sumB (l.take 26)) && rightB (ordOf l)

theorem wrapEq (x : Int) : IntKind.i64.wrap x = wrap64 x := by rw [IntKind.wrap_i64]; unfold wrap64; omega
theorem or_w64 (s x : Int) (hs : 0 ≤ s) (h0 : 0 ≤ x) (h1 : x ≤ 255) : bits .or .i64 (wrap64 (wrap64 s * 256)) x = wrap64 (256 * s + x) := by
  rw [← wrapEq, ← wrapEq, ← wrapEq]; exact or_i64 s x hs h0 h1
/-- Block B is an array of five numbers. -/
def Arr5 (w : World) (B : Nat) (f : Nat → Int) : Prop := w.heap[B]? = some (.cells ((List.range 5).map (fun j => Value.int .i64 (f j))).toArray 68 (0, 0))
theorem Arr5.cell {w : World} {B : Nat} {f : Nat → Int} (h : Arr5 w B f) (j : Nat) (hj : j < 5) : w.cell? ⟨B, j, none⟩ = some (.int .i64 (f j)) := by
  rw [cell_of_row w B j _ _ _ h]
  simp [hj]
theorem Arr5.frozen {w : World} {B : Nat} {f : Nat → Int} (h : Arr5 w B f) (j : Nat) : w.frozen? ⟨B, j, none⟩ = false := frozen_of_row w B j _ _ h
theorem Arr5.set_ {w : World} {B : Nat} {f : Nat → Int} (h : Arr5 w B f) (k : Nat) (x : Int) : Arr5 (w.setCell ⟨B, k, none⟩ (.int .i64 x)) B (fun j => if j = k then x else f j) := by
  unfold Arr5 at h ⊢
  rw [heap_setCell_same w B k _ _ _ h]
  congr 2
  apply Array.ext
  · simp
  · intro i h1 h2
    simp only [List.getElem_toArray, List.getElem_map, List.getElem_range] at *
    by_cases e : k = i
    · simp [e]
    · simp [e, Ne.symm e]

set_option maxHeartbeats 1000000 in
theorem read_any (A : Option Addr) (c : Nat) (l : List Int) (w : World) (hl : l.length = 28) (hc : 28 ≤ c) (hm : c ≤ maxLen) (hb : Bytes l) (hA : Lies w A 28 (l.map (.int .u8))) :
    Calls Try.prog 48 #[.slice A 28 c] w fun e w' => e = .returned (.tuple #[.agg #[.int .i64 (ordOf l).n, .int .i64 (ordOf l).f, .int .i64 (ordOf l).a, .int .i64 (ordOf l).d], .bool (okB l)]) ∧ Below w.heap.size w w' := by
  obtain ⟨b, off, rfl, hbl, hcell⟩ := hA.resolve_left (by omega)
  unfold maxLen at hm
  have Hl := Lib.hid hl
  have Hcell := Lib.hid hcell
  clear hl hA hcell
  go_enter Try.func48, Try.ntmps48
  go_wp2_with fail
  refine (widths_any _).mono ?_
  rintro e w1 ⟨rfl, hb1⟩
  have HB0 : Hid (Arr5 w1 (w.heap.size + 1) (fun _ => 0)) := by
    refine (hb1.block (w.heap.size + 1) (by simp)).trans ?_
    exact heap_alloc2_new w _ _
  have HR0 : Hid (w1.heap[w.heap.size]? = some (.cells #[.int .i64 0, .int .i64 0, .int .i64 0, .int .i64 0] 32 (0, 0))) := by
    refine (hb1.block w.heap.size (by simp; omega)).trans ?_
    exact heap_alloc2_old w _ _
  have hs1 : w.heap.size + 1 < w1.heap.size := by have := hb1.size; simp at this; omega
  have hbw1 : Below w.heap.size w w1 := (by repeat' (first | with_reducible exact Below.refl _ _ | with_reducible refine below_drewN ?_ _ | with_reducible refine Below.drew ?_ | with_reducible refine Below.alloc ?_ ?_ _ | with_reducible refine Below.setCell ?_ ?_ _ | with_reducible refine Below.trans ?_ (Below.mono (by with_reducible assumption) ?_) | (simp; done) | (simp; omega) | omega))
  have hbl1 : b < w1.heap.size := by omega
  have Hc1 : Hid (∀ j u, (l.map (Value.int .u8))[j]? = some u → w1.cell? ⟨b, off + j, none⟩ = some u) := fun j u hu => (hbw1.cell (p := ⟨b, off + j, none⟩) hbl).trans (Hcell.out j u hu)
  clear hb1 Hcell
  go_wp2
  go_loopw [5, 12] (fun a i wr => ∃ k : Nat, k ≤ 5 ∧ i = .int .i64 (k : Int) ∧ a = .int .i64 (atF k : Nat) ∧ Arr5 wr (w.heap.size + 1) (fun j => if j < k then numS (seg l j) else 0) ∧ w1.grownBy wr (some (w.heap.size + 1))) (fun _ i _ => 5 - (intOf i).toNat)
  case atStart => exact ⟨0, by omega, rfl, rfl, HB0.out, World.grownBy.refl _ _⟩
  case round =>
    obtain ⟨k, hk, rfl, rfl, harr, hgr⟩ := hrel
    have Harr := Lib.hid harr
    have hsr := hgr.size
    clear harr
    by_cases hk5 : k < 5
    · obtain ⟨a1, a2, a3, a4, a5⟩ := atF_le k hk5
      have Ha3 := Lib.hid a3
      clear a3
      have xk : ∀ w : World, (Instr.index 68 (.agg #[.int .i64 8, .int .i64 2, .int .i64 8, .int .i64 8, .int .i64 2]) (.int .i64 (k : Int))).run Try.prog w = .ok (.int .i64 (wdF k : Nat)) w := by
        clear Harr Ha3
        rcases (show k = 0 ∨ k = 1 ∨ k = 2 ∨ k = 3 ∨ k = 4 by omega) with rfl | rfl | rfl | rfl | rfl <;> (intro w; kernel_rfl)
      have Hsl := Lib.hid (seg_len l Hl.out k hk5)
      generalize hat : atF k = at_ at *
      generalize hwd : wdF k = wd at *
      have Hat := Lib.hid hat
      have Hwd := Lib.hid hwd
      clear hat hwd
      go_wp2
      obtain ⟨wo, rfl⟩ : ∃ wo : World, wo = wr := ⟨_, rfl⟩
      go_loopw [23] (fun i wr => ∃ m : Nat, m ≤ wd ∧ i = .int .i64 (m : Int) ∧ Arr5 wr (w.heap.size + 1) (fun j => if j < k then numS (seg l j) else if j = k then numS ((seg l k).take m) else 0) ∧ w1.grownBy wr (some (w.heap.size + 1))) (fun i _ => wd - (intOf i).toNat)
      case atStart =>
        refine ⟨0, by omega, rfl, ?_, hgr⟩
        have e : (fun j => if j < k then numS (seg l j) else if j = k then numS ((seg l k).take 0) else 0) = (fun j => if j < k then numS (seg l j) else 0) := by
          funext j
          have : numS ((seg l k).take 0) = 0 := by rw [List.take_zero]; simp [numS, numB, wrap64]
          rw [this]
          simp
        rw [e]
        exact Harr.out
      case round =>
        obtain ⟨m, hm, rfl, harr, hgr⟩ := hrel
        have Harr := Lib.hid harr
        have hsr := hgr.size
        clear harr
        by_cases hmw : m < wd
        · have hls : m < (seg l k).length := by rw [Hsl.out]; exact hmw
          have hbs : Bytes (seg l k) := (hb.drop _).take _
          have hcx := hbs _ (List.getElem_mem hls)
          have Hs : Hid (numB ((seg l k).take (m + 1)) = 256 * numB ((seg l k).take m) + (seg l k)[m]) := by
            show numB ((seg l k).take (m + 1)) = _
            rw [List.take_succ_eq_append_getElem hls, numB_snoc]
          have hbd := (numB_bd ((seg l k).take m).length _ rfl (hbs.take m)).1
          have Ho := Lib.hid (or_w64 (numB ((seg l k).take m)) (seg l k)[m] hbd hcx.1 hcx.2)
          have cx : wr.cell? ⟨b, off + at_ + m, none⟩ = some (.int .u8 (seg l k)[m]) := by
            refine ((tcell hgr).1 b (off + at_ + m) hbl1 (by omega)).trans ?_
            have hq : l[at_ + m]? = some (seg l k)[m] := by
              have h1 : (seg l k)[m]? = some (seg l k)[m] := List.getElem?_eq_getElem hls
              rw [← h1]
              unfold seg
              rw [Hat.out, Hwd.out, List.getElem?_take, if_pos hmw, List.getElem?_drop]
            have := Hc1.out (at_ + m) (.int .u8 (seg l k)[m]) (by rw [List.getElem?_map, hq]; rfl)
            rwa [← Nat.add_assoc] at this
          have ck : wr.cell? ⟨w.heap.size + 1, k, none⟩ = some (.int .i64 (wrap64 (numB ((seg l k).take m)))) := by
            rw [Harr.out.cell k hk5]
            simp [numS]
          have fk : wr.frozen? ⟨w.heap.size + 1, k, none⟩ = false := Harr.out.frozen k
          generalize (seg l k)[m] = x at *
          go_wp2
          go_roundw
          case rel =>
            refine ⟨m + 1, by omega, by go_num, ?_, only_setCell hgr (.inl rfl) _⟩
            rw [Ho.out, ← Hs.out]
            have h1 := Harr.out.set_ k (wrap64 (numB ((seg l k).take (m + 1))))
            have e : (fun j => if j = k then wrap64 (numB ((seg l k).take (m + 1))) else if j < k then numS (seg l j) else if j = k then numS ((seg l k).take m) else 0) = (fun j => if j < k then numS (seg l j) else if j = k then numS ((seg l k).take (m + 1)) else 0) := by
              funext j
              by_cases e1 : j = k
              · simp [e1, numS]
              · simp [e1]
            rw [e] at h1
            exact h1
          case measure => simp [intOf]; omega
        · have e1 : m = wd := by omega
          have Harr1 : Hid (Arr5 wr (w.heap.size + 1) (fun j => if j < k + 1 then numS (seg l j) else 0)) := by
            have h1 := Harr.out
            have e : (fun j => if j < k then numS (seg l j) else if j = k then numS ((seg l k).take m) else 0) = (fun j => if j < k + 1 then numS (seg l j) else 0) := by
              funext j
              by_cases e2 : j < k
              · rw [if_pos e2, if_pos (by omega)]
              · rw [if_neg e2]
                by_cases e3 : j = k
                · rw [if_pos e3, if_pos (by omega), List.take_of_length_le (by rw [Hsl.out]; omega), e3]
                · rw [if_neg e3, if_neg (by omega)]
            rw [e] at h1
            exact h1
          clear e1 Harr
          go_wp2
          go_roundw
          case rel => exact ⟨k + 1, by omega, by go_num, by rw [Ha3.out]; go_num, Harr1.out, hgr⟩
          case measure => simp [intOf]; omega
    · obtain rfl : k = 5 := by omega
      have cB : ∀ j, j < 5 → wr.cell? ⟨w.heap.size + 1, j, none⟩ = some (.int .i64 (numS (seg l j))) := fun j hj => by
        rw [Harr.out.cell j hj, if_pos hj]
      have cB0 := cB 0 (by omega)
      have cB1 := cB 1 (by omega)
      have cB2 := cB 2 (by omega)
      have cB3 := cB 3 (by omega)
      have cB4 := cB 4 (by omega)
      clear cB
      have hR : wr.heap[w.heap.size]? = some (.cells #[.int .i64 0, .int .i64 0, .int .i64 0, .int .i64 0] 32 (0, 0)) := (hgr.block w.heap.size (by omega) (by simp)).trans HR0.out
      have cR0 : wr.cell? ⟨w.heap.size, 0, none⟩ = some (.int .i64 0) := cell_of_row wr _ 0 _ _ _ hR
      have cR1 : wr.cell? ⟨w.heap.size, 1, none⟩ = some (.int .i64 0) := cell_of_row wr _ 1 _ _ _ hR
      have cR2 : wr.cell? ⟨w.heap.size, 2, none⟩ = some (.int .i64 0) := cell_of_row wr _ 2 _ _ _ hR
      have cR3 : wr.cell? ⟨w.heap.size, 3, none⟩ = some (.int .i64 0) := cell_of_row wr _ 3 _ _ _ hR
      have fR0 : wr.frozen? ⟨w.heap.size, 0, none⟩ = false := frozen_of_row wr _ 0 _ _ hR
      have fR1 : wr.frozen? ⟨w.heap.size, 1, none⟩ = false := frozen_of_row wr _ 1 _ _ hR
      have fR2 : wr.frozen? ⟨w.heap.size, 2, none⟩ = false := frozen_of_row wr _ 2 _ _ hR
      have fR3 : wr.frozen? ⟨w.heap.size, 3, none⟩ = false := frozen_of_row wr _ 3 _ _ hR
      have HR := Lib.hid hR
      clear hR
      have Hls : Hid (Lies wr (some ⟨b, off, none⟩) 26 ((l.take 26).map (.int .u8))) := by
        refine .inr ⟨b, off, rfl, by omega, fun j u hu => ?_⟩
        refine ((tcell hgr).1 b (off + j) hbl1 (by omega)).trans (Hc1.out j u ?_)
        rw [List.map_take, List.getElem?_take] at hu
        split at hu
        · exact hu
        · cases hu
      have Hsum := fun W : World => fun h => sumP_any (some ⟨b, off, none⟩) 26 c (l.take 26) W (by rw [List.length_take, Hl.out]; rfl) (by decide) (hb.take 26) h
      have HsumH := Lib.hid Hsum
      clear Hsum
      go_wp2
      obtain ⟨w9, hw9⟩ : ∃ w9 : World, w9 = wr.alloc (.cells #[.int .i64 (numS (seg l 0)), .int .i64 (numS (seg l 1)), .int .i64 (numS (seg l 2)), .int .i64 (numS (seg l 3))] 32) := ⟨_, rfl⟩
      rw [← hw9]
      have hs9 : wr.heap.size < w9.heap.size := by rw [hw9]; simp
      have hr9 : wr.heap.size ≤ w9.heap.size := by omega
      have n0 : w9.cell? ⟨wr.heap.size, 0, none⟩ = some (.int .i64 (ordOf l).n) := by rw [hw9]; simp [go_sem]; rfl
      have n1 : w9.cell? ⟨wr.heap.size, 1, none⟩ = some (.int .i64 (ordOf l).f) := by rw [hw9]; simp [go_sem]; rfl
      have n2 : w9.cell? ⟨wr.heap.size, 2, none⟩ = some (.int .i64 (ordOf l).a) := by rw [hw9]; simp [go_sem]; rfl
      have n3 : w9.cell? ⟨wr.heap.size, 3, none⟩ = some (.int .i64 (ordOf l).d) := by rw [hw9]; simp [go_sem]; rfl
      have hold : ∀ q, q < wr.heap.size → w9.heap[q]? = wr.heap[q]? := fun q hq => by rw [hw9]; exact Below.heap_alloc _ _ _ hq
      have Hold := Lib.hid hold
      have m4 : w9.cell? ⟨w.heap.size + 1, 4, none⟩ = some (.int .i64 (numS (seg l 4))) := (World.cell?_of_block (a := ⟨w.heap.size + 1, 4, none⟩) (hold (w.heap.size + 1) (by omega))).trans cB4
      have HR9 : Hid (w9.heap[w.heap.size]? = some (.cells #[.int .i64 0, .int .i64 0, .int .i64 0, .int .i64 0] 32 (0, 0))) := (hold _ (by omega)).trans HR.out
      have Hls9 : Hid (Lies w9 (some ⟨b, off, none⟩) 26 ((l.take 26).map (.int .u8))) := by
        rcases Hls.out with h | ⟨b', off', e, h1, h2⟩
        · exact .inl h
        · exact .inr ⟨b', off', e, by omega, fun j u hu => (World.cell?_of_block (a := ⟨b', off' + j, none⟩) (hold b' h1)).trans (h2 j u hu)⟩
      have Hb9 : Hid (Below w.heap.size w w9) := by rw [hw9]; exact (below_only hbw1 hgr (by omega) (by omega)).alloc (by omega) _
      clear hold cB0 cB1 cB2 cB3 cB4 cR0 cR1 cR2 cR3 fR0 fR1 fR2 fR3 HR Hls Harr hgr
      have Hw9 := Lib.hid hw9
      clear hw9
      have Hok : Hid (okB l = ((numS (seg l 4) == sumB (l.take 26)) && rightB (ordOf l))) := rfl
      generalize hokq : okB l = ok at *
      generalize hoq : ordOf l = o at *
      generalize hs4q : numS (seg l 4) = s4 at *
      generalize hs26q : sumB (l.take 26) = s26 at *
      have Hokq := Lib.hid hokq
      have Hoq := Lib.hid hoq
      clear hokq hoq hs4q hs26q
      have r0 : w9.cell? ⟨w.heap.size, 0, none⟩ = some (.int .i64 0) := cell_of_row w9 _ 0 _ _ _ HR9.out
      have r1 : w9.cell? ⟨w.heap.size, 1, none⟩ = some (.int .i64 0) := cell_of_row w9 _ 1 _ _ _ HR9.out
      have r2 : w9.cell? ⟨w.heap.size, 2, none⟩ = some (.int .i64 0) := cell_of_row w9 _ 2 _ _ _ HR9.out
      have r3 : w9.cell? ⟨w.heap.size, 3, none⟩ = some (.int .i64 0) := cell_of_row w9 _ 3 _ _ _ HR9.out
      have f0 : w9.frozen? ⟨w.heap.size, 0, none⟩ = false := frozen_of_row w9 _ 0 _ _ HR9.out
      have f1 : w9.frozen? ⟨w.heap.size, 1, none⟩ = false := frozen_of_row w9 _ 1 _ _ HR9.out
      have f2 : w9.frozen? ⟨w.heap.size, 2, none⟩ = false := frozen_of_row w9 _ 2 _ _ HR9.out
      have f3 : w9.frozen? ⟨w.heap.size, 3, none⟩ = false := frozen_of_row w9 _ 3 _ _ HR9.out
      have hw9' : w.heap.size < w9.heap.size := by omega
      have hne1 : wr.heap.size ≠ w.heap.size := by omega
      have hne2 : w.heap.size ≠ wr.heap.size := by omega
      have hc26 : (26 : Int) ≤ (c : Int) := by omega
      by_cases heq : s4 = s26
      · have hbe : (s4 == s26) = true := by simp [heq]
        have Heq := Lib.hid heq
        clear heq
        go_region_held3 (fun w' => w'.cell? ⟨wr.heap.size, 0, none⟩ = some (.int .i64 o.n) ∧ w'.cell? ⟨wr.heap.size, 1, none⟩ = some (.int .i64 o.f) ∧ w'.cell? ⟨wr.heap.size, 2, none⟩ = some (.int .i64 o.a) ∧ w'.cell? ⟨wr.heap.size, 3, none⟩ = some (.int .i64 o.d) ∧ w'.cell? ⟨w.heap.size + 1, 4, none⟩ = some (.int .i64 s4))
          (first | go_keep | ((repeat' apply And.intro) <;> go_keep))
          (first
            | (go_at_call 25; refine (HsumH.out _ (by exact Hls9.out)).mono ?_; rintro e w' ⟨rfl, rfl⟩)
            | (go_at_call 36; refine (right_any o _).mono ?_; rintro e wR ⟨rfl, hbR⟩; obtain ⟨hcR, hfR⟩ := bcell hbR;
                have q0 := (hcR w.heap.size 0 (by first | omega | (simp; omega))).trans r0; have q1 := (hcR w.heap.size 1 (by first | omega | (simp; omega))).trans r1; have q2 := (hcR w.heap.size 2 (by first | omega | (simp; omega))).trans r2; have q3 := (hcR w.heap.size 3 (by first | omega | (simp; omega))).trans r3;
                have s0 := (hcR wr.heap.size 0 (by first | omega | (simp; omega))).trans n0; have s1 := (hcR wr.heap.size 1 (by first | omega | (simp; omega))).trans n1; have s2 := (hcR wr.heap.size 2 (by first | omega | (simp; omega))).trans n2; have s3 := (hcR wr.heap.size 3 (by first | omega | (simp; omega))).trans n3; have s4' := (hcR (w.heap.size + 1) 4 (by first | omega | (simp; omega))).trans m4;
                have p0 := (hfR w.heap.size 0 (by first | omega | (simp; omega))).trans f0; have p1 := (hfR w.heap.size 1 (by first | omega | (simp; omega))).trans f1; have p2 := (hfR w.heap.size 2 (by first | omega | (simp; omega))).trans f2; have p3 := (hfR w.heap.size 3 (by first | omega | (simp; omega))).trans f3; clear hcR hfR))
        all_goals
          go_wp2
          refine bodyPost_ret (v := .tuple #[.agg #[.int .i64 o.n, .int .i64 o.f, .int .i64 o.a, .int .i64 o.d], .bool (rightB o)]) (by simp [results, Try.results48, go_sem, *]) rfl ?_
          refine ⟨by rw [Hoq.out, Hokq.out, Hok.out, hbe, Bool.true_and], ?_⟩
          have hbR' : Below w.heap.size w9 wR := (Below.drew (Below.refl _ _)).trans (hbR.mono (by first | omega | (simp; omega)))
          exact ((((Hb9.out.trans hbR').setCell (by simp) _).setCell (by simp) _).setCell (by simp) _).setCell (by simp) _
      · have hbe : (s4 == s26) = false := by simp [heq]
        have Heq := Lib.hid heq
        clear heq
        go_region_with ((go_at_call 25; refine (HsumH.out _ (by exact Hls9.out)).mono ?_; rintro e w' ⟨rfl, rfl⟩))
        all_goals
          go_wp2
          refine bodyPost_ret (v := .tuple #[.agg #[.int .i64 o.n, .int .i64 o.f, .int .i64 o.a, .int .i64 o.d], .bool false]) (by simp [results, Try.results48, go_sem, *]) rfl ?_
          refine ⟨by rw [Hoq.out, Hokq.out, Hok.out, hbe, Bool.false_and], ?_⟩
          have hb9 := Hb9.out
          clear n0 n1 n2 n3 m4 r0 r1 r2 r3 f0 f1 f2 f3 HsumH
          exact (by repeat' (first | with_reducible exact Below.refl _ _ | with_reducible assumption | with_reducible refine below_drewN ?_ _ | with_reducible refine Below.drew ?_ | with_reducible refine Below.alloc ?_ ?_ _ | with_reducible refine Below.setCell ?_ ?_ _ | with_reducible refine Below.trans ?_ (Below.mono (by with_reducible assumption) ?_) | with_reducible refine below_only ?_ (by with_reducible assumption) ?_ ?_ | (simp; done) | (simp; omega) | omega))
end Go.Proofs.Ytbkfdpdcnjecbaa
