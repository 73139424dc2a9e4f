/- Contract: rects (regions): the rectangles of bands. -/
import Derived.Test.YtpcfhcdbibklcaaGreatR4
namespace Go.Proofs.YtpcfhcdbibklcaaGreat
open Go.RowKit
set_option linter.unusedVariables false
set_option linter.unusedSimpArgs false

/-- A slice of bands. -/
structure SlB (w : World) (A : Option Addr) (n c : Nat) (bs : List (Sg (List (Sg Unit)))) (vs : List Value) : Prop where
  len : bs.length = n
  vlen : vs.length = bs.length
  cap : n ≤ c
  top : c ≤ maxLen
  lies : Lies w A n (bCells bs vs)
  sl : ∀ i (h : i < bs.length) (h' : i < vs.length), SlS w vs[i] bs[i].2.2
theorem SlB.below {w w' : World} {A : Option Addr} {n c : Nat} {bs : List (Sg (List (Sg Unit)))} {vs : List Value} (h : SlB w A n c bs vs) (hb : Below w.heap.size w w') : SlB w' A n c bs vs :=
  ⟨h.len, h.vlen, h.cap, h.top, h.lies.below hb, fun i h1 h2 => (h.sl i h1 h2).below hb⟩
theorem flat_take_succ (bs : List (Sg (List (Sg Unit)))) (k : Nat) (h : k < bs.length) : flat (bs.take (k + 1)) = flat (bs.take k) ++ bandR bs[k].1 bs[k].2.1 bs[k].2.2 := by
  rw [List.take_succ_eq_append_getElem h, flat_app, flat_one]
theorem bandR_take_succ (y z : Int) (l : List (Sg Unit)) (k : Nat) (h : k < l.length) : bandR y z (l.take (k + 1)) = bandR y z (l.take k) ++ [⟨l[k].1, y, l[k].2.1, z⟩] := by
  rw [List.take_succ_eq_append_getElem h, bandR_snoc]

set_option maxHeartbeats 8000000 in
set_option maxRecDepth 100000 in
theorem rects_any (A : Option Addr) (n c : Nat) (bs : List (Sg (List (Sg Unit)))) (vs : List Value) (w : World) (h : SlB w A n c bs vs) (hf : (flat bs).length ≤ 10000000) :
    Calls Tryz.prog 86 #[.slice A n c] w fun e w' => ∃ v, e = .returned v ∧ w'.ownsRow w.heap.size 58 4 v (flat bs).length (rCells (flat bs)) ∧ Below w.heap.size w w' := by
  obtain ⟨i0, hi, hz0, hz1, hz2⟩ := info_parts Tryz.infoRect
  have hn := h.len
  have H := Lib.hid h
  have Hf := Lib.hid hf
  have hnm := Nat.le_trans h.cap h.top
  unfold maxLen at hnm
  clear h hf
  go_enter Tryz.func86, Tryz.ntmps86
  go_upto_region 3 with fail
  go_loopw [3, 5, 7, 10] (fun o _ _ i wr => ∃ j : Nat, j ≤ n ∧ i = .int .i64 (j : Int) ∧ wr.ownsRow w.heap.size 58 4 o (flat (bs.take j)).length (rCells (flat (bs.take j))) ∧ Below w.heap.size w wr) (fun _ _ _ i _ => n - (intOf i).toNat)
  case atStart => exact ⟨0, Nat.zero_le _, rfl, World.ownsRow_nil _ _ _ _, Below.refl _ _⟩
  case round =>
    obtain ⟨wo, rfl⟩ : ∃ wo : World, wo = wr := ⟨_, rfl⟩
    obtain ⟨j, hj, rfl, hown, hbo⟩ := hrel
    have hso := hbo.size
    have Hown := Lib.hid hown
    have Hbo := Lib.hid hbo
    clear hown
    by_cases hjn : j < n
    · have hjl : j < bs.length := by omega
      have hjv : j < vs.length := by have := H.out.vlen; omega
      obtain ⟨b, off, hAe, hb, hcs⟩ := H.out.lies.resolve_left (by omega)
      obtain ⟨i1, i2, i3⟩ := bCells_at bs vs H.out.vlen j hjl hjv
      have c0 := (hbo.cell (p := ⟨b, off + j * 3, none⟩) hb).trans (hcs _ _ i1)
      have c1 := (hbo.cell (p := ⟨b, off + j * 3 + 1, none⟩) hb).trans (hcs _ _ i2)
      have c2 := (hbo.cell (p := ⟨b, off + j * 3 + 2, none⟩) hb).trans (hcs _ _ i3)
      obtain ⟨P, pc, hv, hpc, hpm, hPl⟩ := H.out.sl j hjl hjv
      have Hnext := Lib.hid (flat_take_succ bs j hjl)
      have hfl : (flat (bs.take j)).length + (bs[j].2.2).length ≤ 10000000 := by
        have h1 := Hf.out
        have h2 := congrArg List.length (congrArg flat (List.take_append_drop (j + 1) bs))
        rw [flat_app, List.length_append, Hnext.out, List.length_append, bandR_len] at h2
        omega
      rw [hv] at c2
      have HPl := Lib.hid hPl
      have hjn' : (j : Int) < (n : Int) := by omega
      have hbs : b < wo.heap.size := by omega
      subst hAe
      generalize bs[j] = bd at *
      obtain ⟨lo, hi', sp⟩ := bd
      generalize flat (bs.take j) = dn at *
      simp only at c0 c1 c2 hfl hpc HPl
      have Hnext2 : Hid (flat (bs.take (j + 1)) = dn ++ bandR lo hi' sp) := Lib.hid Hnext.out
      have hnx : ∃ nx, flat (bs.take (j + 1)) = nx := ⟨_, rfl⟩
      clear hbo hcs i1 i2 i3 hv hPl Hnext
      go_upto_region 6 with fail
      obtain ⟨wb, hwb⟩ : ∃ wb : World, wb = wo.alloc (.cells #[.int .i64 lo, .int .i64 hi', .slice P sp.length pc] 127) := ⟨_, rfl⟩
      rw [← hwb]
      have hq : wb.heap[wo.heap.size]? = some (.cells #[.int .i64 lo, .int .i64 hi', .slice P sp.length pc] 127 (0, 0)) := by rw [hwb]; exact heap_alloc_new wo _
      have hsb : wo.heap.size < wb.heap.size := by rw [hwb]; simp
      have Hbb : Hid (Below w.heap.size w wb) := Lib.hid (by rw [hwb]; exact Hbo.out.alloc hso _)
      have Hownb : Hid (wb.ownsRow w.heap.size 58 4 u3 dn.length (rCells dn)) := Lib.hid (by rw [hwb]; exact Hown.out.alloc _)
      have Hnew : Hid (∀ k, u3.ownBlock = some k → k ≠ wo.heap.size) := Lib.hid (fun k hk e => own_fresh Hown.out (by rw [hk, e]))
      have Hq := Lib.hid hq
      clear hwb hq c0 c1 c2
      go_loopw [3, 7, 17] (fun o _ i wr => ∃ k : Nat, k ≤ sp.length ∧ i = .int .i64 (k : Int) ∧ wr.ownsRow w.heap.size 58 4 o (dn ++ bandR lo hi' (sp.take k)).length (rCells (dn ++ bandR lo hi' (sp.take k))) ∧ Below w.heap.size w wr ∧ wr.heap[wo.heap.size]? = some (.cells #[.int .i64 lo, .int .i64 hi', .slice P sp.length pc] 127 (0, 0)) ∧ Hid (∀ k, o.ownBlock = some k → k ≠ wo.heap.size) ∧ wo.heap.size < wr.heap.size) (fun _ _ i _ => sp.length - (intOf i).toNat)
      case atStart => exact ⟨0, Nat.zero_le _, rfl, by simpa [bandR] using Hownb.out, Hbb.out, Hq.out, Hnew, hsb⟩
      case round =>
        obtain ⟨k, hk, rfl, hown2, hbw, hq2, Hne, hlt⟩ := hrel
        have Hown2 := Lib.hid hown2
        have Hbw := Lib.hid hbw
        have Hq2 := Lib.hid hq2
        have hsw := hbw.size
        by_cases hkn : k < sp.length
        · obtain ⟨b2, o2, rfl, hb2, hcs2⟩ := (HPl.out.below hbw).resolve_left (by omega)
          obtain ⟨j1, j2⟩ := sCells_at sp k hkn
          have s0 := hcs2 _ _ j1
          have s1 : wr.cell? ⟨b2, o2 + k * 2 + 1, none⟩ = some (.int .i64 sp[k].2.1) := hcs2 _ _ j2
          have Hstep := Lib.hid (bandR_take_succ lo hi' sp k hkn)
          have hlen2 : (dn ++ bandR lo hi' (sp.take k)).length ≤ 10000000 := by rw [List.length_append, bandR_len, List.length_take]; omega
          have hkn' : (k : Int) < (sp.length : Int) := by omega
          generalize sp[k] = s at *
          generalize bandR lo hi' (sp.take k) = bk at *
          have q0 := cell_of_row wr wo.heap.size 0 _ _ _ hq2
          have q1 := cell_of_row wr wo.heap.size 1 _ _ _ hq2
          have q2 := cell_of_row wr wo.heap.size 2 _ _ _ hq2
          clear hown2 hbw hq2 hcs2 j1 j2
          go_wp2_with (first
            | (at_builtin
               refine wpList_append_any _ rfl (.tmp 21) (.tmp 31) _ rfl w.heap.size 58 i0 _ 4 32 Tryz.underlying23 hi hz0 hz1 hz2 rfl (by omega) _ (dn ++ bk).length (rCells (dn ++ bk)) rfl
                 ((Hown2.out.alloc _).alloc _) _ _ 1 1 [.int .i64 s.1, .int .i64 lo, .int .i64 s.2.1, .int .i64 hi'] rfl ⟨rfl, fun _ => ⟨_, rfl, Nat.lt_succ_self _, fun j u hu => (by exact World.news_of_block (heap_alloc2_new wr _ (.cells #[.int .i64 s.1, .int .i64 lo, .int .i64 s.2.1, .int .i64 hi'] 58)) j u hu)⟩⟩ (by simp [Value.oneCell']) (by simp only [maxLen]; omega) (by omega) (by simp; omega) ?_
               intro v5 w5 hown5 hg5 hat5)
            | fail)
          go_roundw
          case rel =>
            have hsz5 := hg5.size
            simp at hsz5
            refine ⟨k + 1, by omega, by go_num, ?_, ?_, ?_, Lib.hid (fun g hg e => ?_), by omega⟩
            · rw [Hstep.out, ← List.append_assoc, List.length_append, rCells_snoc]
              exact hown5
            · exact Below.grown (((Hbw.out.alloc hsw _).alloc (by simp; omega) _)) hg5 (by simp; omega) (own_base Hown2.out)
            · refine (hg5.block wo.heap.size (by simp; omega) (fun e => Hne.out _ e.symm rfl)).trans ?_
              exact (Below.heap_alloc _ _ _ (by simp; omega)).trans ((Below.heap_alloc wr _ _ hlt).trans Hq2.out)
            · rcases hat5 with h | h
              · rw [h] at hg
                exact Hne.out g hg e
              · rw [h] at hg
                simp at hg
                omega
          case measure => simp [intOf]; omega
        · have Hown3 : Hid (wr.ownsRow w.heap.size 58 4 u3 (dn ++ bandR lo hi' sp).length (rCells (dn ++ bandR lo hi' sp))) := Lib.hid (by have := Hown2.out; rw [List.take_of_length_le (by omega)] at this; exact this)
          have hkn' : ¬ (k : Int) < (sp.length : Int) := by omega
          clear hown2 hbw hq2
          go_wp2
          go_roundw
          case rel => exact ⟨j + 1, by omega, by go_num, by rw [Hnext2.out]; exact Hown3.out, Hbw.out⟩
          case measure => simp [intOf]; omega
    · have Hown3 : Hid (wo.ownsRow w.heap.size 58 4 u3 (flat bs).length (rCells (flat bs))) := Lib.hid (by have := Hown.out; rw [List.take_of_length_le (by omega)] at this; exact this)
      have hjn' : ¬ (j : Int) < (n : Int) := by omega
      clear hbo
      go_wp2
      go_ret
      exact ⟨_, rfl, Hown3.out, Hbo.out⟩
end Go.Proofs.YtpcfhcdbibklcaaGreat
