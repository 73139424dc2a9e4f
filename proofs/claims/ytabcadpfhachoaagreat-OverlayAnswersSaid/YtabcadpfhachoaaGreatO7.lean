/- Contract: pieces (overlay): what its iterator goes through, in boxes. -/
import Derived.Test.YtabcadpfhachoaaGreatO2
import Derived.Test.YtabcadpfhachoaaGreatO6
import Derived.Test.YtabcadpfhachoaaGreatYR
import Derived.Test.YtabcadpfhachoaaGreatR7
namespace Go.Proofs.YtabcadpfhachoaaGreat
open Go.RowKit Go.Shelf
set_option linter.unusedVariables false
set_option linter.unusedSimpArgs false

theorem Tryz.infoRects : (Tryz.prog.info? 32).map (fun i => (i.zero, i.size, i.bytes)) = some (some (.slice none 0 0), 1, 24) := by kernel_rfl
theorem ownsRow_but {e' : TypeId} {W W' : World} {base : Nat} {e : TypeId} {size n : Nat} {v : Value} {xs : List Value} (h : W.ownsRow base e size v n xs) (hb : CellsBut e' W W') (he : e ≠ e') : W'.ownsRow base e size v n xs := by
  obtain ⟨h1, h2⟩ := h
  refine ⟨h1, ?_⟩
  rcases h2 with h2 | ⟨g, cap, cur, hv, hx, hh, r⟩
  · exact Or.inl h2
  · exact Or.inr ⟨g, cap, cur, hv, hx, hb.same _ _ _ _ he hh, r⟩
/-- What the iterator has captured: the cuts, the regions, their rectangles. -/
structure PcAt (W : World) (n₀ bc bl bL : Nat) (A : Option Addr) (n c : Nat) (l : RL) : Prop where
  lt : bc < W.heap.size ∧ bl < W.heap.size ∧ bL < W.heap.size
  regs : W.heap[bl]? = some (.cells #[.slice A n c] 25 (0, 0))
  len : l.length = n
  lists : ∃ v, W.heap[bL]? = some (.cells #[v] 87 (0, 0)) ∧ W.ownsRow n₀ 32 1 v n (rgCells l)
  cuts : ∃ v, W.heap[bc]? = some (.cells #[v] 22 (0, 0)) ∧ W.ownsRow n₀ 3 1 v (cutsP (rgs l).flatten).length ((cutsP (rgs l).flatten).map (.int .i64))
theorem PcAt.but {W W' : World} {n₀ bc bl bL : Nat} {A : Option Addr} {n c : Nat} {l : RL} (h : PcAt W n₀ bc bl bL A n c l) (hb : CellsBut 42 W W') : PcAt W' n₀ bc bl bL A n c l := by
  obtain ⟨v, h1, h2⟩ := h.lists
  obtain ⟨u, h3, h4⟩ := h.cuts
  have hs := hb.size
  have hl := h.lt
  exact ⟨⟨by omega, by omega, by omega⟩, hb.same _ _ _ _ (by decide) h.regs, h.len, ⟨v, hb.same _ _ _ _ (by decide) h1, ownsRow_but h2 hb (by decide)⟩, u, hb.same _ _ _ _ (by decide) h3, ownsRow_but h4 hb (by decide)⟩
/-- What pieces leaves. -/
def PcPost (w : World) (A : Option Addr) (n c : Nat) (l : RL) (e : Ending) (w' : World) : Prop :=
  ∃ bc bl bL, e = .returned (.func (.func 56) #[] #[.pointer (some ⟨bc, 0, none⟩), .pointer (some ⟨bl, 0, none⟩), .pointer (some ⟨bL, 0, none⟩)]) ∧ PcAt w' w.heap.size bc bl bL A n c l ∧ w.heap.size ≤ bc ∧ w.heap.size ≤ bl ∧ w.heap.size ≤ bL ∧ Below w.heap.size w w'

theorem rgCells_take (l : RL) (k : Nat) (h : k < l.length) : rgCells (l.take (k + 1)) = rgCells (l.take k) ++ [rgC l[k]] := by
  unfold rgCells
  rw [List.take_succ_eq_append_getElem h, List.map_append]
  rfl

set_option maxHeartbeats 8000000 in
set_option maxRecDepth 100000 in
theorem pieces_any (A : Option Addr) (n c : Nat) (l : RL) (w : World) (hA : SlG w A n c l) (hn : n ≤ 12) (hs : (rgs l).flatten.length ≤ 100000) :
    Calls Tryz.prog 28 #[.slice A n c] w (PcPost w A n c l) := by
  obtain ⟨i0, hi, hz0, hz1, hz2⟩ := info_parts Tryz.infoRects
  have hx := hA.len
  have HA := Lib.hid hA
  have Hs := Lib.hid hs
  clear hA hs
  go_enter Tryz.func28, Tryz.ntmps28
  go_upto_region 3 with fail
  go_loopw [5, 9] (fun _ i wr => ∃ (k : Nat) (v : Value), k ≤ n ∧ i = .int .i64 (k : Int) ∧ wr.heap[w.heap.size]? = some (.cells #[.slice A n c] 25 (0, 0)) ∧ wr.heap[w.heap.size + 1]? = some (.cells #[v] 87 (0, 0)) ∧ wr.ownsRow (w.heap.size + 2) 32 1 v k (rgCells (l.take k)) ∧ Below w.heap.size w wr) (fun _ i _ => n - (intOf i).toNat)
  case atStart =>
    refine ⟨0, .slice none 0 0, Nat.zero_le _, rfl, (Below.heap_alloc _ _ _ (by simp)).trans (heap_alloc_new w _), heap_alloc2_new w _ _, World.ownsRow_nil _ _ _ _, (by repeat' (first | with_reducible exact Below.refl _ _ | with_reducible refine below_drewN ?_ _ | with_reducible refine Below.drew ?_ | with_reducible refine Below.alloc ?_ ?_ _ | with_reducible refine Below.setCell ?_ ?_ _ | with_reducible refine Below.trans ?_ (Below.mono (by with_reducible assumption) ?_) | (simp; done) | (simp; omega) | omega))⟩
  case round =>
    obtain ⟨k, v, hk, rfl, hbl, hbL, hown, hbw⟩ := hrel
    have Hbl := Lib.hid hbl
    have HbL := Lib.hid hbL
    have Hown := Lib.hid hown
    have Hbw := Lib.hid hbw
    have hsw := hbw.size
    have c0 := cell_of_row _ _ 0 _ _ _ hbl
    have c1 := cell_of_row _ _ 0 _ _ _ hbL
    have f1 := frozen_of_row _ _ 0 _ _ hbL
    have hlt1 : w.heap.size + 1 < wr.heap.size := (Array.getElem?_eq_some_iff.1 hbL).1
    clear hbl hbL hown hbw
    by_cases hkn : k < n
    · have hkl : k < l.length := by omega
      obtain ⟨b, off, rfl, hb, c2, hsl⟩ := (HA.out.below Hbw.out).at k hkl
      have Hnext := Lib.hid (rgCells_take l k hkl)
      have Hrg : Hid (rgC l[k] = .slice l[k].2.a l[k].1.length l[k].2.c) := Lib.hid rfl
      obtain ⟨a0, ha0⟩ : ∃ a0, l[k].2.a = a0 := ⟨_, rfl⟩
      obtain ⟨n0, hn0⟩ : ∃ n0, l[k].1.length = n0 := ⟨_, rfl⟩
      obtain ⟨c9, hc9⟩ : ∃ c9, l[k].2.c = c9 := ⟨_, rfl⟩
      rw [ha0, hn0, hc9] at Hrg c2
      have hkn' : (k : Int) < (n : Int) := by omega
      have hlen : (rgCells (l.take k)).length = k := by simp [rgCells]; omega
      have Hlen := Lib.hid hlen
      clear hsl hlen ha0 hn0 hc9
      obtain ⟨LA, lc, rfl, _, _, _⟩ := own_slice Hown.out
      go_wp2_with (first
        | (at_builtin
           refine wpList_append_any _ rfl (.tmp 13) (.tmp 16) _ rfl (w.heap.size + 2) 32 i0 _ 1 24 Tryz.underlying87 hi hz0 hz1 hz2 rfl (by omega) _ k (rgCells (l.take k)) rfl
             ((Hown.out.alloc _).alloc _) _ _ 1 1 [.slice a0 n0 c9] rfl ⟨rfl, fun _ => ⟨_, rfl, Nat.lt_succ_self _, fun j u hu => (by exact World.news_of_block (heap_alloc2_new wr _ (.cells #[.slice a0 n0 c9] 32)) j u hu)⟩⟩ (by simp [Value.oneCell']) (by simp only [maxLen]; omega) (by omega) (by simp; omega) ?_
           intro v5 w5 hown5 hg5 hat5
           obtain ⟨VA, vc, rfl, _, _, _⟩ := own_slice hown5
           have Hown5 := Lib.hid hown5
           have hob := own_base Hown.out
           have hL5 : w5.heap[w.heap.size + 1]? = some (.cells #[.slice LA k lc] 87 (0, 0)) := (hg5.block _ (by simp; omega) (fun e => by have := hob _ e.symm; omega)).trans ((Below.heap_alloc _ _ _ (by simp; omega)).trans ((Below.heap_alloc _ _ _ (by omega)).trans HbL.out))
           have hl5 : w5.heap[w.heap.size]? = some (.cells #[.slice (some ⟨b, off, none⟩) n c] 25 (0, 0)) := (hg5.block _ (by simp; omega) (fun e => by have := hob _ e.symm; omega)).trans ((Below.heap_alloc _ _ _ (by simp; omega)).trans ((Below.heap_alloc _ _ _ (by omega)).trans Hbl.out))
           have HL5 := Lib.hid hL5
           have Hl5 := Lib.hid hl5
           have c5 := cell_of_row _ _ 0 _ _ _ hL5
           have f5 := frozen_of_row _ _ 0 _ _ hL5
           have Hb5 : Hid (Below w.heap.size w w5) := Lib.hid (((Hbw.out.alloc hsw _).alloc (by simp; omega) _).grown hg5 (by simp; omega) (fun x hx => by have := hob x hx; omega))
           clear hown5 hg5 hat5 hob hL5 hl5)
        | fail)
      go_roundw
      case rel =>
        refine ⟨k + 1, .slice VA (k + 1) vc, by omega, by go_num, ?_, ?_, ?_, ?_⟩
        · exact (Below.heap_setCell _ _ _ _ (by simp)).trans Hl5.out
        · rw [heap_setCell_same _ _ _ _ _ _ HL5.out]; rfl
        · rw [Hnext.out, Hrg.out]
          exact own_setNe Hown5.out (fun g hg => by have := own_base Hown5.out g hg; simp; omega) _
        · exact Hb5.out.setCell (by simp) _
      case measure => simp [intOf]; omega
    · have hkn' : ¬ (k : Int) < (n : Int) := by omega
      obtain rfl : k = n := by omega
      have Hown2 : Hid (wr.ownsRow (w.heap.size + 2) 32 1 v k (rgCells l)) := Lib.hid (by have := Hown.out; rw [List.take_of_length_le (by omega)] at this; exact this)
      have Hk : Hid (l.length = k) := Lib.hid hx
      obtain ⟨LA, lc, rfl, hL1, _, _⟩ := own_slice Hown.out
      have HX : Hid (∀ i, (h : i < (rgs l).length) → ∃ b off A n c, LA = some ⟨b, off, none⟩ ∧ b < wr.heap.size ∧ wr.cell? ⟨b, off + i, none⟩ = some (.slice A n c) ∧ SlR wr A n c (rgs l)[i]) := Lib.hid (by
        intro i hi
        have hil : i < l.length := by rw [rgs_len] at hi; exact hi
        rcases Lies.of_own Hown2.out with h0 | ⟨b, off, rfl, hb, hc⟩
        · omega
        · refine ⟨b, off, l[i].2.a, l[i].1.length, l[i].2.c, rfl, hb, hc i _ ?_, ?_⟩
          · simp [rgCells, hil, rgC]
          · have := HA.out.fits _ (List.getElem_mem hil)
            simp only [rgs, List.getElem_map]
            exact this.below Hbw.out)
      have Hrl : Hid ((rgs l).length = k) := Lib.hid (by rw [rgs_len]; exact hx)
      clear Hown hL1 hx
      go_wp2_with (first
        | (go_at_call 55
           refine (cuts_any LA k lc (rgs l) _ Hrl.out (by omega) HX.out Hs.out).mono ?_
           rintro e w6 ⟨v6, rfl, hown6, hb6⟩
           obtain ⟨CA, cc, rfl, _, _, _⟩ := own_slice hown6
           have Hown6 := Lib.hid hown6
           have Hb6 := Lib.hid hb6
           have hs6 := hb6.size
           clear hown6 hb6)
        | fail)
      go_ret
      have hB6 := Hb6.out
      have hlow : ∀ g o, g < wr.heap.size → wr.heap[g]? = o → (w6.alloc (.cells #[.slice CA (cutsP (rgs l).flatten).length cc] 22)).heap[g]? = o := fun g o hg ho => (Below.heap_alloc _ _ _ (by omega)).trans ((hB6.block _ hg).trans ho)
      refine ⟨w6.heap.size, w.heap.size, w.heap.size + 1, rfl, ⟨by simp; omega, hlow _ _ (by omega) Hbl.out, Hk.out, ⟨_, hlow _ _ (by omega) HbL.out, ?_⟩, _, heap_alloc_new w6 _, ?_⟩, by omega, Nat.le_refl _, by omega, ?_⟩
      · exact own_rebase (own_keep Hown2.out (fun b hb _ => hlow b _ hb rfl)) (by omega)
      · exact own_rebase (Hown6.out.alloc _) (by omega)
      · exact (Hbw.out.trans (hB6.mono (by omega))).alloc (by omega) _
end Go.Proofs.YtabcadpfhachoaaGreat
