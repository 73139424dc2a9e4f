/- Contract: the sanity check of the top's laws. -/
import Derived.Test.YtfmkmhhghmdakaaGreatDoorSh
import Derived.Lib.Bytealg
import Derived.Laws.RangeString
import Derived.Deep.OwnRows
import Derived.RangeFuncNested
import Derived.RangeFuncBound
import Derived.RangeFuncCalls
import Derived.RangeFuncLeaves
import Derived.Shelf.Abstract
import Derived.Shelf.RegionOpen
import Derived.OwnWalkIn
import Derived.TacticsInMore
import Derived.LoopNIn
import Derived.LoopIn
import Derived.Sort.CutIn
import Derived.Test.YtfmkmhhghmdakaaGreatDoorShT
import Derived.Test.YtfmkmhhghmdakaaGreatDoorQA
import Derived.Test.YtfmkmhhghmdakaaGreatDoorQB
import Derived.Test.YtfmkmhhghmdakaaGreatDoorQC
import Derived.Test.YtfmkmhhghmdakaaGreatDoorQD
import Derived.Test.YtfmkmhhghmdakaaGreatDoorQG
namespace Go.Proofs.YtfmkmhhghmdakaaGreatDoor
open Go.RowKit
set_option linter.unusedVariables false
set_option linter.unusedSimpArgs false

def sqL : List R4 := [⟨0, 0, 10, 10⟩]
def sqE : List R4 := [⟨0, 0, 10, 0⟩, ⟨10, 0, 10, 10⟩, ⟨10, 10, 0, 10⟩, ⟨0, 10, 0, 0⟩]
def sqC : List (R4 × List R4) := [(⟨0, 0, 10, 0⟩, [⟨10, 0, 10, 10⟩, ⟨10, 10, 0, 10⟩, ⟨0, 10, 0, 0⟩])]
def sqR : List Pt := [(0, 0), (10, 0), (10, 10), (0, 10)]
theorem sq_pos : ∀ q ∈ sqL, q.l < q.r := by decide
theorem sq_of : ofP sqL = (sqL, 0) := by
  rw [ofP_eq]
  decide
theorem sq_valid : validP sqL = true := by
  unfold validP
  rw [canonP_comb _ sq_pos]
  decide
theorem sq_area : areaP sqL = 100 := by unfold areaP; rw [sq_valid]; decide
theorem sq_in : InS (10 : Nat) sqL := by
  intro q hq
  simp [sqL] at hq
  rcases hq with rfl
  simp
theorem sq_sd : Sd (inL sqL) 10 := fun x y h => by
  have := (inL_grid sq_in).bd x y h
  omega
theorem sq_set : ESet (inL sqL) sqE := by
  have hlen : ∀ e ∈ sqE, lenE e = 10 := by decide
  have hdir : ∀ e ∈ sqE, ∀ f ∈ sqE, dirOf e = dirOf f → e = f := by decide
  have hon : ∀ e ∈ sqE, ∀ j : Nat, j < 10 → bd (inL sqL) (mv (dirOf e) j (frOf e)) (dirOf e) = true := by
    intro e he j hj
    have key : ∀ e ∈ sqE, ∀ j ∈ List.range 10, bd (inL sqL) (mv (dirOf e) (j : Nat) (frOf e)) (dirOf e) = true := by decide
    exact key e he j (List.mem_range.2 hj)
  refine ⟨?_, fun e he p d hc => ?_, fun p d hb => ?_, by decide, fun e he f hf p d h1 h2 => hdir e he f hf (h1.1.symm.trans h2.1)⟩
  · intro e he
    simp [sqE] at he
    rcases he with rfl | rfl | rfl | rfl <;> simp [StE]
  · obtain ⟨rfl, j, hj, rfl⟩ := hc
    exact hon e he j (by rw [← hlen e he]; exact hj)
  · have hbd := sq_sd.bd hb
    obtain ⟨x, y⟩ := p
    dsimp only at hbd
    have hx : ∃ a : Nat, a ∈ List.range 11 ∧ x = (a : Int) := ⟨x.toNat, List.mem_range.2 (by omega), by omega⟩
    have hy : ∃ a : Nat, a ∈ List.range 11 ∧ y = (a : Int) := ⟨y.toNat, List.mem_range.2 (by omega), by omega⟩
    obtain ⟨a, ha, rfl⟩ := hx
    obtain ⟨b, hb', rfl⟩ := hy
    have key : ∀ a ∈ List.range 11, ∀ b ∈ List.range 11, ∀ d ∈ [Dr.ri, .up, .le, .dn], bd (inL sqL) ((a : Nat), (b : Nat)) d = true → ∃ e ∈ sqE, d = dirOf e ∧ ∃ j ∈ List.range 10, (((a : Nat) : Int), ((b : Nat) : Int)) = mv d (j : Nat) (frOf e) := by decide +kernel
    obtain ⟨e, he, h1, j, hj, h2⟩ := key a ha b hb' d (by cases d <;> simp) hb
    exact ⟨e, he, h1, j, by rw [hlen e he]; exact List.mem_range.1 hj, h2⟩
theorem sq_rings : Rings (inL sqL) sqE sqC := by
  refine ⟨fun c hc => ?_, by decide, by decide⟩
  simp [sqC] at hc
  rcases hc with rfl
  exact ⟨⟨⟨by decide, by decide⟩, ⟨by decide, by decide⟩, ⟨by decide, by decide⟩, by decide, by decide⟩, by decide, by decide⟩
theorem sq_res {rs : List (List Pt)} {err : Int} (h : RgRes sqL rs err) : rs = [sqR] ∧ err = 0 := by
  obtain ⟨cs, hr, h1⟩ := h.good sq_valid
  have hs := edges_set sqL sq_pos
  have hp := rings_perm2 hs sq_set hr sq_rings
  have hm : sqC.map ringOf = [sqR] := by decide
  rcases h1 with ⟨hb, _⟩ | ⟨_, rfl, h2, h3⟩
  · exfalso
    rw [bigR_perm hp] at hb
    unfold bigR at hb
    rw [hm] at hb
    rcases hb with hb | ⟨r, hr, hb⟩
    · simp [sqC] at hb
    · simp at hr
      rcases hr with rfl
      simp [sqR] at hb
  · refine ⟨sorted_uniq (h2.trans (hp.trans ?_)) (rings_strict hs hr h2 h3) ?_, rfl⟩
    · rw [hm]
    · decide
theorem sq_len : (edgesP sqL).length ≤ 100000 := by
  have := eset_len (edges_set sqL sq_pos) (n := 10) sq_sd
  omega
end Go.Proofs.YtfmkmhhghmdakaaGreatDoor
namespace Go.Proofs.YtfmkmhhghmdakaaGreatDoor
open Go.RowKit Go.Shelf
set_option linter.unusedVariables false
set_option linter.unusedSimpArgs false

theorem nameS_any (w : World) : Calls Tryz.prog 214 #[.string { data := #[115] }] w fun e w' => e = .returned (.bool true) ∧ w' = w := by
  go_enter Tryz.func214, Tryz.ntmps214
  go_wp2
  go_loop [8] (fun iv => iv = .int .i64 0 ∨ iv = .int .i64 1) (fun iv => 1 - (intOf iv).toNat)
  case atStart => exact .inl rfl
  case round =>
    rcases hrel with rfl | rfl
    · go_wp2
      go_round
      case rel => exact .inr rfl
      case measure => decide
    · go_wp2
      go_ret
      exact ⟨rfl, rfl⟩
theorem limits1_any (w : World) : Calls Tryz.prog 325 #[.int .i64 1] w fun e w' => e = .returned (.tuple #[.int .i64 0, .int .i64 0, .bool false]) ∧ w' = w := by
  go_enter Tryz.func325, Tryz.ntmps325
  go_wp2
  refine bodyPost_ret (v := .tuple #[.int .i64 0, .int .i64 0, .bool false]) (by simp [results, Tryz.results325, go_sem, *]) rfl ?_
  exact ⟨rfl, rfl⟩
theorem kids1_any (w : World) : Calls Tryz.prog 326 #[.int .i64 1] w fun e w' => e = .returned (.tuple #[.int .i64 0, .int .i64 0]) ∧ w' = w := by
  go_enter Tryz.func326, Tryz.ntmps326
  go_wp2
  refine bodyPost_ret (v := .tuple #[.int .i64 0, .int .i64 0]) (by simp [results, Tryz.results326, go_sem, *]) rfl ?_
  exact ⟨rfl, rfl⟩
set_option maxHeartbeats 1000000 in
theorem count1_any (w : World) : Calls Tryz.prog 271 #[.agg #[.int .i64 1, .int .i64 0, .int .i64 0, .slice none 0 0], .int .i64 40] w fun e w' => e = .returned (.int .i64 1) ∧ Below w.heap.size w w' := by
  go_enter Tryz.func271, Tryz.ntmps271
  go_wp2
  go_loop [5, 11] (fun nv iv => nv = .int .i64 1 ∧ iv = .int .i64 0) (fun _ _ => 0)
  case atStart => exact ⟨rfl, rfl⟩
  case round =>
    obtain ⟨rfl, rfl⟩ := hrel
    go_wp2
    go_ret
    exact ⟨rfl, (by repeat' (first | with_reducible exact Below.refl _ _ | with_reducible refine below_drewN ?_ _ | with_reducible refine Below.drew ?_ | with_reducible refine Below.alloc ?_ ?_ _ | with_reducible refine Below.setCell ?_ ?_ _ | with_reducible refine Below.trans ?_ (Below.mono (by with_reducible assumption) ?_) | (simp; done) | (simp; omega) | omega))⟩
set_option maxHeartbeats 1000000 in
theorem noKids_any (b : Array Value) (w : World) : Calls Tryz.prog 328 #[.slice none 0 0, .func (.func 329) #[] b] w fun e w' => e = .returned (.bool false) ∧ w' = w := by
  go_enter Tryz.func328, Tryz.ntmps328
  go_wp2
  go_loop [8] (fun iv => iv = .int .i64 0) (fun iv => 0)
  case atStart => rfl
  case round =>
    subst hrel
    go_wp2
    go_ret
    exact ⟨rfl, rfl⟩
set_option maxHeartbeats 4000000 in
theorem right1_any (w : World) : Calls Tryz.prog 272 #[.agg #[.int .i64 1, .int .i64 0, .int .i64 0, .slice none 0 0], .int .i64 8] w fun e w' => e = .returned (.bool true) ∧ Below w.heap.size w w' := by
  go_enter Tryz.func272, Tryz.ntmps272
  go_wp2_with (first
    | (go_at_call 325; refine (limits1_any _).mono ?_; rintro e w1 ⟨rfl, rfl⟩)
    | (go_at_call 326; refine (kids1_any _).mono ?_; rintro e w1 ⟨rfl, rfl⟩)
    | (go_at_call 328; refine (noKids_any _ _).mono ?_; rintro e w1 ⟨rfl, rfl⟩)
    | fail)
  go_ret
  exact ⟨rfl, (by repeat' (first | with_reducible exact Below.refl _ _ | with_reducible refine below_drewN ?_ _ | with_reducible refine Below.drew ?_ | with_reducible refine Below.alloc ?_ ?_ _ | with_reducible refine Below.setCell ?_ ?_ _ | with_reducible refine Below.trans ?_ (Below.mono (by with_reducible assumption) ?_) | (simp; done) | (simp; omega) | omega))⟩
set_option maxHeartbeats 4000000 in
theorem tcheck1_any (w : World) : Calls Tryz.prog 202 #[.agg #[.int .i64 1, .int .i64 0, .int .i64 0, .slice none 0 0]] w fun e w' => e = .returned (.int .i64 0) ∧ Below w.heap.size w w' := by
  go_enter Tryz.func202, Tryz.ntmps202
  go_wp2_with (first
    | (go_at_call 271; refine (count1_any _).mono ?_; rintro e w1 ⟨rfl, hb1⟩; have hl1 : w.heap.size < w1.heap.size := (by have := hb1.size; simp at this; omega); have hr1 : w1.heap[w.heap.size]? = some (.cells #[.int .i64 1, .int .i64 0, .int .i64 0, .slice none 0 0] 84 (0, 0)) := (hb1.block _ (by simp)).trans (heap_alloc_new w _); have c0 := cell_of_row w1 w.heap.size 0 _ _ _ hr1; have c1 := cell_of_row w1 w.heap.size 1 _ _ _ hr1; have c2 := cell_of_row w1 w.heap.size 2 _ _ _ hr1; have c3 := cell_of_row w1 w.heap.size 3 _ _ _ hr1; have Hb1 : Hid (Below w.heap.size w w1) := Lib.hid (by have hbq := hb1; exact (by repeat' (first | with_reducible exact Below.refl _ _ | with_reducible assumption | with_reducible refine below_drewN ?_ _ | with_reducible refine Below.drew ?_ | with_reducible refine Below.alloc ?_ ?_ _ | with_reducible refine Below.setCell ?_ ?_ _ | with_reducible refine Below.trans ?_ (Below.mono (by with_reducible assumption) ?_) | with_reducible refine below_only ?_ (by with_reducible assumption) ?_ ?_ | (simp; done) | (simp; omega) | omega))); clear hb1 hr1)
    | (go_at_call 272; refine (right1_any _).mono ?_; rintro e w2 ⟨rfl, hb2⟩; have Hb2 : Hid (Below w.heap.size w w2) := Lib.hid (Hb1.out.trans (hb2.mono (by omega))); clear hb2)
    | fail)
  go_ret
  exact ⟨rfl, Hb2.out⟩
set_option maxHeartbeats 4000000 in
theorem brackets1_any (g : Nat) (w : World) (h0 : w.cell? ⟨g, 0, none⟩ = some (.int .i64 1000)) (h1 : w.cell? ⟨g, 1, none⟩ = some (.int .i64 200)) :
    Calls Tryz.prog 232 #[.slice (some ⟨g, 0, none⟩) 1 1] w fun e w' => e = .returned (.bool true) ∧ Below w.heap.size w w' := by
  have Hc := Lib.hid (And.intro h0 h1)
  have hg := World.block_lt_of_cell? w _ h0
  dsimp only at hg
  clear h0 h1
  go_enter Tryz.func232, Tryz.ntmps232
  go_wp2
  go_loopw [7] (fun iv wr => (iv = .int .i64 0 ∨ iv = .int .i64 1) ∧ Below w.heap.size w wr) (fun iv _ => 1 - (intOf iv).toNat)
  case atStart => exact ⟨.inl rfl, Below.refl _ _⟩
  case round =>
    obtain ⟨hiv, hbw⟩ := hrel
    have Hbw := Lib.hid hbw
    have hsw := hbw.size
    clear hbw
    rcases hiv with rfl | rfl
    · have c0 := (Hbw.out.cell (p := ⟨g, 0, none⟩) hg).trans Hc.out.1
      have c1 := (Hbw.out.cell (p := ⟨g, 1, none⟩) hg).trans Hc.out.2
      go_upto_region 4 with fail
      obtain ⟨wx, hwx⟩ : ∃ wx : World, wx = wr.alloc (.cells #[.int .i64 1000, .int .i64 200] 115) := ⟨_, rfl⟩
      rw [← hwx]
      have hrx : wx.heap[wr.heap.size]? = some (.cells #[.int .i64 1000, .int .i64 200] 115 (0, 0)) := by rw [hwx]; exact heap_alloc_new wr _
      have x0 := cell_of_row wx wr.heap.size 0 _ _ _ hrx
      have x1 := cell_of_row wx wr.heap.size 1 _ _ _ hrx
      have Hbx : Hid (Below w.heap.size w wx) := Lib.hid (by rw [hwx]; exact Hbw.out.alloc hsw _)
      have hlx : wr.heap.size < wx.heap.size := by rw [hwx]; simp
      clear hwx hrx c0 c1
      go_quiet (fail)
      go_wp2
      go_roundw
      case rel => exact ⟨.inr rfl, below_drewN Hbx.out _⟩
      case measure => decide
    · go_wp2
      go_ret
      exact ⟨rfl, Hbw.out⟩
theorem fits1_any (w : World) : Calls Tryz.prog 225 #[.int .i64 20000, .int .i64 100] w fun e w' => e = .returned (.bool true) ∧ w' = w := by
  go_enter Tryz.func225, Tryz.ntmps225
  go_wp2
  go_ret
  exact ⟨rfl, rfl⟩
theorem down1_any (w : World) : Calls Tryz.prog 141 #[.int .i64 20000, .int .i64 100] w fun e w' => e = .returned (.int .i64 200) ∧ w' = w := by
  go_enter Tryz.func141, Tryz.ntmps141
  go_wp2_with (first
    | (go_at_call 225; refine (fits1_any _).mono ?_; rintro e w1 ⟨rfl, rfl⟩)
    | fail)
  go_ret
  exact ⟨rfl, rfl⟩
set_option maxHeartbeats 4000000 in
theorem svalid_any (g : Nat) (w : World) (h0 : w.cell? ⟨g, 0, none⟩ = some (.int .i64 1000)) (h1 : w.cell? ⟨g, 1, none⟩ = some (.int .i64 200)) :
    Calls Tryz.prog 152 #[.agg #[.int .i64 0, .string { data := #[115] }, .int .i64 1, .int .i64 0, .int .i64 0, .slice none 0 0, .slice (some ⟨g, 0, none⟩) 1 1, .int .i64 0, .int .i64 0, .bool false]] w fun e w' => e = .returned (.int .i64 0) ∧ Below w.heap.size w w' := by
  have Hc := Lib.hid (And.intro h0 h1)
  have hg := World.block_lt_of_cell? w _ h0
  dsimp only at hg
  clear h0 h1
  go_enter Tryz.func152, Tryz.ntmps152
  go_wp2_with (first
    | (go_at_call 214; refine (nameS_any _).mono ?_; rintro e w1 ⟨rfl, rfl⟩)
    | (go_at_call 202; refine (tcheck1_any _).mono ?_; rintro e w2 ⟨rfl, hb2⟩; have Hb2 : Hid (Below w.heap.size w w2) := Lib.hid (by have hbq := hb2; exact (by repeat' (first | with_reducible exact Below.refl _ _ | with_reducible assumption | with_reducible refine below_drewN ?_ _ | with_reducible refine Below.drew ?_ | with_reducible refine Below.alloc ?_ ?_ _ | with_reducible refine Below.setCell ?_ ?_ _ | with_reducible refine Below.trans ?_ (Below.mono (by with_reducible assumption) ?_) | with_reducible refine below_only ?_ (by with_reducible assumption) ?_ ?_ | (simp; done) | (simp; omega) | omega))); have hr2 := (hb2.block w.heap.size (by simp)).trans (heap_alloc_new w _); have c0 := cell_of_row w2 w.heap.size 0 _ _ _ hr2; have c6 := cell_of_row w2 w.heap.size 6 _ _ _ hr2; have Hr2 := Lib.hid (And.intro (show w.heap.size < w2.heap.size from by have := hb2.size; simp at this; omega) hr2); clear hb2 hr2)
    | (go_at_call 232; refine (brackets1_any g _ ((Hb2.out.cell (p := ⟨g, 0, none⟩) hg).trans Hc.out.1) ((Hb2.out.cell (p := ⟨g, 1, none⟩) hg).trans Hc.out.2)).mono ?_; rintro e w3 ⟨rfl, hb3⟩; have Hb3 : Hid (Below w.heap.size w w3) := Lib.hid (Hb2.out.trans (hb3.mono (by have := Hb2.out.size; omega))); have hr3 := (hb3.block w.heap.size (by have := Hr2.out.1; omega)).trans Hr2.out.2; have c03 := cell_of_row w3 w.heap.size 0 _ _ _ hr3; have c83 := cell_of_row w3 w.heap.size 8 _ _ _ hr3; clear hb3 hr3)
    | fail)
  go_ret
  exact ⟨rfl, Hb3.out⟩
set_option maxHeartbeats 4000000 in
/-- The amount of the example. -/
theorem amount_any (g : Nat) (w : World) (h0 : w.cell? ⟨g, 0, none⟩ = some (.int .i64 1000)) (h1 : w.cell? ⟨g, 1, none⟩ = some (.int .i64 200)) :
    Calls Tryz.prog 61 #[.agg #[.int .i64 0, .string { data := #[115] }, .int .i64 1, .int .i64 0, .int .i64 0, .slice none 0 0, .slice (some ⟨g, 0, none⟩) 1 1, .int .i64 0, .int .i64 0, .bool false], .int .i64 100] w fun e w' => e = .returned (.tuple #[.int .i64 200, .int .i64 0]) ∧ Below w.heap.size w w' := by
  have Hc := Lib.hid (And.intro h0 h1)
  have hg := World.block_lt_of_cell? w _ h0
  dsimp only at hg
  clear h0 h1
  go_enter Tryz.func61, Tryz.ntmps61
  go_upto_region 1 with fail
  obtain ⟨wx, hwx⟩ : ∃ wx : World, wx = w.alloc (.cells #[.int .i64 0, .string { data := #[115] }, .int .i64 1, .int .i64 0, .int .i64 0, .slice none 0 0, .slice (some ⟨g, 0, none⟩) 1 1, .int .i64 0, .int .i64 0, .bool false] 118) := ⟨_, rfl⟩
  rw [← hwx]
  have hrx : wx.heap[w.heap.size]? = some (.cells #[.int .i64 0, .string { data := #[115] }, .int .i64 1, .int .i64 0, .int .i64 0, .slice none 0 0, .slice (some ⟨g, 0, none⟩) 1 1, .int .i64 0, .int .i64 0, .bool false] 118 (0, 0)) := by rw [hwx]; exact heap_alloc_new w _
  have Hbx : Hid (Below w.heap.size w wx) := Lib.hid (by rw [hwx]; exact (by repeat' (first | with_reducible exact Below.refl _ _ | with_reducible refine below_drewN ?_ _ | with_reducible refine Below.drew ?_ | with_reducible refine Below.alloc ?_ ?_ _ | with_reducible refine Below.setCell ?_ ?_ _ | with_reducible refine Below.trans ?_ (Below.mono (by with_reducible assumption) ?_) | (simp; done) | (simp; omega) | omega)))
  have hlx : w.heap.size < wx.heap.size := by rw [hwx]; simp
  have HV := Lib.hid (svalid_any g wx ((Hbx.out.cell (p := ⟨g, 0, none⟩) hg).trans Hc.out.1) ((Hbx.out.cell (p := ⟨g, 1, none⟩) hg).trans Hc.out.2))
  have Hrx := Lib.hid hrx
  have x0 := cell_of_row wx w.heap.size 0 _ _ _ hrx
  have x1 := cell_of_row wx w.heap.size 1 _ _ _ hrx
  have x2 := cell_of_row wx w.heap.size 2 _ _ _ hrx
  have x3 := cell_of_row wx w.heap.size 3 _ _ _ hrx
  have x4 := cell_of_row wx w.heap.size 4 _ _ _ hrx
  have x5 := cell_of_row wx w.heap.size 5 _ _ _ hrx
  have x6 := cell_of_row wx w.heap.size 6 _ _ _ hrx
  have x7 := cell_of_row wx w.heap.size 7 _ _ _ hrx
  have x8 := cell_of_row wx w.heap.size 8 _ _ _ hrx
  have x9 := cell_of_row wx w.heap.size 9 _ _ _ hrx
  clear hwx hrx
  go_upto_region 6 with (first
    | (go_at_call 152
       refine HV.out.mono ?_
       rintro e w1 ⟨rfl, hb1⟩
       have Hb1 : Hid (Below w.heap.size w w1) := Lib.hid (Hbx.out.trans (hb1.mono (by omega)))
       have y6 := cell_of_row w1 w.heap.size 6 _ _ _ ((hb1.block _ hlx).trans Hrx.out)
       have hs1 := Hb1.out.size
       clear hb1)
    | fail)
  clear x0 x1 x2 x3 x4 x5 x6 x7 x8 x9
  go_upto_region 7 with fail
  go_loopw [6, 7, 22] (fun sv lv iv wr => ((sv = .int .i64 0 ∧ lv = .int .i64 0 ∧ iv = .int .i64 0) ∨ (sv = .int .i64 20000 ∧ lv = .int .i64 1000 ∧ iv = .int .i64 1)) ∧ Below w1.heap.size w1 wr) (fun _ _ iv _ => 1 - (intOf iv).toNat)
  case atStart => exact ⟨.inl ⟨rfl, rfl, rfl⟩, Below.refl _ _⟩
  case round =>
    obtain ⟨hiv, hbw⟩ := hrel
    have Hbw := Lib.hid hbw
    have hsw := hbw.size
    have Hb2 : Hid (Below w.heap.size w wr) := Lib.hid (Hb1.out.trans (hbw.mono hs1))
    clear hbw
    rcases hiv with ⟨rfl, rfl, rfl⟩ | ⟨rfl, rfl, rfl⟩
    · have c0 := (Hb2.out.cell (p := ⟨g, 0, none⟩) hg).trans Hc.out.1
      have c1 := (Hb2.out.cell (p := ⟨g, 1, none⟩) hg).trans Hc.out.2
      go_wp2
      go_roundw
      case rel => exact ⟨.inr ⟨rfl, rfl, rfl⟩, Hbw.out.alloc hsw _⟩
      case measure => decide
    · go_wp2_with (first
        | (go_at_call 141; refine (down1_any _).mono ?_; rintro e w3 ⟨rfl, rfl⟩)
        | fail)
      refine bodyPost_ret (v := .tuple #[.int .i64 200, .int .i64 0]) (by simp [results, Tryz.results61, go_sem, *]) rfl ?_
      exact ⟨rfl, Hb2.out⟩
end Go.Proofs.YtfmkmhhghmdakaaGreatDoor
namespace Go.Proofs.YtfmkmhhghmdakaaGreatDoor
open Go.RowKit Go.Shelf Go.Lib
set_option linter.unusedVariables false
set_option linter.unusedSimpArgs false

set_option maxHeartbeats 1000000 in
set_option maxRecDepth 100000 in
theorem countT_any (w : World) : Calls Tryz.prog 153 #[.string { data := #[97, 32, 98, 10] }, .string { data := #[10] }] w fun e w' => e = .returned (.int .i64 1) ∧ w' = w := by
  go_enter Tryz.func153, Tryz.ntmps153
  go_wp2
  rw [run_callFunc_extern Tryz.func234 (by kernel_rfl) (by kernel_rfl) (by kernel_rfl) (e := Extern.BytealgCount.count) (by kernel_rfl), Lib.run_countString]
  simp only [Result.andThen]
  rw [Oper.upon_value]
  go_wp2
  go_ret
  exact ⟨rfl, rfl⟩
theorem suffixT_any (w : World) : Calls Tryz.prog 236 #[.string { data := #[97, 32, 98, 10] }, .string { data := #[10] }] w fun e w' => e = .returned (.bool true) ∧ w' = w := by
  go_enter Tryz.func236, Tryz.ntmps236
  go_wp2
  go_ret
  exact ⟨by first | rfl | (simp; done) | kernel_rfl, rfl⟩
theorem hasT_any (w : World) : Calls Tryz.prog 154 #[.string { data := #[97, 32, 98, 10] }, .string { data := #[10] }] w fun e w' => e = .returned (.bool true) ∧ w' = w := by
  go_enter Tryz.func154, Tryz.ntmps154
  go_wp2_with (first
    | (go_at_call 236; refine (suffixT_any _).mono ?_; rintro e w1 ⟨rfl, rfl⟩)
    | fail)
  go_ret
  exact ⟨rfl, rfl⟩
theorem trimlT_any (w : World) : Calls Tryz.prog 241 #[.string { data := #[97, 32, 98, 10] }, .string { data := #[10] }] w fun e w' => e = .returned (.string { data := #[97, 32, 98] }) ∧ w' = w := by
  go_enter Tryz.func241, Tryz.ntmps241
  go_wp2_with (first
    | (go_at_call 236; refine (suffixT_any _).mono ?_; rintro e w1 ⟨rfl, rfl⟩)
    | fail)
  go_ret
  exact ⟨by first | rfl | (simp; done) | kernel_rfl, rfl⟩
theorem trimT_any (w : World) : Calls Tryz.prog 160 #[.string { data := #[97, 32, 98, 10] }, .string { data := #[10] }] w fun e w' => e = .returned (.string { data := #[97, 32, 98] }) ∧ w' = w := by
  go_enter Tryz.func160, Tryz.ntmps160
  go_wp2_with (first
    | (go_at_call 241; refine (trimlT_any _).mono ?_; rintro e w1 ⟨rfl, rfl⟩)
    | fail)
  go_ret
  exact ⟨rfl, rfl⟩
set_option maxHeartbeats 1000000 in
set_option maxRecDepth 100000 in
/-- Where a byte stands first. -/
theorem indexBl_any (s : ByteArray) (c : UInt8) (w : World) : Calls Tryz.prog 307 #[.string s, .int .u8 c.toNat] w fun e w' => e = .returned (.int .i64 (Lib.indexByte s.data.toList c)) ∧ w' = w := by
  go_enter Tryz.func307, Tryz.ntmps307
  go_wp2
  rw [run_callFunc_extern Tryz.func350 (by kernel_rfl) (by kernel_rfl) (by kernel_rfl) (e := Extern.BytealgIndexByte.indexByte) (by kernel_rfl), Lib.run_indexByteString]
  simp only [Result.andThen]
  rw [Oper.upon_value]
  go_wp2
  go_ret
  exact ⟨by first | rfl | (simp; done), rfl⟩
set_option maxHeartbeats 1000000 in
set_option maxRecDepth 100000 in
theorem indexLH_any (w : World) : Calls Tryz.prog 305 #[.string { data := #[97, 32, 98] }, .string { data := #[35] }] w fun e w' => e = .returned (.int .i64 (-1)) ∧ w' = w := by
  have hI := Lib.hid (fun W => indexBl_any ⟨#[97, 32, 98]⟩ 35 W)
  go_enter Tryz.func305, Tryz.ntmps305
  go_wp2_with (first
    | (go_at_call 307; refine (hI.out _).mono ?_; rintro e w1 ⟨rfl, rfl⟩)
    | fail)
  go_ret
  exact ⟨by first | rfl | kernel_rfl | (simp; done), rfl⟩
set_option maxHeartbeats 1000000 in
set_option maxRecDepth 100000 in
theorem indexLB_any (w : World) : Calls Tryz.prog 305 #[.string { data := #[97, 32, 98] }, .string { data := #[32] }] w fun e w' => e = .returned (.int .i64 1) ∧ w' = w := by
  have hI := Lib.hid (fun W => indexBl_any ⟨#[97, 32, 98]⟩ 32 W)
  go_enter Tryz.func305, Tryz.ntmps305
  go_wp2_with (first
    | (go_at_call 307; refine (hI.out _).mono ?_; rintro e w1 ⟨rfl, rfl⟩)
    | fail)
  go_ret
  exact ⟨by first | rfl | kernel_rfl | (simp; done), rfl⟩
theorem indexSB_any (w : World) : Calls Tryz.prog 235 #[.string { data := #[97, 32, 98] }, .string { data := #[32] }] w fun e w' => e = .returned (.int .i64 1) ∧ w' = w := by
  go_enter Tryz.func235, Tryz.ntmps235
  go_wp2_with (first
    | (go_at_call 305; refine (indexLB_any _).mono ?_; rintro e w1 ⟨rfl, rfl⟩)
    | fail)
  go_ret
  exact ⟨rfl, rfl⟩
theorem cutl_any (w : World) : Calls Tryz.prog 240 #[.string { data := #[97, 32, 98] }, .string { data := #[35] }] w fun e w' => e = .returned (.tuple #[.string { data := #[97, 32, 98] }, .string { data := #[] }, .bool false]) ∧ w' = w := by
  go_enter Tryz.func240, Tryz.ntmps240
  go_wp2_with (first
    | (go_at_call 305; refine (indexLH_any _).mono ?_; rintro e w1 ⟨rfl, rfl⟩)
    | fail)
  refine bodyPost_ret (v := .tuple #[.string { data := #[97, 32, 98] }, .string { data := #[] }, .bool false]) (by simp [results, Tryz.results240, go_sem, *]) rfl ?_
  exact ⟨rfl, rfl⟩
theorem cutT_any (w : World) : Calls Tryz.prog 159 #[.string { data := #[97, 32, 98] }, .string { data := #[35] }] w fun e w' => e = .returned (.tuple #[.string { data := #[97, 32, 98] }, .string { data := #[] }, .bool false]) ∧ w' = w := by
  go_enter Tryz.func159, Tryz.ntmps159
  go_wp2_with (first
    | (go_at_call 240; refine (cutl_any _).mono ?_; rintro e w1 ⟨rfl, rfl⟩)
    | fail)
  refine bodyPost_ret (v := .tuple #[.string { data := #[97, 32, 98] }, .string { data := #[] }, .bool false]) (by simp [results, Tryz.results159, go_sem, *]) rfl ?_
  exact ⟨rfl, rfl⟩
set_option maxHeartbeats 1000000 in
set_option maxRecDepth 100000 in
theorem countB_any (w : World) : Calls Tryz.prog 153 #[.string { data := #[97, 32, 98] }, .string { data := #[32] }] w fun e w' => e = .returned (.int .i64 1) ∧ w' = w := by
  go_enter Tryz.func153, Tryz.ntmps153
  go_wp2
  rw [run_callFunc_extern Tryz.func234 (by kernel_rfl) (by kernel_rfl) (by kernel_rfl) (e := Extern.BytealgCount.count) (by kernel_rfl), Lib.run_countString]
  simp only [Result.andThen]
  rw [Oper.upon_value]
  go_wp2
  go_ret
  exact ⟨rfl, rfl⟩
/-- Splitting two words. -/
theorem Tryz.infoStr : (Tryz.prog.info? 9).map (fun i => (i.zero, i.size, i.bytes)) = some (some (.string { data := #[] }), 1, 16) := by kernel_rfl
set_option maxHeartbeats 4000000 in
set_option maxRecDepth 100000 in
theorem gensplit_any (w : World) : Calls Tryz.prog 243 #[.string { data := #[97, 32, 98] }, .string { data := #[32] }, .int .i64 0, .int .i64 (-1)] w fun e w' => e = .returned (.slice (some ⟨w.heap.size, 0, none⟩) 2 2) ∧ Below w.heap.size w w' ∧ w'.heap[w.heap.size]? = some (.cells #[.string { data := #[97] }, .string { data := #[98] }] 9 (0, 0)) := by
  have hmk := fun W : World => run_make_row' (P := Tryz.prog) 97 9 (.string { data := #[] }) 16 Tryz.underlying97 Tryz.infoStr rfl .i64 .i64 2 (by omega) (by omega) W
  go_enter Tryz.func243, Tryz.ntmps243
  go_upto_region 9 with (first
    | (go_at_call 153; refine (countB_any _).mono ?_; rintro e w1 ⟨rfl, rfl⟩)
    | fail)
  obtain ⟨w, rfl⟩ : ∃ w : World, w = w1 := ⟨_, rfl⟩
  have hm2 : min (2 : Int) 4 = 2 := by decide
  simp only [hm2]
  have hmk2 : ∀ W : World, (Instr.makeSlice 97 (.int .i64 2) (.int .i64 2)).run Tryz.prog W = .ok (.slice (some ⟨W.heap.size, 0, none⟩) 2 2) (W.alloc (.cells (madeCells #[.string { data := #[] }] 2) 9)) := hmk
  clear hmk
  rw [hmk2]
  simp only [Result.andThen]
  rw [Oper.upon_value]
  clear hmk2 hm2
  go_upto_region 9 with fail
  obtain ⟨w1, hw1⟩ : ∃ w1 : World, w1 = w.alloc (.cells (madeCells #[.string { data := #[] }] 2) 9) := ⟨_, rfl⟩
  rw [← hw1]
  have hr1 : w1.heap[w.heap.size]? = some (.cells #[.string { data := #[] }, .string { data := #[] }] 9 (0, 0)) := by rw [hw1]; exact (heap_alloc_new w _).trans (by kernel_rfl)
  have Hb1 : Hid (Below w.heap.size w w1) := Lib.hid (by rw [hw1]; exact (by repeat' (first | with_reducible exact Below.refl _ _ | with_reducible refine below_drewN ?_ _ | with_reducible refine Below.drew ?_ | with_reducible refine Below.alloc ?_ ?_ _ | with_reducible refine Below.setCell ?_ ?_ _ | with_reducible refine Below.trans ?_ (Below.mono (by with_reducible assumption) ?_) | (simp; done) | (simp; omega) | omega)))
  have Hr1 := Lib.hid hr1
  clear hw1 hr1
  go_upto_region 11 with fail
  go_loopw [0, 10] (fun sv iv wr => (sv = .string { data := #[97, 32, 98] } ∧ iv = .int .i64 0 ∧ wr.heap[w.heap.size]? = some (.cells #[.string { data := #[] }, .string { data := #[] }] 9 (0, 0)) ∨ sv = .string { data := #[98] } ∧ iv = .int .i64 1 ∧ wr.heap[w.heap.size]? = some (.cells #[.string { data := #[97] }, .string { data := #[] }] 9 (0, 0))) ∧ Below w.heap.size w wr) (fun _ iv _ => 1 - (intOf iv).toNat)
  case atStart => exact ⟨.inl ⟨rfl, rfl, Hr1.out⟩, Hb1.out⟩
  case round =>
    obtain ⟨hiv, hbw⟩ := hrel
    have Hbw := Lib.hid hbw
    clear hbw
    rcases hiv with ⟨rfl, rfl, hr⟩ | ⟨rfl, rfl, hr⟩
    · have c0 := cell_of_row wr w.heap.size 0 _ _ _ hr
      have f0 := frozen_of_row wr w.heap.size 0 _ _ hr
      have hs0 := heap_setCell_same wr w.heap.size 0 _ _ (.string { data := #[97] }) hr
      have Hs0 := Lib.hid hs0
      clear hr hs0
      go_wp2_with (first
        | (go_at_call 235; refine (indexSB_any _).mono ?_; rintro e w1 ⟨rfl, rfl⟩)
        | fail)
      go_roundw
      case rel => exact ⟨.inr ⟨by first | rfl | kernel_rfl, rfl, Hs0.out⟩, Hbw.out.setCell (Nat.le_refl _) _⟩
      case measure => decide
    · have c1 := cell_of_row wr w.heap.size 1 _ _ _ hr
      have f1 := frozen_of_row wr w.heap.size 1 _ _ hr
      have Hs1 := Lib.hid (heap_setCell_same wr w.heap.size 1 _ _ (.string { data := #[98] }) hr)
      clear hr
      go_wp2_with fail
      go_ret
      exact ⟨rfl, Hbw.out.setCell (Nat.le_refl _) _, Hs1.out⟩
theorem splitS_any (w : World) : Calls Tryz.prog 162 #[.string { data := #[97, 32, 98] }, .string { data := #[32] }] w fun e w' => e = .returned (.slice (some ⟨w.heap.size, 0, none⟩) 2 2) ∧ Below w.heap.size w w' ∧ w'.heap[w.heap.size]? = some (.cells #[.string { data := #[97] }, .string { data := #[98] }] 9 (0, 0)) := by
  go_enter Tryz.func162, Tryz.ntmps162
  go_wp2_with (first
    | (go_at_call 243; refine (gensplit_any _).mono ?_; rintro e w1 ⟨rfl, hb1, hr1⟩; have HH := Lib.hid (And.intro hb1 hr1); clear hb1 hr1)
    | fail)
  go_ret
  exact ⟨rfl, HH.out.1, HH.out.2⟩
theorem noEmpty_any (c : UInt8) (w : World) : Calls Tryz.prog 163 #[.string { data := #[c] }] w fun e w' => e = .returned (.bool false) ∧ w' = w := by
  go_enter Tryz.func163, Tryz.ntmps163
  go_wp2
  go_ret
  exact ⟨by first | rfl | (simp; done) | kernel_rfl, rfl⟩
set_option maxHeartbeats 1000000 in
theorem indexW_any (g : Nat) (w : World) (hr : w.heap[g]? = some (.cells #[.string { data := #[97] }, .string { data := #[98] }] 9 (0, 0))) :
    Calls Tryz.prog 242 #[.slice (some ⟨g, 0, none⟩) 2 2, .func (.func 163) #[] #[]] w fun e w' => e = .returned (.int .i64 (-1)) ∧ w' = w := by
  have eg : ∀ args w, (callFunc 163 args).run Tryz.prog w = .ok (.enter 163 args) w := enters_of Tryz.func163 (by kernel_rfl) rfl
  have c0 := cell_of_row w g 0 _ _ _ hr
  have c1 := cell_of_row w g 1 _ _ _ hr
  clear hr
  go_enter Tryz.func242, Tryz.ntmps242
  go_wp2
  go_loop [8] (fun iv => iv = .int .i64 0 ∨ iv = .int .i64 1 ∨ iv = .int .i64 2) (fun iv => 2 - (intOf iv).toNat)
  case atStart => exact .inl rfl
  case round =>
    rcases hrel with rfl | rfl | rfl
    · go_wp2_with (first
        | (go_at_call 163; refine (noEmpty_any 97 _).mono ?_; rintro e w1 ⟨rfl, rfl⟩)
        | fail)
      go_round
      case rel => exact .inr (.inl rfl)
      case measure => decide
    · go_wp2_with (first
        | (go_at_call 163; refine (noEmpty_any 98 _).mono ?_; rintro e w1 ⟨rfl, rfl⟩)
        | fail)
      go_round
      case rel => exact .inr (.inr rfl)
      case measure => decide
    · go_wp2
      go_ret
      exact ⟨rfl, rfl⟩
theorem deleteW_any (g : Nat) (w : World) (hr : w.heap[g]? = some (.cells #[.string { data := #[97] }, .string { data := #[98] }] 9 (0, 0))) :
    Calls Tryz.prog 161 #[.slice (some ⟨g, 0, none⟩) 2 2, .func (.func 163) #[] #[]] w fun e w' => e = .returned (.slice (some ⟨g, 0, none⟩) 2 2) ∧ w' = w := by
  go_enter Tryz.func161, Tryz.ntmps161
  go_wp2_with (first
    | (go_at_call 242; refine (indexW_any g _ hr).mono ?_; rintro e w1 ⟨rfl, rfl⟩)
    | fail)
  go_ret
  exact ⟨rfl, rfl⟩
/-- Every byte of the example may stand in a text. -/
theorem plain_any (c : Int) (h : c = 10 ∨ (32 ≤ c ∧ c ≤ 126)) (w : World) : Calls Tryz.prog 157 #[.int .i32 c] w fun e w' => e = .returned (.bool true) ∧ w' = w := by
  by_cases h1 : c = 10
  · subst h1
    go_enter Tryz.func157, Tryz.ntmps157
    go_wp2
    go_ret
    exact ⟨rfl, rfl⟩
  · have h2 : 32 ≤ c := by omega
    have h3 : c ≤ 126 := by omega
    have h2' : c ≥ 32 := h2
    go_enter Tryz.func157, Tryz.ntmps157
    go_wp2
    go_ret
    exact ⟨by simp [h2, h3], rfl⟩
theorem notPlain_any (c : Int) (h : c = 10 ∨ (32 ≤ c ∧ c ≤ 126)) (w : World) : Calls Tryz.prog 156 #[.int .i32 c] w fun e w' => e = .returned (.bool false) ∧ w' = w := by
  go_enter Tryz.func156, Tryz.ntmps156
  go_wp2_with (first
    | (go_at_call 157; refine (plain_any c h _).mono ?_; rintro e w1 ⟨rfl, rfl⟩)
    | fail)
  go_ret
  exact ⟨rfl, rfl⟩
set_option maxHeartbeats 1000000 in
set_option maxRecDepth 100000 in
theorem indexP_any (w : World) : Calls Tryz.prog 306 #[.string { data := #[97, 32, 98, 10] }, .func (.func 156) #[] #[], .bool true] w fun e w' => e = .returned (.int .i64 (-1)) ∧ Below w.heap.size w w' := by
  have eg : ∀ args w, (callFunc 156 args).run Tryz.prog w = .ok (.enter 156 args) w := enters_of Tryz.func156 (by kernel_rfl) rfl
  go_enter Tryz.func306, Tryz.ntmps306
  go_wp2
  go_loopg [7, 8] 4 (fun g _ _ wx => ∃ i : Nat, i + g = 4 ∧ wx = w.iter { data := #[97, 32, 98, 10] } i)
  case atStart => exact ⟨0, by omega, rfl⟩
  case round =>
    obtain ⟨i, hig, rfl⟩ := hrel
    cases gk with
    | zero =>
      obtain rfl : i = 4 := by omega
      have hnx := fun ty => run_next_end (P := Tryz.prog) w { data := #[97, 32, 98, 10] } 4 ty (by decide)
      go_wp2
      go_ret
      exact ⟨rfl, (Below.refl _ w).alloc (Nat.le_refl _) _⟩
    | succ g =>
      have hi : i < 4 := by omega
      have hi' : i < (ByteArray.mk #[97, 32, 98, 10]).size := hi
      obtain ⟨x, hx⟩ : ∃ x : UInt8, (ByteArray.mk #[97, 32, 98, 10])[i]'hi' = x := ⟨_, rfl⟩
      have hxp : x.toNat = 10 ∨ (32 ≤ x.toNat ∧ x.toNat ≤ 126) := by
        rw [← hx]
        have h4 : i = 0 ∨ i = 1 ∨ i = 2 ∨ i = 3 := by omega
        clear hx
        rcases h4 with rfl | rfl | rfl | rfl <;> (revert hi'; decide)
      have hnx := fun ty => run_next_ascii (P := Tryz.prog) w { data := #[97, 32, 98, 10] } i ty hi' (by rw [hx]; omega)
      rw [hx] at hnx
      have hp : ((x.toNat : Int) = 10 ∨ (32 ≤ (x.toNat : Int) ∧ (x.toNat : Int) ≤ 126)) := by omega
      have Hp := Lib.hid hp
      clear hp hxp hx
      go_wp2_with (first
        | (go_at_call 156; refine (notPlain_any _ Hp.out _).mono ?_; rintro e w1 ⟨rfl, rfl⟩)
        | fail)
      go_roundg g
      case measure => omega
      case rel => exact ⟨i + 1, by omega, rfl⟩
end Go.Proofs.YtfmkmhhghmdakaaGreatDoor
namespace Go.Proofs.YtfmkmhhghmdakaaGreatDoor
open Go.RowKit Go.Shelf
set_option linter.unusedVariables false
set_option linter.unusedSimpArgs false
attribute [local go_sem] Oper.semAt_some

/-- One round of a range over a function whose iterator writes its own block bs. -/
theorem range_once {F : Fence} {n : Nat} {P : Program} {w : World} {g : Operand} {ps : Array Tmp} {assign body : Code} {Q : Exit → Act → World → Prop} {a : Act}
    (hro : F.round = none) (h1 : 1 ≤ n) {gf : Nat} {lb : Array Value} (hg : a.eval g = .func (.func gf) #[] lb) (hFg : F.fn gf)
    (eg : ∀ args w, (callFunc gf args).run P w = .ok (.enter gf args) w) (x : Array Value) (hx : x.size = ps.size) (bs : Nat) (cs cs' : Array Value) (T : TypeId)
    (hbs : w.heap[bs]? = some (.cells cs T (0, 0))) (I0 I1 : World → Prop)
    (hI : ∀ (W W' : World) (row : Option Nat), W.grownBy W' row → (∀ r, row = some r → r = bs ∨ (w.heap.size ≤ r ∧ ∃ o : Obj, W.heap[r]? = some o ∧ o.isCells = false)) → (I0 W → I0 W') ∧ (I1 W → I1 W'))
    (h0 : I0 w)
    (hiter : ∀ (l : Nat) (W : World) (J0 J1 : World → Prop), W.heap[bs]? = some (.cells cs T (0, 0)) →
      (∀ (W W' : World) (row : Option Nat), W.grownBy W' row → (∀ r, row = some r → r = bs) → (J0 W → J0 W') ∧ (J1 W → J1 W')) →
      (∀ W1, J0 W1 → W1.heap[bs]? = some (.cells cs' T (0, 0)) → YieldAt F (n - 1 - 1) P l x W1 fun e W' => e = .returned (.bool true) ∧ J1 W' ∧ W'.heap[bs]? = some (.cells cs' T (0, 0))) → J0 W →
      CallsIn F (n - 1) P gf (#[.func (.yield l) #[] #[]] ++ lb) W fun e W' => (∃ v, e = .returned v) ∧ J1 W')
    (a₁ : Act)
    (hassign : ∀ (l : Nat) (W : World) (K : Act → World → Prop), K a₁ W → assign.wpIn (F.inRound l) (n - 1 - 1) P (Exit.then K (fun _ _ _ => False)) { tmps := (ps.zip x).foldl (fun t (p, v) => t.setIfInBounds p v) a.tmps, defers := [] } W)
    (hbody : ∀ (l : Nat) (W : World), w.heap.size ≤ l → (∃ r, W.heap[l]? = some (.loop r)) → I0 W → W.heap[bs]? = some (.cells cs' T (0, 0)) → body.wpIn (F.inRound l) (n - 1 - 1) P (fun e _ W' => e = .normal ∧ KeepsFrom w.heap.size W W' ∧ W'.heap[bs]? = some (.cells cs' T (0, 0)) ∧ I1 W') a₁ W)
    (hdone : ∀ (D : Nat) (W : World), w.heap.size ≤ D → I1 W → W.heap[D]? = some (.deferred (some [])) → Q .normal { a with defers := { target := .collected D, args := #[] } :: a.defers } W) :
    (Code.rangeFunc g ps assign body).wpIn F n P Q a w := by
  have hlt : bs < w.heap.size := (Array.getElem?_eq_some_iff.1 hbs).1
  refine wpIn_rangeFunc ?_
  intro fn hfn
  rw [hro]
  obtain ⟨rec, hrec⟩ : ∃ rec : LoopState → Loop, rec = fun st => { state := st, pending := none, fn, tmps := a.tmps, params := ps, assign, body, defers := w.heap.size } := ⟨_, rfl⟩
  obtain ⟨l, hl⟩ : ∃ l, l = w.heap.size + 1 := ⟨_, rfl⟩
  obtain ⟨W1, hW1⟩ : ∃ W1, W1 = (w.alloc (.deferred (some []))).alloc (.loop (rec .ready)) := ⟨_, rfl⟩
  have hL1 : W1.heap[l]? = some (.loop (rec .ready)) := by
    have := World.alloc_heap_new (w.alloc (.deferred (some []))) (.loop (rec .ready))
    rw [World.size_alloc, ← hl, ← hW1] at this
    exact this
  have hK1 : W1.heap[w.heap.size]? = some (.deferred (some [])) := by
    rw [hW1]; exact (Below.heap_alloc _ _ _ (by simp)).trans (World.alloc_heap_new w _)
  have hI1 : I0 W1 := by
    rw [hW1]
    exact (hI _ _ none (World.grownBy_alloc _ _ none) (fun r e => by cases e)).1 ((hI _ _ none (World.grownBy_alloc _ _ none) (fun r e => by cases e)).1 h0)
  have hb1 : W1.heap[bs]? = some (.cells cs T (0, 0)) := by
    rw [hW1]; exact (Below.heap_alloc _ _ _ (by simp; omega)).trans ((Below.heap_alloc _ _ _ hlt).trans hbs)
  have hput : ∀ (W : World) (o o' : Obj), W.heap[l]? = some o → o.isCells = false → (I0 W → I0 (W.putObj l o')) ∧ (I1 W → I1 (W.putObj l o')) := fun W o o' h1 h2 =>
    hI W _ (some l) (grownBy_putObj' W l o') (fun r e => by cases e; exact .inr ⟨by omega, o, h1, h2⟩)
  refine ⟨l, [{ target := .collected w.heap.size, args := #[] }], W1, { target := .fn (.func gf) lb, args := #[.func (.yield l) #[] #[]] }, W1, gf, #[.func (.yield l) #[] #[]] ++ lb, W1, ?_, ?_, ?_, ?_, fun _ => h1, ?_⟩
  · rw [hW1, hrec, hl]; exact run_enterLoop_outer _ _ _ _ _
  · simp only [resolve, hg]
    simp [go_sem]
  · intro f' hf'; simp [Target.leads] at hf'; subst hf'; exact hFg
  · simp [invoke, go_sem, eg]
  · refine (hiter l W1 (fun W => I0 W ∧ W.heap[l]? = some (.loop (rec .ready)) ∧ W.heap[w.heap.size]? = some (.deferred (some [])))
      (fun W => I1 W ∧ W.heap[l]? = some (.loop (rec .ready)) ∧ W.heap[w.heap.size]? = some (.deferred (some []))) hb1 ?_ ?_ ⟨hI1, hL1, hK1⟩).mono ?_
    · intro W W' row hgr hr
      have hk : ∀ k o, w.heap.size ≤ k → W.heap[k]? = some o → W'.heap[k]? = some o := fun k o hk ho =>
        (hgr.block k (Array.getElem?_eq_some_iff.1 ho).1 (fun e => by have := hr k e.symm; omega)).trans ho
      have hi := hI W W' row hgr (fun r e => .inl (hr r e))
      exact ⟨fun h => ⟨hi.1 h.1, hk _ _ (by omega) h.2.1, hk _ _ (Nat.le_refl _) h.2.2⟩, fun h => ⟨hi.2 h.1, hk _ _ (by omega) h.2.1, hk _ _ (Nat.le_refl _) h.2.2⟩⟩
    · rintro W ⟨hi, hlw, hk⟩ hbw
      have hlt2 : l < W.heap.size := (Array.getElem?_eq_some_iff.1 hlw).1
      have hy := run_yield (P := P) (args := x) hlw (by rw [hrec]; exact hx)
      rw [hrec] at hy
      refine ⟨fn, _, assign, body, hy, roundIn_of_wpIn hfn (hassign l W _ ?_)⟩
      clear hy
      refine ⟨_, run_beginRound hlw (by rw [hrec]), ?_⟩
      have hl2 : (W.putObj l (.loop { rec .ready with state := .busy })).heap[l]? = some (.loop { rec .ready with state := .busy }) := World.putObj_heap_same hlt2
      have hk2 : (W.putObj l (.loop { rec .ready with state := .busy })).heap[w.heap.size]? = some (.deferred (some [])) := (World.putObj_heap_other (by omega)).trans hk
      have hb2 : (W.putObj l (.loop { rec .ready with state := .busy })).heap[bs]? = some (.cells cs' T (0, 0)) := (World.putObj_heap_other (by omega)).trans hbw
      refine wpIn_mono (hbody l _ (by omega) ⟨_, hl2⟩ ((hput W _ _ hlw rfl).1 hi) hb2) ?_
      rintro e a3 W3 ⟨rfl, hk3, hb3, hi3⟩
      have hl3 := hk3.same _ _ (by omega) hl2 rfl
      have hr := run_endRound (P := P) none hl3
      rw [hrec] at hr hl3
      refine ⟨_, _, hr, ?_⟩
      rw [hrec]
      exact ⟨rfl, ⟨(hput W3 _ _ hl3 rfl).2 hi3, World.putObj_heap_same (Array.getElem?_eq_some_iff.1 hl3).1, (World.putObj_heap_other (by omega)).trans (hk3.same _ _ (Nat.le_refl _) hk2 rfl)⟩, (World.putObj_heap_other (by omega)).trans hb3⟩
    · rintro e W2 ⟨⟨v, rfl⟩, hi, hl2, hk⟩
      have hr := run_endLoop (P := P) hl2 (by rw [hrec]; simp)
      rw [hrec] at hr hl2
      exact ⟨none, _, hr, hdone _ _ (Nat.le_refl _) ((hput W2 _ _ hl2 rfl).2 hi) ((World.putObj_heap_other (by omega)).trans hk)⟩
theorem indexBT_any (w : World) : Calls Tryz.prog 239 #[.string { data := #[97, 32, 98, 10] }, .int .u8 10] w fun e w' => e = .returned (.int .i64 3) ∧ w' = w := by
  go_enter Tryz.func239, Tryz.ntmps239
  go_wp2_with (first
    | (go_at_call 307; refine (indexBl_any _ 10 _).mono ?_; rintro e w1 ⟨rfl, rfl⟩)
    | fail)
  go_ret
  exact ⟨by kernel_rfl, rfl⟩
theorem indexFT_any (w : World) : Calls Tryz.prog 237 #[.string { data := #[97, 32, 98, 10] }, .func (.func 156) #[] #[]] w fun e w' => e = .returned (.int .i64 (-1)) ∧ Below w.heap.size w w' := by
  go_enter Tryz.func237, Tryz.ntmps237
  go_wp2_with (first
    | (go_at_call 306; refine (indexP_any _).mono ?_; rintro e w1 ⟨rfl, hb⟩; have Hb := Lib.hid hb; clear hb)
    | fail)
  go_ret
  exact ⟨rfl, Hb.out⟩
theorem containsFT_any (w : World) : Calls Tryz.prog 155 #[.string { data := #[97, 32, 98, 10] }, .func (.func 156) #[] #[]] w fun e w' => e = .returned (.bool false) ∧ Below w.heap.size w w' := by
  go_enter Tryz.func155, Tryz.ntmps155
  go_wp2_with (first
    | (go_at_call 237; refine (indexFT_any _).mono ?_; rintro e w1 ⟨rfl, hb⟩; have Hb := Lib.hid hb; clear hb)
    | fail)
  go_ret
  exact ⟨rfl, Hb.out⟩
theorem linesB_any (w : World) : Calls Tryz.prog 158 #[.string { data := #[97, 32, 98, 10] }] w fun e w' => e = .returned (.func (.func 238) #[] #[.pointer (some ⟨w.heap.size, 0, none⟩)]) ∧ w' = w.alloc (.cells #[.string { data := #[97, 32, 98, 10] }] 9) := by
  go_enter Tryz.func158, Tryz.ntmps158
  go_wp2
  go_ret
  exact ⟨rfl, rfl⟩
/-- What is left in the iterator's box. -/
def lnLeft (bs : Nat) (W : World) : Nat := match W.cell? ⟨bs, 0, none⟩ with | some (.string s) => s.size | _ => 0
set_option maxHeartbeats 4000000 in
set_option maxRecDepth 100000 in
theorem lines1_in (l bs n : Nat) (hn : 3 ≤ n) (W : World) (J0 J1 : World → Prop) (hbs : W.heap[bs]? = some (.cells #[.string { data := #[97, 32, 98, 10] }] 9 (0, 0)))
    (hJ : ∀ (W W' : World) (row : Option Nat), W.grownBy W' row → (∀ r, row = some r → r = bs) → (J0 W → J0 W') ∧ (J1 W → J1 W'))
    (hY : ∀ W1, J0 W1 → W1.heap[bs]? = some (.cells #[.string { data := #[] }] 9 (0, 0)) → YieldAt Fence.wide (n - 1) Tryz.prog l #[.string { data := #[97, 32, 98, 10] }] W1 fun e W' => e = .returned (.bool true) ∧ J1 W' ∧ W'.heap[bs]? = some (.cells #[.string { data := #[] }] 9 (0, 0)))
    (h0 : J0 W) :
    CallsIn Fence.wide n Tryz.prog 238 #[.func (.yield l) #[] #[], .pointer (some ⟨bs, 0, none⟩)] W fun e W' => (∃ v, e = .returned v) ∧ J1 W' := by
  have hf1 : Fence.wide.fn 239 := trivial
  have hn1 : 1 ≤ n := by omega
  have hn2 : 1 ≤ n - 1 := by omega
  have HY := Lib.hid hY
  have HJ := Lib.hid hJ
  have H0 := Lib.hid h0
  have Hbs := Lib.hid hbs
  clear hY hJ h0 hbs
  refine callsIn_of_wp Tryz.func238 rfl trivial ?_ rfl
  simp only [Tryz.ntmps238, List.size_toArray, List.length_cons, List.length_nil, Nat.reduceAdd, Nat.reduceSub, Array.replicate_succ, Array.replicate_zero, List.push_toArray, List.append_toArray, List.nil_append, List.cons_append]
  gi_wp2_with fail
  gi_loopw [3, 4] (fun _ _ wr => (wr.heap[bs]? = some (.cells #[.string { data := #[97, 32, 98, 10] }] 9 (0, 0)) ∧ J0 wr) ∨ (wr.heap[bs]? = some (.cells #[.string { data := #[] }] 9 (0, 0)) ∧ J1 wr)) (fun _ _ wr => lnLeft bs wr)
  case atStart => exact .inl ⟨Hbs.out, H0.out⟩
  case round =>
    rcases hrel with ⟨hb, hj⟩ | ⟨hb, hj⟩
    · have c0 := cell_of_row _ _ 0 _ _ _ hb
      have f0 := frozen_of_row _ _ 0 _ _ hb
      have Hb := Lib.hid hb
      have Hj := Lib.hid hj
      clear hb hj
      gi_upto_region 4 with (first
        | (gi_at_call 239; refine (callsIn_wide.2 (indexBT_any _)).mono ?_; rintro e w1 ⟨rfl, rfl⟩)
        | fail)
      have hw4 : IntKind.i64.wrap 4 = 4 := by decide
      refine wpIn_region_head wideF (S := fun w' => w'.cell? ⟨bs, 0, none⟩ = some (.string { data := #[97, 32, 98, 10] })) 9 (by kernel_rfl) (by kernel_rfl) (fun _ _ h => h) ?_
      have hHeld : (fun w' : World => w'.cell? ⟨bs, 0, none⟩ = some (.string { data := #[97, 32, 98, 10] })) w1.drew := c0
      simp only [List.take_succ_cons, List.take_zero, List.replicate]
      refine wpAnyH_take (i := 0) (v := ?vvb0) rfl (by kernel_rfl) (by kernel_rfl) (by kernel_rfl) (fun _ _ _ h => h) (Or.inl ⟨by rfl, ?hyb0⟩) hHeld ?restb0; (case hyb0 => (intro w hSw; (try dsimp only at hSw); go_simp; all_goals (with_reducible rfl))); simp only [Act.put, List.getElem_toArray, List.getElem_cons_zero, List.getElem_cons_succ, List.setIfInBounds_toArray, List.set_cons_zero, List.set_cons_succ]
      refine wpAnyH_take (i := 1) (v := ?vvb1) rfl (by kernel_rfl) (by kernel_rfl) (by kernel_rfl) (fun _ _ _ h => h) (Or.inl ⟨by rfl, ?hyb1⟩) hHeld ?restb1; (case hyb1 => (intro w hSw; (try dsimp only at hSw); go_simp; all_goals (with_reducible rfl))); simp only [Act.put, List.getElem_toArray, List.getElem_cons_zero, List.getElem_cons_succ, List.setIfInBounds_toArray, List.set_cons_zero, List.set_cons_succ]
      refine wpAnyH_take (i := 2) (v := ?vvb2) rfl (by kernel_rfl) (by kernel_rfl) (by kernel_rfl) (fun _ _ _ h => h) (Or.inl ⟨by rfl, ?hyb2⟩) hHeld ?restb2; (case hyb2 => (intro w hSw; (try dsimp only at hSw); go_simp; all_goals (with_reducible rfl))); simp only [Act.put, List.getElem_toArray, List.getElem_cons_zero, List.getElem_cons_succ, List.setIfInBounds_toArray, List.set_cons_zero, List.set_cons_succ]
      refine wpAnyH_take (i := 3) (v := ?vvb3) rfl (by kernel_rfl) (by kernel_rfl) (by kernel_rfl) (fun _ _ _ h => h) (Or.inl ⟨by rfl, ?hyb3⟩) hHeld ?restb3; (case hyb3 => (intro w hSw; (try dsimp only at hSw); go_simp; all_goals (with_reducible rfl))); simp only [Act.put, List.getElem_toArray, List.getElem_cons_zero, List.getElem_cons_succ, List.setIfInBounds_toArray, List.set_cons_zero, List.set_cons_succ]
      refine wpAnyH_take (i := 4) (v := ?vvb4) rfl (by kernel_rfl) (by kernel_rfl) (by kernel_rfl) (fun _ _ _ h => h) (Or.inl ⟨by rfl, ?hyb4⟩) hHeld ?restb4; (case hyb4 => (intro w hSw; (try dsimp only at hSw); go_simp; all_goals (with_reducible rfl))); simp only [Act.put, List.getElem_toArray, List.getElem_cons_zero, List.getElem_cons_succ, List.setIfInBounds_toArray, List.set_cons_zero, List.set_cons_succ]
      refine wpAnyH_take (i := 5) (v := ?vvb5) rfl (by kernel_rfl) (by kernel_rfl) (by kernel_rfl) (fun _ _ _ h => h) (Or.inl ⟨by rfl, ?hyb5⟩) hHeld ?restb5; (case hyb5 => (intro w hSw; (try dsimp only at hSw); go_simp; all_goals (with_reducible rfl))); simp only [Act.put, List.getElem_toArray, List.getElem_cons_zero, List.getElem_cons_succ, List.setIfInBounds_toArray, List.set_cons_zero, List.set_cons_succ]
      refine wpAnyH_take (i := 6) (v := ?vvb6) rfl (by kernel_rfl) (by kernel_rfl) (by kernel_rfl) (fun _ _ _ h => h) (Or.inl ⟨by rfl, ?hyb6⟩) hHeld ?restb6; (case hyb6 => (intro w hSw; (try dsimp only at hSw); go_simp; all_goals (with_reducible rfl))); simp only [Act.put, List.getElem_toArray, List.getElem_cons_zero, List.getElem_cons_succ, List.setIfInBounds_toArray, List.set_cons_zero, List.set_cons_succ]
      refine wpAnyH_take (i := 7) (v := ?vvb7) rfl (by kernel_rfl) (by kernel_rfl) (by kernel_rfl) (fun _ _ _ h => h) (Or.inl ⟨by rfl, ?hyb7⟩) hHeld ?restb7; (case hyb7 => (intro w hSw; (try dsimp only at hSw); go_simp; all_goals (with_reducible rfl))); simp only [Act.put, List.getElem_toArray, List.getElem_cons_zero, List.getElem_cons_succ, List.setIfInBounds_toArray, List.set_cons_zero, List.set_cons_succ]
      refine wpAnyH_take (i := 8) (v := ?vvb8) rfl (by kernel_rfl) (by kernel_rfl) (by kernel_rfl) (fun _ _ _ h => h) (Or.inl ⟨by rfl, ?hyb8⟩) hHeld ?restb8; (case hyb8 => (intro w hSw; (try dsimp only at hSw); go_simp; all_goals (with_reducible rfl))); simp only [Act.put, List.getElem_toArray, List.getElem_cons_zero, List.getElem_cons_succ, List.setIfInBounds_toArray, List.set_cons_zero, List.set_cons_succ]
      refine wpAnyH_done (by kernel_rfl) ?_ _
      clear hHeld
      show wpAnyIn _ _ _ _ _ _ _ _ _ _
      have f1 : w1.drew.frozen? ⟨bs, 0, none⟩ = false := f0
      have d1 : w1.drew.cell? ⟨bs, 0, none⟩ = some (.string { data := #[97, 32, 98, 10] }) := c0
      refine wpAnyIn_ready (rs := [9]) (by kernel_rfl) (by simp) ?_
      refine AllReadyIn.cons rfl (fun K hK => ?_) AllReadyIn.nil
      go_simp
      refine hK _ _ ?_
      clear hK K
      refine wpAnyIn_done (by kernel_rfl) ?_ _
      obtain ⟨W2, hW2⟩ : ∃ W2 : World, W2 = (w1.setCell ⟨bs, 0, none⟩ (.string { data := #[] })).drew := ⟨_, rfl⟩
      rw [show ByteArray.empty = { data := #[] } from rfl, show ({ data := #[97, 32, 98, 10] } : ByteArray).extract 0 4 = { data := #[97, 32, 98, 10] } from by kernel_rfl, ← hW2]
      have hb2 : W2.heap[bs]? = some (.cells #[.string { data := #[] }] 9 (0, 0)) := by rw [hW2]; exact heap_setCell_same w1 bs 0 _ _ _ Hb.out
      have hj2 : J0 W2 := by
        rw [hW2]
        exact (HJ.out _ _ (some bs) (only_drew (grownBy_setCell' w1 bs _)) (fun r e => by cases e; rfl)).1 Hj.out
      have hy := HY.out W2 hj2 hb2
      obtain ⟨fn, tmps, assign, body, hy, hR⟩ := hy
      have HR := Lib.hid hR
      have Hl1 : Hid (lnLeft bs w1 = 4) := Lib.hid (by simp only [lnLeft, cell_of_row _ _ 0 _ _ _ Hb.out]; rfl)
      clear hR hb2 hj2 hW2 hw4 f1 d1 f0 c0
      gi_wp2_with fail
      refine HR.out.mono ?_
      rintro e W3 ⟨rfl, hj3, hb3⟩
      have Hj3 := Lib.hid hj3
      have Hb3 := Lib.hid hb3
      clear hj3 hb3 hy
      gi_wp2
      go_roundw
      case rel => exact .inr ⟨Hb3.out, Hj3.out⟩
      case measure => rw [Hl1.out]; simp only [lnLeft, cell_of_row _ _ 0 _ _ _ Hb3.out]; decide
    · have c0 := cell_of_row _ _ 0 _ _ _ hb
      have Hj := Lib.hid hj
      clear hb hj
      gi_wp2
      go_end0
      exact ⟨⟨_, rfl⟩, Hj.out⟩
end Go.Proofs.YtfmkmhhghmdakaaGreatDoor
namespace Go.Proofs.YtfmkmhhghmdakaaGreatDoor
open Go.RowKit Go.Shelf
set_option linter.unusedVariables false
set_option linter.unusedSimpArgs false
attribute [local go_sem] Oper.semAt_some

theorem Tryz.infoStrs : (Tryz.prog.info? 97).map (fun i => (i.zero, i.size, i.bytes)) = some (some (.slice none 0 0), 1, 24) := by kernel_rfl
set_option maxHeartbeats 8000000 in
set_option maxRecDepth 100000 in
theorem split_any (w : World) : Calls Tryz.prog 62 #[.string { data := #[97, 32, 98, 10] }] w fun e w' => (∃ A c, e = .returned (.tuple #[.slice A 1 c, .int .i64 0])) ∧ Below w.heap.size w w' := by
  obtain ⟨i0, hi, hz0, hz1, hz2⟩ := info_parts Tryz.infoStrs
  refine (callsIn_wide (n := 20)).1 ?_
  have f1 : Fence.wide.fn 153 := trivial
  have f2 : Fence.wide.fn 154 := trivial
  have f3 : Fence.wide.fn 155 := trivial
  have f4 : Fence.wide.fn 158 := trivial
  have f5 : Fence.wide.fn 160 := trivial
  have f6 : Fence.wide.fn 159 := trivial
  refine callsIn_of_wp_marks Tryz.func62 rfl trivial ?_ rfl
  simp only [Tryz.ntmps62, List.size_toArray, List.length_cons, List.length_nil, Nat.reduceAdd, Nat.reduceSub, Array.replicate_succ, Array.replicate_zero, List.push_toArray, List.append_toArray, List.nil_append, List.cons_append]
  gi_wp2_with (first
    | (gi_at_call 153; refine (callsIn_wide.2 (countT_any _)).mono ?_; rintro e w1 ⟨rfl, rfl⟩)
    | (gi_at_call 154; refine (callsIn_wide.2 (hasT_any _)).mono ?_; rintro e w1 ⟨rfl, rfl⟩)
    | (gi_at_call 155; refine (callsIn_wide.2 (containsFT_any _)).mono ?_; rintro e w2 ⟨rfl, hb2⟩; have Hb2 := Lib.hid hb2; clear hb2)
    | (gi_at_call 158; refine (callsIn_wide.2 (linesB_any _)).mono ?_; rintro e w3 ⟨rfl, hw3⟩; have Hw3 := Lib.hid hw3; clear hw3)
    | fail)
  obtain ⟨w, rfl⟩ : ∃ w : World, w = w1 := ⟨_, rfl⟩
  have hbs : w3.heap[w2.heap.size + 1]? = some (.cells #[.string { data := #[97, 32, 98, 10] }] 9 (0, 0)) := by rw [Hw3.out]; exact heap_alloc2_new w2 _ _
  have hbo : w3.heap[w2.heap.size]? = some (.cells #[.slice none 0 0] 119 (0, 0)) := by rw [Hw3.out]; exact (Below.heap_alloc _ _ _ (by simp)).trans (heap_alloc_new w2 _)
  have hb3 : Below w.heap.size w w3 := by rw [Hw3.out]; exact (Hb2.out.alloc Hb2.out.size _).alloc (by have := Hb2.out.size; simp; omega) _
  have hs2 := Hb2.out.size
  have hs3 : w3.heap.size = w2.heap.size + 2 := by rw [Hw3.out]; simp
  have Hb3 := Lib.hid hb3
  have Hbs := Lib.hid hbs
  have Hbo := Lib.hid hbo
  have Hs3 := Lib.hid hs3
  clear hbs hbo hb3 hs3
  refine range_once rfl (by omega) (gf := 238) (lb := #[.pointer (some ⟨w2.heap.size + 1, 0, none⟩)]) rfl trivial (enters_of Tryz.func238 (by kernel_rfl) rfl)
    #[.string { data := #[97, 32, 98, 10] }] rfl (w2.heap.size + 1) _ #[.string { data := #[] }] _ Hbs.out
    (fun W => W.heap[w2.heap.size]? = some (.cells #[.slice none 0 0] 119 (0, 0)) ∧ Below w.heap.size w W)
    (fun W => (∃ A c, W.heap[w2.heap.size]? = some (.cells #[.slice A 1 c] 119 (0, 0))) ∧ Below w.heap.size w W) ?abide ⟨Hbo.out, Hb3.out⟩
    (fun l W J0 J1 h1 h2 h3 h4 => lines1_in l (w2.heap.size + 1) _ (by omega) W J0 J1 h1 h2 h3 h4)
    { tmps := #[.string { data := #[97, 32, 98, 10] }, undef, .slice none 0 0, .int .i64 0, .pointer (some ⟨w2.heap.size, 0, none⟩), .string { data := #[97, 32, 98, 10] }, .string { data := #[97, 32, 98, 10] }, .int .i64 4, .bool false, .bool false, .string { data := #[97, 32, 98, 10] }, .int .i64 1, .bool false, .bool false, .string { data := #[97, 32, 98, 10] }, .bool true, .bool true, .string { data := #[97, 32, 98, 10] }, .bool true, .bool false, .bool false, .bool false, .string { data := #[97, 32, 98, 10] }, .bool false, .bool false, .string { data := #[97, 32, 98, 10] }, .func (.func 238) #[] #[.pointer (some ⟨w2.heap.size + 1, 0, none⟩)], .string { data := #[97, 32, 98, 10] }, undef, undef, undef, undef, undef, undef, undef, undef, undef, undef, undef, undef, undef, undef], defers := [] } ?assign ?body ?done
  case abide =>
    intro W W' row hg hr
    have hne : ∀ q, row = some q → w.heap.size ≤ q ∧ q ≠ w2.heap.size := fun q e => by
      rcases hr q e with h | ⟨h, _⟩
      · omega
      · have := Hs3.out; omega
    refine ⟨fun h => ⟨(hg.block _ (Array.getElem?_eq_some_iff.1 h.1).1 (fun e => (hne _ e.symm).2 rfl)).trans h.1, h.2.grown hg h.2.size (fun q e => (hne q e).1)⟩, fun h => ⟨?_, h.2.grown hg h.2.size (fun q e => (hne q e).1)⟩⟩
    obtain ⟨A, c, hc⟩ := h.1
    exact ⟨A, c, (hg.block _ (Array.getElem?_eq_some_iff.1 hc).1 (fun e => (hne _ e.symm).2 rfl)).trans hc⟩
  case assign =>
    intro l W K hK
    gi_wp2
    exact hK
  case body =>
    rintro l W hl ⟨r, hrl⟩ ⟨hbo, hbw⟩ hbx
    have Hbo := Lib.hid hbo
    have Hbw := Lib.hid hbw
    have Hbx := Lib.hid hbx
    clear hbo hbw hbx
    gi_wp2_with (first
      | (gi_at_call 160; refine (CallsIn.inRound l (callsIn_wide.2 (trimT_any _))).mono ?_; rintro e w4 ⟨rfl, rfl⟩)
      | (gi_at_call 159; refine (CallsIn.inRound l (callsIn_wide.2 (cutT_any _))).mono ?_; rintro e w4 ⟨rfl, rfl⟩)
      | fail)
    have b0 := cell_of_row _ _ 0 _ _ _ Hbo.out
    have hsW := Hbw.out.size
    have hlo : w2.heap.size < w4.heap.size := (Array.getElem?_eq_some_iff.1 Hbo.out).1
    have hlx : w2.heap.size + 1 < w4.heap.size := (Array.getElem?_eq_some_iff.1 Hbx.out).1
    refine wpIn_region_head (wideF_round l) (S := fun w' => w'.cell? ⟨w2.heap.size, 0, none⟩ = some (.slice none 0 0)) 6 (by kernel_rfl) (by kernel_rfl) (fun _ _ h => h) ?_
    have hHeld : (fun w' : World => w'.cell? ⟨w2.heap.size, 0, none⟩ = some (.slice none 0 0)) w4.drew := b0
    simp only [List.take_succ_cons, List.take_zero, List.replicate]
    refine wpAnyH_take (i := 0) (v := ?vvc0) rfl (by kernel_rfl) (by kernel_rfl) (by kernel_rfl) (fun _ _ _ h => h) (Or.inl ⟨by rfl, ?hyc0⟩) hHeld ?restc0; (case hyc0 => (intro w hSw; (try dsimp only at hSw); go_simp; all_goals (with_reducible rfl))); simp only [Act.put, List.getElem_toArray, List.getElem_cons_zero, List.getElem_cons_succ, List.setIfInBounds_toArray, List.set_cons_zero, List.set_cons_succ]
    refine wpAnyH_take (i := 1) (v := ?vvc1) rfl (by kernel_rfl) (by kernel_rfl) (by kernel_rfl) (fun _ _ _ h => h) (Or.inl ⟨by rfl, ?hyc1⟩) hHeld ?restc1; (case hyc1 => (intro w hSw; (try dsimp only at hSw); go_simp; all_goals (with_reducible rfl))); simp only [Act.put, List.getElem_toArray, List.getElem_cons_zero, List.getElem_cons_succ, List.setIfInBounds_toArray, List.set_cons_zero, List.set_cons_succ]
    refine wpAnyH_ready (rs := [2]) (by kernel_rfl) (by simp) ?_; refine AllReadyH.cons rfl (fun K hK => ?_) AllReadyH.nil
    go_simp
    refine (splitS_any _).mono ?_
    rintro e w5 ⟨rfl, hb5, hr5⟩
    have hb5' : Below w4.heap.size w4 w5 := ⟨hb5.os, hb5.tape, hb5.output, hb5.size, hb5.block⟩
    have Hb5 := Lib.hid hb5'
    have Hr5 := Lib.hid hr5
    clear hb5 hb5' hr5
    have hbo5 := (Hb5.out.block _ hlo).trans Hbo.out
    have Hbo5 := Lib.hid hbo5
    clear hbo5
    refine hK.out _ _ (cell_of_row _ _ 0 _ _ _ Hbo5.out) (fun hHeld => ?_)
    clear hK K
    (try simp only [Act.put, List.getElem_toArray, List.getElem_cons_zero, List.getElem_cons_succ, List.setIfInBounds_toArray, List.set_cons_zero, List.set_cons_succ])
    refine wpAnyH_ready (rs := [3]) (by kernel_rfl) (by simp) ?_; refine AllReadyH.cons rfl (fun K hK => ?_) AllReadyH.nil
    go_simp
    refine (deleteW_any _ _ Hr5.out).mono ?_
    rintro e w6 ⟨rfl, rfl⟩
    refine hK.out _ _ (cell_of_row _ _ 0 _ _ _ Hbo5.out) (fun hHeld => ?_)
    clear hK K
    (try simp only [Act.put, List.getElem_toArray, List.getElem_cons_zero, List.getElem_cons_succ, List.setIfInBounds_toArray, List.set_cons_zero, List.set_cons_succ])
    refine wpAnyH_ready (rs := [4]) (by kernel_rfl) (by simp) ?_; refine AllReadyH.cons rfl (fun K hK => ?_) AllReadyH.nil
    go_simp
    obtain ⟨w7, hw7⟩ : ∃ w7 : World, w7 = w6.alloc (.cells #[.slice (some ⟨w4.heap.size, 0, none⟩) 2 2] 97) := ⟨_, rfl⟩
    rw [← hw7]
    have Hw7 := Lib.hid hw7
    have hs7 : w7.heap.size = w6.heap.size + 1 := by rw [hw7]; simp
    have Hs7 := Lib.hid hs7
    have h56 := Hb5.out.size
    have hb7 : Below w4.heap.size w4 w7 := by rw [hw7]; exact Hb5.out.alloc (Nat.le_trans (Nat.le_refl _) h56) _
    have Hb7 := Lib.hid hb7
    have Hbo7 := Lib.hid ((hb7.block _ hlo).trans Hbo.out)
    have h46 : w4.heap.size ≤ w6.heap.size := h56
    clear hw7 hs7 hb7 h56
    refine hK.out _ _ (cell_of_row _ _ 0 _ _ _ Hbo7.out) (fun hHeld => ?_)
    clear hK K
    (try simp only [Act.put, List.getElem_toArray, List.getElem_cons_zero, List.getElem_cons_succ, List.setIfInBounds_toArray, List.set_cons_zero, List.set_cons_succ])
    refine wpAnyH_ready (rs := [5]) (by kernel_rfl) (by simp) ?_; refine AllReadyH.cons rfl (fun K hK => ?_) AllReadyH.nil
    refine step_append_any _ rfl (.tmp 35) (.tmp 39) 119 rfl w4.heap.size 97 i0 (.slice none 0 0) 1 24 Tryz.underlying119 hi hz0 hz1 hz2 rfl (by omega) (.slice none 0 0) 0 [] rfl ⟨by simp, .inl ⟨rfl, rfl⟩⟩ w7.heap.size _ 1 1 [.slice (some ⟨w4.heap.size, 0, none⟩) 2 2] rfl ⟨rfl, fun _ => ⟨_, rfl, (by show w6.heap.size < w7.heap.size; rw [Hs7.out]; exact Nat.lt_succ_self _), fun j u hu => (by rw [Hw7.out]; exact news_any _ _ _ j u hu)⟩⟩ (by simp [Value.oneCell']) (by simp only [maxLen]; omega) (by omega) (by have := Hs7.out; omega) ?_
    intro v8 w8 hown8 hg8 hat8
    obtain ⟨A8, c8, rfl, _, _, _⟩ := own_slice hown8
    have hB8 : Below w4.heap.size w4 w8 := Hb7.out.grown hg8 (by have := Hs7.out; omega) (fun q e => by cases e)
    have HB8 := Lib.hid hB8
    have Hbo8 := Lib.hid ((hB8.block _ hlo).trans Hbo.out)
    have Hbx8 := Lib.hid ((hB8.block _ hlx).trans Hbx.out)
    have hs8 := hB8.size
    clear hown8 hg8 hat8 hB8
    refine hK.out _ _ (cell_of_row _ _ 0 _ _ _ Hbo8.out) (fun hHeld => ?_)
    clear hK K
    (try simp only [Act.put, List.getElem_toArray, List.getElem_cons_zero, List.getElem_cons_succ, List.setIfInBounds_toArray, List.set_cons_zero, List.set_cons_succ])
    refine wpAnyH_done (by kernel_rfl) ?_ _
    clear hHeld
    show wpAnyIn _ _ _ _ _ _ _ _ _ _
    have d8 := cell_of_row _ _ 0 _ _ _ Hbo8.out
    have f8 := frozen_of_row _ _ 0 _ _ Hbo8.out
    refine wpAnyIn_ready (rs := [6]) (by kernel_rfl) (by simp) ?_
    refine AllReadyIn.cons rfl (fun K hK => ?_) AllReadyIn.nil
    go_simp
    refine hK _ _ ?_
    clear hK K
    refine wpAnyIn_done (by kernel_rfl) ?_ _
    gi_wp2
    have hg9 := grownBy_setCell' w8 w2.heap.size (.slice A8 1 c8)
    have hw2 := Hs3.out
    refine ⟨⟨by have := hg9.size; omega, fun k o hk ho hc => ?_⟩, ?_, ⟨A8, c8, ?_⟩, ?_⟩
    · exact (hg9.block k (by have := (Array.getElem?_eq_some_iff.1 ho).1; omega) (fun e => by injection e; omega)).trans ((HB8.out.block k (Array.getElem?_eq_some_iff.1 ho).1).trans ho)
    · exact (hg9.block _ (by omega) (fun e => by injection e; omega)).trans Hbx8.out
    · exact heap_setCell_same w8 w2.heap.size 0 _ _ _ Hbo8.out
    · exact (Hbw.out.trans (HB8.out.mono hsW)).grown hg9 (by omega) (fun q e => by injection e; omega)
  case done =>
    rintro D W hD ⟨⟨A, c, hc⟩, hbw⟩ hK
    have Hbw := Lib.hid hbw
    have HK := Lib.hid hK
    have c0 := cell_of_row _ _ 0 _ _ _ hc
    clear hc hbw hK
    gi_wp2
    refine ⟨by simp, .inl ⟨_, _, rfl, run_takeDeferred HK.out, ?_⟩⟩
    refine ⟨_, results_tmp2 rfl _ _ _, ?_⟩
    exact ⟨⟨A, c, rfl⟩, Hbw.out.grown (grownBy_putObj' _ D _) Hbw.out.size (fun g e => by injection e with e; have := Hs3.out; omega)⟩
end Go.Proofs.YtfmkmhhghmdakaaGreatDoor
namespace Go.Proofs.YtfmkmhhghmdakaaGreatDoor
open Go.RowKit Go.Shelf Go.Lib Go.Sort
set_option linter.unusedVariables false
set_option linter.unusedSimpArgs false

theorem limN_any (x : Int) (h : 0 ≤ x) (h2 : x ≤ 1099511627776) (w : World) : Calls Tryz.prog 164 #[.int .i64 x] w fun e w' => e = .returned (.bool true) ∧ w' = w := by
  have h' : x ≥ 0 := h
  go_enter Tryz.func164, Tryz.ntmps164
  go_wp2
  go_ret
  exact ⟨by simp [h, h2], rfl⟩
theorem share1_any (x : Int) (h : 0 ≤ x) (h2 : x ≤ 1099511627776) (w : World) : Calls Tryz.prog 166 #[.int .i64 x] w fun e w' => e = .returned (.bool false) ∧ w' = w := by
  go_enter Tryz.func166, Tryz.ntmps166
  go_wp2_with (first
    | (go_at_call 164; refine (limN_any x h h2 _).mono ?_; rintro e w1 ⟨rfl, rfl⟩)
    | fail)
  go_ret
  exact ⟨rfl, rfl⟩
set_option maxHeartbeats 1000000 in
theorem indexI_any (g : Nat) (w : World) (h0 : w.cell? ⟨g, 0, none⟩ = some (.int .i64 1)) (h1 : w.cell? ⟨g, 1, none⟩ = some (.int .i64 2)) :
    Calls Tryz.prog 244 #[.slice (some ⟨g, 0, none⟩) 2 2, .func (.func 166) #[] #[]] w fun e w' => e = .returned (.int .i64 (-1)) ∧ w' = w := by
  have eg : ∀ args w, (callFunc 166 args).run Tryz.prog w = .ok (.enter 166 args) w := enters_of Tryz.func166 (by kernel_rfl) rfl
  go_enter Tryz.func244, Tryz.ntmps244
  go_wp2
  go_loop [8] (fun iv => iv = .int .i64 0 ∨ iv = .int .i64 1 ∨ iv = .int .i64 2) (fun iv => 2 - (intOf iv).toNat)
  case atStart => exact .inl rfl
  case round =>
    rcases hrel with rfl | rfl | rfl
    · go_wp2_with (first
        | (go_at_call 166; refine (share1_any 1 (by omega) (by omega) _).mono ?_; rintro e w1 ⟨rfl, rfl⟩)
        | fail)
      go_round
      case rel => exact .inr (.inl rfl)
      case measure => decide
    · go_wp2_with (first
        | (go_at_call 166; refine (share1_any 2 (by omega) (by omega) _).mono ?_; rintro e w1 ⟨rfl, rfl⟩)
        | fail)
      go_round
      case rel => exact .inr (.inr rfl)
      case measure => decide
    · go_wp2
      go_ret
      exact ⟨rfl, rfl⟩
theorem containsI_any (g : Nat) (w : World) (h0 : w.cell? ⟨g, 0, none⟩ = some (.int .i64 1)) (h1 : w.cell? ⟨g, 1, none⟩ = some (.int .i64 2)) :
    Calls Tryz.prog 165 #[.slice (some ⟨g, 0, none⟩) 2 2, .func (.func 166) #[] #[]] w fun e w' => e = .returned (.bool false) ∧ w' = w := by
  go_enter Tryz.func165, Tryz.ntmps165
  go_wp2_with (first
    | (go_at_call 244; refine (indexI_any g _ h0 h1).mono ?_; rintro e w1 ⟨rfl, rfl⟩)
    | fail)
  go_ret
  exact ⟨rfl, rfl⟩
theorem mul31_any (w : World) : Calls Tryz.prog 309 #[.int .u64 3, .int .u64 1] w fun e w' => e = .returned (.tuple #[.int .u64 0, .int .u64 3]) ∧ w' = w := by
  go_enter Tryz.func309, Tryz.ntmps309
  go_wp2
  refine bodyPost_ret (v := .tuple #[.int .u64 0, .int .u64 3]) (by simp [results, Tryz.results309, go_sem, *]; kernel_rfl) rfl ?_
  exact ⟨rfl, rfl⟩
theorem mul32_any (w : World) : Calls Tryz.prog 309 #[.int .u64 3, .int .u64 2] w fun e w' => e = .returned (.tuple #[.int .u64 0, .int .u64 6]) ∧ w' = w := by
  go_enter Tryz.func309, Tryz.ntmps309
  go_wp2
  refine bodyPost_ret (v := .tuple #[.int .u64 0, .int .u64 6]) (by simp [results, Tryz.results309, go_sem, *]; kernel_rfl) rfl ?_
  exact ⟨rfl, rfl⟩
theorem div31_any (w : World) : Calls Tryz.prog 246 #[.int .u64 0, .int .u64 3, .int .u64 3] w fun e w' => e = .returned (.tuple #[.int .u64 1, .int .u64 0]) ∧ Below w.heap.size w w' := by
  go_enter Tryz.func246, Tryz.ntmps246
  go_upto_region 6 with fail
  go_quiet (fail)
  go_wp2
  refine bodyPost_ret (v := .tuple #[.int .u64 1, .int .u64 0]) (by simp [results, Tryz.results246, go_sem, *]) rfl ?_
  exact ⟨rfl, (by repeat' (first | with_reducible exact Below.refl _ _ | with_reducible refine below_drewN ?_ _ | with_reducible refine Below.drew ?_ | with_reducible refine Below.alloc ?_ ?_ _ | with_reducible refine Below.setCell ?_ ?_ _ | with_reducible refine Below.trans ?_ (Below.mono (by with_reducible assumption) ?_) | (simp; done) | (simp; omega) | omega))⟩
theorem div32_any (w : World) : Calls Tryz.prog 246 #[.int .u64 0, .int .u64 6, .int .u64 3] w fun e w' => e = .returned (.tuple #[.int .u64 2, .int .u64 0]) ∧ Below w.heap.size w w' := by
  go_enter Tryz.func246, Tryz.ntmps246
  go_upto_region 6 with fail
  go_quiet (fail)
  go_wp2
  refine bodyPost_ret (v := .tuple #[.int .u64 2, .int .u64 0]) (by simp [results, Tryz.results246, go_sem, *]) rfl ?_
  exact ⟨rfl, (by repeat' (first | with_reducible exact Below.refl _ _ | with_reducible refine below_drewN ?_ _ | with_reducible refine Below.drew ?_ | with_reducible refine Below.alloc ?_ ?_ _ | with_reducible refine Below.setCell ?_ ?_ _ | with_reducible refine Below.trans ?_ (Below.mono (by with_reducible assumption) ?_) | (simp; done) | (simp; omega) | omega))⟩
theorem prod31_any (w : World) : Calls Tryz.prog 245 #[.int .i64 3, .int .i64 1] w fun e w' => e = .returned (.agg #[.int .u64 0, .int .u64 3]) ∧ Below w.heap.size w w' := by
  go_enter Tryz.func245, Tryz.ntmps245
  go_wp2_with (first
    | (go_at_call 309; refine (mul31_any _).mono ?_; rintro e w1 ⟨rfl, rfl⟩)
    | fail)
  refine bodyPost_ret (v := .agg #[.int .u64 0, .int .u64 3]) (by simp [results, Tryz.results245, go_sem, *]) rfl ?_
  exact ⟨rfl, (by repeat' (first | with_reducible exact Below.refl _ _ | with_reducible refine below_drewN ?_ _ | with_reducible refine Below.drew ?_ | with_reducible refine Below.alloc ?_ ?_ _ | with_reducible refine Below.setCell ?_ ?_ _ | with_reducible refine Below.trans ?_ (Below.mono (by with_reducible assumption) ?_) | (simp; done) | (simp; omega) | omega))⟩
theorem divide31_any (w : World) : Calls Tryz.prog 167 #[.int .i64 3, .int .i64 1, .int .i64 3] w fun e w' => e = .returned (.tuple #[.int .i64 1, .int .i64 0]) ∧ Below w.heap.size w w' := by
  go_enter Tryz.func167, Tryz.ntmps167
  go_wp2_with (first
    | (go_at_call 245
       refine (prod31_any _).mono ?_
       rintro e w1 ⟨rfl, hb1⟩
       have hs1 := hb1.size
       have Hb1 := Lib.hid hb1
       clear hb1)
    | (go_at_call 246
       refine (div31_any _).mono ?_
       rintro e w2 ⟨rfl, hb2⟩
       have Hb2 : Hid (Below w.heap.size w w2) := Lib.hid (Hb1.out.trans (by have hbq := hb2; exact (((Below.refl w1.heap.size w1).alloc (Nat.le_refl _) _).trans (hb2.mono (by simp))).mono hs1))
       clear hb2)
    | fail)
  refine bodyPost_ret (v := .tuple #[.int .i64 1, .int .i64 0]) (by simp [results, Tryz.results167, go_sem, *]; try kernel_rfl) rfl ?_
  exact ⟨rfl, Hb2.out⟩
theorem prod32_any (w : World) : Calls Tryz.prog 245 #[.int .i64 3, .int .i64 2] w fun e w' => e = .returned (.agg #[.int .u64 0, .int .u64 6]) ∧ Below w.heap.size w w' := by
  go_enter Tryz.func245, Tryz.ntmps245
  go_wp2_with (first
    | (go_at_call 309; refine (mul32_any _).mono ?_; rintro e w1 ⟨rfl, rfl⟩)
    | fail)
  refine bodyPost_ret (v := .agg #[.int .u64 0, .int .u64 6]) (by simp [results, Tryz.results245, go_sem, *]) rfl ?_
  exact ⟨rfl, (by repeat' (first | with_reducible exact Below.refl _ _ | with_reducible refine below_drewN ?_ _ | with_reducible refine Below.drew ?_ | with_reducible refine Below.alloc ?_ ?_ _ | with_reducible refine Below.setCell ?_ ?_ _ | with_reducible refine Below.trans ?_ (Below.mono (by with_reducible assumption) ?_) | (simp; done) | (simp; omega) | omega))⟩
theorem divide32_any (w : World) : Calls Tryz.prog 167 #[.int .i64 3, .int .i64 2, .int .i64 3] w fun e w' => e = .returned (.tuple #[.int .i64 2, .int .i64 0]) ∧ Below w.heap.size w w' := by
  go_enter Tryz.func167, Tryz.ntmps167
  go_wp2_with (first
    | (go_at_call 245
       refine (prod32_any _).mono ?_
       rintro e w1 ⟨rfl, hb1⟩
       have hs1 := hb1.size
       have Hb1 := Lib.hid hb1
       clear hb1)
    | (go_at_call 246
       refine (div32_any _).mono ?_
       rintro e w2 ⟨rfl, hb2⟩
       have Hb2 : Hid (Below w.heap.size w w2) := Lib.hid (Hb1.out.trans (by have hbq := hb2; exact (((Below.refl w1.heap.size w1).alloc (Nat.le_refl _) _).trans (hb2.mono (by simp))).mono hs1))
       clear hb2)
    | fail)
  refine bodyPost_ret (v := .tuple #[.int .i64 2, .int .i64 0]) (by simp [results, Tryz.results167, go_sem, *]; try kernel_rfl) rfl ?_
  exact ⟨rfl, Hb2.out⟩
end Go.Proofs.YtfmkmhhghmdakaaGreatDoor
namespace Go.Proofs.YtfmkmhhghmdakaaGreatDoor
open Go.RowKit Go.Shelf Go.Lib Go.Sort
set_option linter.unusedVariables false
set_option linter.unusedSimpArgs false

def encF (i : Fin 2) : Value := .int .i64 (i.val : Int)
def cmpF (i j : Fin 2) : Int := cI (i.val : Int) (j.val : Int)
set_option maxHeartbeats 2000000 in
theorem cmpF_any (gb gr : Nat) (x y : Fin 2) (W : World) (hb : W.cell? ⟨gb, 0, none⟩ = some (.slice (some ⟨gr, 0, none⟩) 2 2)) (h0 : W.cell? ⟨gr, 0, none⟩ = some (.int .i64 0)) (h1 : W.cell? ⟨gr, 1, none⟩ = some (.int .i64 0)) :
    Calls Tryz.prog 169 #[encF x, encF y, .pointer (some ⟨gb, 0, none⟩)] W fun e w' => e = .returned (.int .i64 (cmpF x y)) ∧ ∃ q os', w' = Sort.grow (W.drewN q) os' := by
  have hlb := World.block_lt_of_cell? W _ hb
  have hlr := World.block_lt_of_cell? W _ h0
  dsimp only at hlb hlr
  have H00 : Hid (∀ W, Calls Tryz.prog 171 #[.int .i64 0, .int .i64 0] W fun e w' => e = .returned (.int .i64 0) ∧ w' = W) := Lib.hid (fun W => cmpI_any 0 0 W)
  have K00 : x = 0 → y = 0 → Calls Tryz.prog 169 #[encF x, encF y, .pointer (some ⟨gb, 0, none⟩)] W fun e w' => e = .returned (.int .i64 (cmpF x y)) ∧ ∃ q os', w' = Sort.grow (W.drewN q) os' := by
    rintro rfl rfl
    have HXY : Hid (∀ W, Calls Tryz.prog 171 #[.int .i64 0, .int .i64 0] W fun e w' => e = .returned (.int .i64 0) ∧ w' = W) := Lib.hid (fun W => cmpI_any 0 0 W)
    have Hor : Hid (Calls Tryz.prog 170 #[.slice (some ⟨W.heap.size, 0, none⟩) 2 2] (W.alloc (.cells #[.int .i64 0, .int .i64 0] 3)).drew fun e w' => e = .returned (.int .i64 0) ∧ w' = (W.alloc (.cells #[.int .i64 0, .int .i64 0] 3)).drew) := Lib.hid (orI_any W.heap.size 0 0 (W.alloc (.cells #[.int .i64 0, .int .i64 0] 3)).drew (cell_of_row _ _ 0 _ _ _ (heap_alloc_new W _)) (cell_of_row _ _ 1 _ _ _ (heap_alloc_new W _)))
    show Calls Tryz.prog 169 #[.int .i64 0, .int .i64 0, .pointer (some ⟨gb, 0, none⟩)] W fun e w' => e = .returned (.int .i64 0) ∧ ∃ q os', w' = Sort.grow (W.drewN q) os'
    go_enter Tryz.func169, Tryz.ntmps169
    go_upto_region 1 with fail
    go_region_held3 (fun w' => w'.cell? ⟨gb, 0, none⟩ = some (.slice (some ⟨gr, 0, none⟩) 2 2) ∧ w'.cell? ⟨gr, 0, none⟩ = some (.int .i64 0) ∧ w'.cell? ⟨gr, 1, none⟩ = some (.int .i64 0))
      (first | exact ⟨hb, h0, h1⟩ | exact ⟨(World.cell?_alloc_lt W _ ⟨gb, 0, none⟩ hlb).trans hb, (World.cell?_alloc_lt W _ ⟨gr, 0, none⟩ hlr).trans h0, (World.cell?_alloc_lt W _ ⟨gr, 1, none⟩ hlr).trans h1⟩ | go_keep)
      (first
        | (go_at_call 170; refine Hor.out.mono ?_; rintro e w1 ⟨rfl, rfl⟩)
        | (go_at_call 171; have hq := HC1.out; refine (HXY.out _).mono ?_; rintro e w1 ⟨rfl, rfl⟩)
        | (go_at_call 171; refine (H00.out _).mono ?_; rintro e w1 ⟨rfl, rfl⟩; have HC1 := Lib.hid True.intro)
        | fail)
    all_goals go_wp2
    all_goals go_ret
    all_goals exact ⟨rfl, 1, _, by rw [alloc_eq_grow]; rfl⟩
  have K01 : x = 0 → y = 1 → Calls Tryz.prog 169 #[encF x, encF y, .pointer (some ⟨gb, 0, none⟩)] W fun e w' => e = .returned (.int .i64 (cmpF x y)) ∧ ∃ q os', w' = Sort.grow (W.drewN q) os' := by
    rintro rfl rfl
    have HXY : Hid (∀ W, Calls Tryz.prog 171 #[.int .i64 0, .int .i64 1] W fun e w' => e = .returned (.int .i64 (-1)) ∧ w' = W) := Lib.hid (fun W => cmpI_any 0 1 W)
    have Hor : Hid (Calls Tryz.prog 170 #[.slice (some ⟨W.heap.size, 0, none⟩) 2 2] (W.alloc (.cells #[.int .i64 0, .int .i64 (-1)] 3)).drew fun e w' => e = .returned (.int .i64 (-1)) ∧ w' = (W.alloc (.cells #[.int .i64 0, .int .i64 (-1)] 3)).drew) := Lib.hid (orI_any W.heap.size 0 (-1) (W.alloc (.cells #[.int .i64 0, .int .i64 (-1)] 3)).drew (cell_of_row _ _ 0 _ _ _ (heap_alloc_new W _)) (cell_of_row _ _ 1 _ _ _ (heap_alloc_new W _)))
    show Calls Tryz.prog 169 #[.int .i64 0, .int .i64 1, .pointer (some ⟨gb, 0, none⟩)] W fun e w' => e = .returned (.int .i64 (-1)) ∧ ∃ q os', w' = Sort.grow (W.drewN q) os'
    go_enter Tryz.func169, Tryz.ntmps169
    go_upto_region 1 with fail
    go_region_held3 (fun w' => w'.cell? ⟨gb, 0, none⟩ = some (.slice (some ⟨gr, 0, none⟩) 2 2) ∧ w'.cell? ⟨gr, 0, none⟩ = some (.int .i64 0) ∧ w'.cell? ⟨gr, 1, none⟩ = some (.int .i64 0))
      (first | exact ⟨hb, h0, h1⟩ | exact ⟨(World.cell?_alloc_lt W _ ⟨gb, 0, none⟩ hlb).trans hb, (World.cell?_alloc_lt W _ ⟨gr, 0, none⟩ hlr).trans h0, (World.cell?_alloc_lt W _ ⟨gr, 1, none⟩ hlr).trans h1⟩ | go_keep)
      (first
        | (go_at_call 170; refine Hor.out.mono ?_; rintro e w1 ⟨rfl, rfl⟩)
        | (go_at_call 171; have hq := HC1.out; refine (HXY.out _).mono ?_; rintro e w1 ⟨rfl, rfl⟩)
        | (go_at_call 171; refine (H00.out _).mono ?_; rintro e w1 ⟨rfl, rfl⟩; have HC1 := Lib.hid True.intro)
        | fail)
    all_goals go_wp2
    all_goals go_ret
    all_goals exact ⟨rfl, 1, _, by rw [alloc_eq_grow]; rfl⟩
  have K10 : x = 1 → y = 0 → Calls Tryz.prog 169 #[encF x, encF y, .pointer (some ⟨gb, 0, none⟩)] W fun e w' => e = .returned (.int .i64 (cmpF x y)) ∧ ∃ q os', w' = Sort.grow (W.drewN q) os' := by
    rintro rfl rfl
    have HXY : Hid (∀ W, Calls Tryz.prog 171 #[.int .i64 1, .int .i64 0] W fun e w' => e = .returned (.int .i64 1) ∧ w' = W) := Lib.hid (fun W => cmpI_any 1 0 W)
    have Hor : Hid (Calls Tryz.prog 170 #[.slice (some ⟨W.heap.size, 0, none⟩) 2 2] (W.alloc (.cells #[.int .i64 0, .int .i64 1] 3)).drew fun e w' => e = .returned (.int .i64 1) ∧ w' = (W.alloc (.cells #[.int .i64 0, .int .i64 1] 3)).drew) := Lib.hid (orI_any W.heap.size 0 1 (W.alloc (.cells #[.int .i64 0, .int .i64 1] 3)).drew (cell_of_row _ _ 0 _ _ _ (heap_alloc_new W _)) (cell_of_row _ _ 1 _ _ _ (heap_alloc_new W _)))
    show Calls Tryz.prog 169 #[.int .i64 1, .int .i64 0, .pointer (some ⟨gb, 0, none⟩)] W fun e w' => e = .returned (.int .i64 1) ∧ ∃ q os', w' = Sort.grow (W.drewN q) os'
    go_enter Tryz.func169, Tryz.ntmps169
    go_upto_region 1 with fail
    go_region_held3 (fun w' => w'.cell? ⟨gb, 0, none⟩ = some (.slice (some ⟨gr, 0, none⟩) 2 2) ∧ w'.cell? ⟨gr, 0, none⟩ = some (.int .i64 0) ∧ w'.cell? ⟨gr, 1, none⟩ = some (.int .i64 0))
      (first | exact ⟨hb, h0, h1⟩ | exact ⟨(World.cell?_alloc_lt W _ ⟨gb, 0, none⟩ hlb).trans hb, (World.cell?_alloc_lt W _ ⟨gr, 0, none⟩ hlr).trans h0, (World.cell?_alloc_lt W _ ⟨gr, 1, none⟩ hlr).trans h1⟩ | go_keep)
      (first
        | (go_at_call 170; refine Hor.out.mono ?_; rintro e w1 ⟨rfl, rfl⟩)
        | (go_at_call 171; have hq := HC1.out; refine (HXY.out _).mono ?_; rintro e w1 ⟨rfl, rfl⟩)
        | (go_at_call 171; refine (H00.out _).mono ?_; rintro e w1 ⟨rfl, rfl⟩; have HC1 := Lib.hid True.intro)
        | fail)
    all_goals go_wp2
    all_goals go_ret
    all_goals exact ⟨rfl, 1, _, by rw [alloc_eq_grow]; rfl⟩
  have K11 : x = 1 → y = 1 → Calls Tryz.prog 169 #[encF x, encF y, .pointer (some ⟨gb, 0, none⟩)] W fun e w' => e = .returned (.int .i64 (cmpF x y)) ∧ ∃ q os', w' = Sort.grow (W.drewN q) os' := by
    rintro rfl rfl
    have HXY : Hid (∀ W, Calls Tryz.prog 171 #[.int .i64 1, .int .i64 1] W fun e w' => e = .returned (.int .i64 0) ∧ w' = W) := Lib.hid (fun W => cmpI_any 1 1 W)
    have Hor : Hid (Calls Tryz.prog 170 #[.slice (some ⟨W.heap.size, 0, none⟩) 2 2] (W.alloc (.cells #[.int .i64 0, .int .i64 0] 3)).drew fun e w' => e = .returned (.int .i64 0) ∧ w' = (W.alloc (.cells #[.int .i64 0, .int .i64 0] 3)).drew) := Lib.hid (orI_any W.heap.size 0 0 (W.alloc (.cells #[.int .i64 0, .int .i64 0] 3)).drew (cell_of_row _ _ 0 _ _ _ (heap_alloc_new W _)) (cell_of_row _ _ 1 _ _ _ (heap_alloc_new W _)))
    show Calls Tryz.prog 169 #[.int .i64 1, .int .i64 1, .pointer (some ⟨gb, 0, none⟩)] W fun e w' => e = .returned (.int .i64 0) ∧ ∃ q os', w' = Sort.grow (W.drewN q) os'
    go_enter Tryz.func169, Tryz.ntmps169
    go_upto_region 1 with fail
    go_region_held3 (fun w' => w'.cell? ⟨gb, 0, none⟩ = some (.slice (some ⟨gr, 0, none⟩) 2 2) ∧ w'.cell? ⟨gr, 0, none⟩ = some (.int .i64 0) ∧ w'.cell? ⟨gr, 1, none⟩ = some (.int .i64 0))
      (first | exact ⟨hb, h0, h1⟩ | exact ⟨(World.cell?_alloc_lt W _ ⟨gb, 0, none⟩ hlb).trans hb, (World.cell?_alloc_lt W _ ⟨gr, 0, none⟩ hlr).trans h0, (World.cell?_alloc_lt W _ ⟨gr, 1, none⟩ hlr).trans h1⟩ | go_keep)
      (first
        | (go_at_call 170; refine Hor.out.mono ?_; rintro e w1 ⟨rfl, rfl⟩)
        | (go_at_call 171; have hq := HC1.out; refine (HXY.out _).mono ?_; rintro e w1 ⟨rfl, rfl⟩)
        | (go_at_call 171; refine (H00.out _).mono ?_; rintro e w1 ⟨rfl, rfl⟩; have HC1 := Lib.hid True.intro)
        | fail)
    all_goals go_wp2
    all_goals go_ret
    all_goals exact ⟨rfl, 1, _, by rw [alloc_eq_grow]; rfl⟩
  match x, y with
  | 0, 0 => exact K00 rfl rfl
  | 0, 1 => exact K01 rfl rfl
  | 1, 0 => exact K10 rfl rfl
  | 1, 1 => exact K11 rfl rfl
theorem swoF : Sort.SWO (ltOf cmpF) where
  irrefl x := by unfold ltOf cmpF; rcases cI_cases (x.val : Int) (x.val : Int) with h | h | h <;> simp [h.1] <;> omega
  trans x y z h1 h2 := by
    unfold ltOf cmpF at *
    rcases cI_cases (x.val : Int) (y.val : Int) with a | a | a <;> rcases cI_cases (y.val : Int) (z.val : Int) with b | b | b <;> rcases cI_cases (x.val : Int) (z.val : Int) with c | c | c <;> simp [a.1, b.1, c.1] at * <;> omega
  ntrans x y z h1 h2 := by
    unfold ltOf cmpF at *
    rcases cI_cases (x.val : Int) (y.val : Int) with a | a | a <;> rcases cI_cases (y.val : Int) (z.val : Int) with b | b | b <;> rcases cI_cases (x.val : Int) (z.val : Int) with c | c | c <;> simp [a.1, b.1, c.1] at * <;> omega
set_option maxHeartbeats 2000000 in
/-- Sorting the order of two: something stands in its row. -/
theorem sortF_any (g gb gr : Nat) (w : World) (hg : w.heap[g]? = some (.cells #[.int .i64 0, .int .i64 1] 3 (0, 0))) (hb : w.heap[gb]? = some (.cells #[.slice (some ⟨gr, 0, none⟩) 2 2] 22 (0, 0))) (hr : w.heap[gr]? = some (.cells #[.int .i64 0, .int .i64 0] 3 (0, 0))) (h1 : g ≠ gb) (h2 : g ≠ gr) :
    Calls Tryz.prog 168 #[.slice (some ⟨g, 0, none⟩) 2 2, .func (.func 169) #[] #[.pointer (some ⟨gb, 0, none⟩)]] w fun e w' => e = .returned (.tuple #[]) ∧ w.grownBy w' (some g) := by
  have hl : ∀ k o, w.heap[k]? = some o → k < w.heap.size := fun k o h => by
    rcases Nat.lt_or_ge k w.heap.size with h' | h'
    · exact h'
    · rw [Array.getElem?_eq_none h'] at h; cases h
  have hlg := hl _ _ hg
  have hlb := hl _ _ hb
  have hlr := hl _ _ hr
  have eg : ∀ args w, (callFunc 169 args).run Tryz.prog w = .ok (.enter 169 args) w := enters_of Tryz.func169 (by kernel_rfl) rfl
  have hH : Holds encF w g 0 ([0, 1] : List (Fin 2)).toArray := holds_blk (ss := ([0, 1] : List (Fin 2))) hg (by rfl)
  have hcmp : CmpLays1 Tryz.prog 169 #[.pointer (some ⟨gb, 0, none⟩)] encF cmpF g 0 ([0, 1] : List (Fin 2)).toArray.size w := by
    intro m os dk hd x y
    have hstay : ∀ k o, k ≠ g → k < w.heap.size → w.heap[k]? = some o → (sortWorld encF w g 0 m dk os).heap[k]? = some o := fun k o hne hk h => by
      unfold sortWorld
      rw [heap_grow_old _ _ (by simpa [Sort.putRow, Sort.mapBlock, Sort.ahead] using hk)]
      have : g ≠ k := fun e => hne e.symm
      simp [Sort.putRow, Sort.mapBlock, Sort.ahead, Array.getElem?_modify, this, h]
    have hb' := hstay gb _ (fun e => h1 e.symm) hlb hb
    have hr' := hstay gr _ (fun e => h2 e.symm) hlr hr
    exact cmpF_any gb gr x y _ (cell_of_row _ gb 0 _ _ _ hb') (cell_of_row _ gr 0 _ _ _ hr') (cell_of_row _ gr 1 _ _ _ hr')
  refine (Any.slices_SortFunc Tryz.laySortInts encF (fun _ => rfl) cmpF swoF 169 #[.pointer (some ⟨gb, 0, none⟩)] g 0 2 ([0, 1] : List (Fin 2)).toArray w eg hcmp hH hlg (by decide)).mono ?_
  rintro e w' ⟨rfl, d', n, os, _, _, rfl⟩
  refine ⟨rfl, rfl, rfl, rfl, by simp [sortWorld, Sort.putRow, Sort.mapBlock, Sort.ahead, Sort.grow], fun k hk hne => ?_⟩
  unfold sortWorld
  rw [heap_grow_old _ _ (by simpa [Sort.putRow, Sort.mapBlock, Sort.ahead] using hk)]
  have : g ≠ k := fun e => hne (by rw [e])
  simp [Sort.putRow, Sort.mapBlock, Sort.ahead, Array.getElem?_modify, this]
end Go.Proofs.YtfmkmhhghmdakaaGreatDoor
namespace Go.Proofs.YtfmkmhhghmdakaaGreatDoor
open Go.RowKit Go.Shelf
set_option linter.unusedVariables false
set_option linter.unusedSimpArgs false

/-- The four blocks of Shares. -/
structure Sh4 (W : World) (s : Nat) (a b c d : Int) : Prop where
  out : W.heap[s]? = some (.cells #[.int .i64 a, .int .i64 b] 3 (0, 0))
  idx : W.heap[s + 1]? = some (.cells #[.int .i64 c, .int .i64 d] 3 (0, 0))
  rst : W.heap[s + 2]? = some (.cells #[.int .i64 0, .int .i64 0] 3 (0, 0))
  box : W.heap[s + 3]? = some (.cells #[.slice (some ⟨s + 2, 0, none⟩) 2 2] 22 (0, 0))
theorem Sh4.lt {W : World} {s : Nat} {a b c d : Int} (h : Sh4 W s a b c d) : s + 3 < W.heap.size := (Array.getElem?_eq_some_iff.1 h.box).1
theorem Sh4.below {W W' : World} {s : Nat} {a b c d : Int} (h : Sh4 W s a b c d) (hb : Below W.heap.size W W') : Sh4 W' s a b c d := by
  have hl := h.lt
  exact ⟨(hb.block _ (by omega)).trans h.out, (hb.block _ (by omega)).trans h.idx, (hb.block _ (by omega)).trans h.rst, (hb.block _ (by omega)).trans h.box⟩
theorem Sh4.drew {W : World} {s : Nat} {a b c d : Int} (h : Sh4 W s a b c d) : Sh4 W.drew s a b c d := ⟨h.out, h.idx, h.rst, h.box⟩
theorem Sh4.out0 {W : World} {s : Nat} {a b c d : Int} (h : Sh4 W s a b c d) (x : Int) : Sh4 (W.setCell ⟨s, 0, none⟩ (.int .i64 x)) s x b c d := by
  have hl := h.lt
  have hg := grownBy_setCell' W s (.int .i64 x)
  exact ⟨heap_setCell_same W s 0 _ _ _ h.out, (hg.block _ (by omega) (by simp)).trans h.idx, (hg.block _ (by omega) (by simp)).trans h.rst, (hg.block _ (by omega) (by simp)).trans h.box⟩
theorem grownBy_cell (W : World) (b i : Nat) (v : Value) : W.grownBy (W.setCell ⟨b, i, none⟩ v) (some b) := by
  refine ⟨rfl, rfl, rfl, by simp [World.setCell], fun k hk hne => ?_⟩
  have : b ≠ k := fun e => hne (by rw [e])
  simp [World.setCell, Array.getElem?_modify, this]
theorem Sh4.set {W : World} {s : Nat} {a b c d : Int} (h : Sh4 W s a b c d) (x : Int) : Sh4 (W.setCell ⟨s, 1, none⟩ (.int .i64 x)) s a x c d ∧ Sh4 (W.setCell ⟨s + 1, 0, none⟩ (.int .i64 x)) s a b x d ∧ Sh4 (W.setCell ⟨s + 1, 1, none⟩ (.int .i64 x)) s a b c x ∧ Sh4 (W.setCell ⟨s + 2, 0, none⟩ (.int .i64 0)) s a b c d ∧ Sh4 (W.setCell ⟨s + 2, 1, none⟩ (.int .i64 0)) s a b c d := by
  have hl := h.lt
  have h1 := fun i v => (grownBy_cell W s i v)
  have h2 := fun i v => (grownBy_cell W (s + 1) i v)
  have h3 := fun i v => (grownBy_cell W (s + 2) i v)
  exact ⟨⟨heap_setCell_same W s 1 _ _ _ h.out, ((h1 _ _).block _ (by omega) (by simp)).trans h.idx, ((h1 _ _).block _ (by omega) (by simp)).trans h.rst, ((h1 _ _).block _ (by omega) (by simp)).trans h.box⟩,
    ⟨((h2 _ _).block _ (by omega) (by simp)).trans h.out, heap_setCell_same W (s + 1) 0 _ _ _ h.idx, ((h2 _ _).block _ (by omega) (by simp)).trans h.rst, ((h2 _ _).block _ (by omega) (by simp)).trans h.box⟩,
    ⟨((h2 _ _).block _ (by omega) (by simp)).trans h.out, heap_setCell_same W (s + 1) 1 _ _ _ h.idx, ((h2 _ _).block _ (by omega) (by simp)).trans h.rst, ((h2 _ _).block _ (by omega) (by simp)).trans h.box⟩,
    ⟨((h3 _ _).block _ (by omega) (by simp)).trans h.out, ((h3 _ _).block _ (by omega) (by simp)).trans h.idx, heap_setCell_same W (s + 2) 0 _ _ _ h.rst, ((h3 _ _).block _ (by omega) (by simp)).trans h.box⟩,
    ⟨((h3 _ _).block _ (by omega) (by simp)).trans h.out, ((h3 _ _).block _ (by omega) (by simp)).trans h.idx, heap_setCell_same W (s + 2) 1 _ _ _ h.rst, ((h3 _ _).block _ (by omega) (by simp)).trans h.box⟩⟩
set_option maxHeartbeats 8000000 in
set_option maxRecDepth 100000 in
theorem shares_any (g : Nat) (w : World) (hg : w.heap[g]? = some (.cells #[.int .i64 1, .int .i64 2] 3 (0, 0))) :
    Calls Tryz.prog 63 #[.int .i64 3, .slice (some ⟨g, 0, none⟩) 2 2] w fun e w' => e = .returned (.tuple #[.slice (some ⟨w.heap.size, 0, none⟩) 2 2, .int .i64 0]) ∧ Below w.heap.size w w' ∧ w'.heap[w.heap.size]? = some (.cells #[.int .i64 1, .int .i64 2] 3 (0, 0)) := by
  have hgl : g < w.heap.size := (Array.getElem?_eq_some_iff.1 hg).1
  have g0 := cell_of_row _ _ 0 _ _ _ hg
  have g1 := cell_of_row _ _ 1 _ _ _ hg
  have Hg := Lib.hid hg
  have eg : ∀ args w, (callFunc 166 args).run Tryz.prog w = .ok (.enter 166 args) w := enters_of Tryz.func166 (by kernel_rfl) rfl
  have hmk : ∀ W : World, (Instr.makeSlice 22 (.int .i64 2) (.int .i64 2)).run Tryz.prog W = .ok (.slice (some ⟨W.heap.size, 0, none⟩) 2 2) (W.alloc (.cells (madeCells #[.int .i64 0] 2) 3)) := fun W => run_make_row' (P := Tryz.prog) 22 3 (.int .i64 0) 8 Tryz.underlying22 Tryz.infoInt rfl .i64 .i64 2 (by omega) (by omega) W
  have Hmk := Lib.hid hmk
  clear hg hmk
  go_enter Tryz.func63, Tryz.ntmps63
  go_wp2_with (first
    | (go_at_call 164; refine (limN_any 3 (by omega) (by omega) _).mono ?_; rintro e w1 ⟨rfl, rfl⟩)
    | (go_at_call 165; refine (containsI_any g _ g0 g1).mono ?_; rintro e w1 ⟨rfl, rfl⟩)
    | fail)
  obtain ⟨w, rfl⟩ : ∃ w : World, w = w1 := ⟨_, rfl⟩
  go_loop [6, 29] (fun sv iv => (sv = .int .i64 0 ∧ iv = .int .i64 0) ∨ (sv = .int .i64 1 ∧ iv = .int .i64 1) ∨ (sv = .int .i64 3 ∧ iv = .int .i64 2)) (fun _ iv => 2 - (intOf iv).toNat)
  case atStart => exact .inl ⟨rfl, rfl⟩
  case round =>
    rcases hrel with ⟨rfl, rfl⟩ | ⟨rfl, rfl⟩ | ⟨rfl, rfl⟩
    · go_wp2
      go_round
      case rel => exact .inr (.inl ⟨rfl, rfl⟩)
      case measure => decide
    · go_wp2
      go_round
      case rel => exact .inr (.inr ⟨rfl, rfl⟩)
      case measure => decide
    · have hmk := Hmk.out
      go_upto_region 17 with fail
      clear hmk
      obtain ⟨w1, hw1⟩ : ∃ w1 : World, w1 = (((w.alloc (.cells (madeCells #[.int .i64 0] 2) 3)).alloc (.cells (madeCells #[.int .i64 0] 2) 3)).alloc (.cells (madeCells #[.int .i64 0] 2) 3)).alloc (.cells #[.slice (some ⟨w.heap.size + 2, 0, none⟩) 2 2] 22) := ⟨_, rfl⟩
      have hm2 : madeCells #[.int .i64 0] 2 = #[.int .i64 0, .int .i64 0] := by kernel_rfl
      have h4 : Sh4 w1 w.heap.size 0 0 0 0 := by
        rw [hw1, hm2]
        refine ⟨?_, ?_, ?_, ?_⟩
        · exact (Below.heap_alloc _ _ _ (by first | (simp; done) | (simp; omega))).trans ((Below.heap_alloc _ _ _ (by first | (simp; done) | (simp; omega))).trans ((Below.heap_alloc _ _ _ (by first | (simp; done) | (simp; omega))).trans (heap_alloc_new w _)))
        · exact (Below.heap_alloc _ _ _ (by first | (simp; done) | (simp; omega))).trans ((Below.heap_alloc _ _ _ (by first | (simp; done) | (simp; omega))).trans (by have := heap_alloc_new (w.alloc (.cells #[.int .i64 0, .int .i64 0] 3)) (.cells #[.int .i64 0, .int .i64 0] 3); simpa using this))
        · exact (Below.heap_alloc _ _ _ (by first | (simp; done) | (simp; omega))).trans (by have := heap_alloc_new ((w.alloc (.cells #[.int .i64 0, .int .i64 0] 3)).alloc (.cells #[.int .i64 0, .int .i64 0] 3)) (.cells #[.int .i64 0, .int .i64 0] 3); simpa using this)
        · have := heap_alloc_new (((w.alloc (.cells #[.int .i64 0, .int .i64 0] 3)).alloc (.cells #[.int .i64 0, .int .i64 0] 3)).alloc (.cells #[.int .i64 0, .int .i64 0] 3)) (.cells #[.slice (some ⟨w.heap.size + 2, 0, none⟩) 2 2] 22)
          simpa using this
      have hb1 : Below w.heap.size w w1 := by
        rw [hw1]
        exact ((((Below.refl _ _).alloc (Nat.le_refl _) _).alloc (by simp) _).alloc (by simp; omega) _).alloc (by simp; omega) _
      simp only [Nat.add_assoc, Nat.reduceAdd]
      rw [← hw1]
      obtain ⟨s, hs⟩ : ∃ s, s = w.heap.size := ⟨_, rfl⟩
      rw [← hs] at h4 hb1 hgl ⊢
      have Hs := Lib.hid hs
      have H4 := Lib.hid h4
      have Hb1 := Lib.hid hb1
      clear hw1 hm2 h4 hb1 hs
      go_wp2
      go_loopw [10, 52] (fun lv iv wr => ((lv = .int .i64 3 ∧ iv = .int .i64 0 ∧ Sh4 wr s 0 0 0 0) ∨ (lv = .int .i64 2 ∧ iv = .int .i64 1 ∧ Sh4 wr s 1 0 0 0) ∨ (lv = .int .i64 0 ∧ iv = .int .i64 2 ∧ Sh4 wr s 1 2 0 1)) ∧ Below s w wr) (fun _ iv _ => 2 - (intOf iv).toNat)
      case atStart => exact ⟨.inl ⟨rfl, rfl, H4.out⟩, Hb1.out⟩
      case round =>
        obtain ⟨w2, rfl⟩ : ∃ w2 : World, w2 = wr := ⟨_, rfl⟩
        obtain ⟨hcs, hb2⟩ := hrel
        have Hb2 := Lib.hid hb2
        have hg2 := (hb2.block g hgl).trans Hg.out
        have k0 := cell_of_row _ _ 0 _ _ _ hg2
        have k1 := cell_of_row _ _ 1 _ _ _ hg2
        clear hb2 hg2
        rcases hcs with ⟨rfl, rfl, h4⟩ | ⟨rfl, rfl, h4⟩ | ⟨rfl, rfl, h4⟩
        · have H2 := Lib.hid h4
          clear h4
          go_upto_region 20 with fail
          have d3 := cell_of_row _ _ 0 _ _ _ H2.out.box
          refine wp_region_held_tail (S := fun w' => w'.cell? ⟨s + 3, 0, none⟩ = some (.slice (some ⟨s + 2, 0, none⟩) 2 2)) 13 (by kernel_rfl) (by kernel_rfl) (by kernel_rfl) ?_
          have hHeld : (fun w' : World => w'.cell? ⟨s + 3, 0, none⟩ = some (.slice (some ⟨s + 2, 0, none⟩) 2 2)) w2.drew := d3
          simp only [List.take_succ_cons, List.take_zero, List.replicate]
          refine wpAnyH_take (i := 0) (v := ?vvb0) rfl (by kernel_rfl) (by kernel_rfl) (by kernel_rfl) (fun _ _ _ h => h) (Or.inl ⟨by rfl, ?hyb0⟩) hHeld ?restb0; (case hyb0 => (intro w hSw; (try dsimp only at hSw); go_simp; all_goals (with_reducible rfl))); simp only [Act.put, List.getElem_toArray, List.getElem_cons_zero, List.getElem_cons_succ, List.setIfInBounds_toArray, List.set_cons_zero, List.set_cons_succ]
          refine wpAnyH_take (i := 1) (v := ?vvb1) rfl (by kernel_rfl) (by kernel_rfl) (by kernel_rfl) (fun _ _ _ h => h) (Or.inl ⟨by rfl, ?hyb1⟩) hHeld ?restb1; (case hyb1 => (intro w hSw; (try dsimp only at hSw); go_simp; all_goals (with_reducible rfl))); simp only [Act.put, List.getElem_toArray, List.getElem_cons_zero, List.getElem_cons_succ, List.setIfInBounds_toArray, List.set_cons_zero, List.set_cons_succ]
          refine wpAnyH_take (i := 2) (v := ?vvb2) rfl (by kernel_rfl) (by kernel_rfl) (by kernel_rfl) (fun _ _ _ h => h) (Or.inl ⟨by rfl, ?hyb2⟩) hHeld ?restb2; (case hyb2 => (intro w hSw; (try dsimp only at hSw); go_simp; all_goals (with_reducible rfl))); simp only [Act.put, List.getElem_toArray, List.getElem_cons_zero, List.getElem_cons_succ, List.setIfInBounds_toArray, List.set_cons_zero, List.set_cons_succ]
          refine wpAnyH_take (i := 3) (v := ?vvb3) rfl (by kernel_rfl) (by kernel_rfl) (by kernel_rfl) (fun _ _ _ h => h) (Or.inl ⟨by rfl, ?hyb3⟩) hHeld ?restb3; (case hyb3 => (intro w hSw; (try dsimp only at hSw); go_simp; all_goals (with_reducible rfl))); simp only [Act.put, List.getElem_toArray, List.getElem_cons_zero, List.getElem_cons_succ, List.setIfInBounds_toArray, List.set_cons_zero, List.set_cons_succ]
          refine wpAnyH_take (i := 4) (v := ?vvb4) rfl (by kernel_rfl) (by kernel_rfl) (by kernel_rfl) (fun _ _ _ h => h) (Or.inl ⟨by rfl, ?hyb4⟩) hHeld ?restb4; (case hyb4 => (intro w hSw; (try dsimp only at hSw); go_simp; all_goals (with_reducible rfl))); simp only [Act.put, List.getElem_toArray, List.getElem_cons_zero, List.getElem_cons_succ, List.setIfInBounds_toArray, List.set_cons_zero, List.set_cons_succ]
          refine wpAnyH_take (i := 5) (v := ?vvb5) rfl (by kernel_rfl) (by kernel_rfl) (by kernel_rfl) (fun _ _ _ h => h) (Or.inl ⟨by rfl, ?hyb5⟩) hHeld ?restb5; (case hyb5 => (intro w hSw; (try dsimp only at hSw); go_simp; all_goals (with_reducible rfl))); simp only [Act.put, List.getElem_toArray, List.getElem_cons_zero, List.getElem_cons_succ, List.setIfInBounds_toArray, List.set_cons_zero, List.set_cons_succ]
          refine wpAnyH_take (i := 6) (v := ?vvb6) rfl (by kernel_rfl) (by kernel_rfl) (by kernel_rfl) (fun _ _ _ h => h) (Or.inl ⟨by rfl, ?hyb6⟩) hHeld ?restb6; (case hyb6 => (intro w hSw; (try dsimp only at hSw); go_simp; all_goals (with_reducible rfl))); simp only [Act.put, List.getElem_toArray, List.getElem_cons_zero, List.getElem_cons_succ, List.setIfInBounds_toArray, List.set_cons_zero, List.set_cons_succ]
          refine wpAnyH_ready (rs := [7]) (by kernel_rfl) (by simp) ?_; refine AllReadyH.cons rfl (fun K hK => ?_) AllReadyH.nil
          go_simp
          refine (divide31_any _).mono ?_
          rintro e w5 ⟨rfl, hb5⟩
          have h5 := H2.out.drew.below hb5
          have H5 := Lib.hid h5
          have Hb5 := Lib.hid hb5
          clear h5 hb5
          refine hK.out _ _ (cell_of_row _ _ 0 _ _ _ H5.out.box) (fun hHeld => ?_)
          clear hK K
          (try simp only [Act.put, List.getElem_toArray, List.getElem_cons_zero, List.getElem_cons_succ, List.setIfInBounds_toArray, List.set_cons_zero, List.set_cons_succ])
          refine wpAnyH_take (i := 8) (v := ?vvb8) rfl (by kernel_rfl) (by kernel_rfl) (by kernel_rfl) (fun _ _ _ h => h) (Or.inl ⟨by rfl, ?hyb8⟩) hHeld ?restb8; (case hyb8 => (intro w hSw; (try dsimp only at hSw); go_simp; all_goals (with_reducible rfl))); simp only [Act.put, List.getElem_toArray, List.getElem_cons_zero, List.getElem_cons_succ, List.setIfInBounds_toArray, List.set_cons_zero, List.set_cons_succ]
          refine wpAnyH_take (i := 9) (v := ?vvb9) rfl (by kernel_rfl) (by kernel_rfl) (by kernel_rfl) (fun _ _ _ h => h) (Or.inl ⟨by rfl, ?hyb9⟩) hHeld ?restb9; (case hyb9 => (intro w hSw; (try dsimp only at hSw); go_simp; all_goals (with_reducible rfl))); simp only [Act.put, List.getElem_toArray, List.getElem_cons_zero, List.getElem_cons_succ, List.setIfInBounds_toArray, List.set_cons_zero, List.set_cons_succ]
          refine wpAnyH_take (i := 10) (v := ?vvb10) rfl (by kernel_rfl) (by kernel_rfl) (by kernel_rfl) (fun _ _ _ h => h) (Or.inl ⟨by rfl, ?hyb10⟩) hHeld ?restb10; (case hyb10 => (intro w hSw; (try dsimp only at hSw); go_simp; all_goals (with_reducible rfl))); simp only [Act.put, List.getElem_toArray, List.getElem_cons_zero, List.getElem_cons_succ, List.setIfInBounds_toArray, List.set_cons_zero, List.set_cons_succ]
          refine wpAnyH_take (i := 11) (v := ?vvb11) rfl (by kernel_rfl) (by kernel_rfl) (by kernel_rfl) (fun _ _ _ h => h) (Or.inl ⟨by rfl, ?hyb11⟩) hHeld ?restb11; (case hyb11 => (intro w hSw; (try dsimp only at hSw); go_simp; all_goals (with_reducible rfl))); simp only [Act.put, List.getElem_toArray, List.getElem_cons_zero, List.getElem_cons_succ, List.setIfInBounds_toArray, List.set_cons_zero, List.set_cons_succ]
          have e0 := cell_of_row _ _ 0 _ _ _ H5.out.out
          have f0 := frozen_of_row _ _ 0 _ _ H5.out.out
          refine wpAnyH_ready (rs := [12]) (by kernel_rfl) (by simp) ?_; refine AllReadyH.cons rfl (fun K hK => ?_) AllReadyH.nil
          go_simp
          obtain ⟨w6, hw6⟩ : ∃ w6 : World, w6 = w5.setCell ⟨s, 0, none⟩ (.int .i64 1) := ⟨_, rfl⟩
          rw [← hw6]
          have H6 : Hid (Sh4 w6 s 1 0 0 0) := Lib.hid (by rw [hw6]; exact H5.out.out0 _)
          have Hb6 : Hid (Below s w w6) := Lib.hid (by rw [hw6]; exact ((Hb2.out.drew).trans (Hb5.out.mono (by have := H2.out.lt; show s ≤ w2.heap.size; omega))).grown (grownBy_cell w5 s _ _) (by have := H5.out.lt; omega) (fun q e => by injection e; omega))
          clear hw6 e0 f0
          refine hK.out _ _ (cell_of_row _ _ 0 _ _ _ H6.out.box) (fun hHeld => ?_)
          clear hK K
          (try simp only [Act.put, List.getElem_toArray, List.getElem_cons_zero, List.getElem_cons_succ, List.setIfInBounds_toArray, List.set_cons_zero, List.set_cons_succ])
          refine wpAnyH_done (by kernel_rfl) ?_ _
          clear hHeld
          show wpList _ _ _ _ _ _
          have e0 := cell_of_row _ _ 0 _ _ _ H6.out.rst
          have f0 := frozen_of_row _ _ 0 _ _ H6.out.rst
          go_upto_region 21 with fail
          clear e0 f0
          obtain ⟨w7, hw7⟩ : ∃ w7 : World, w7 = w6.setCell ⟨s + 2, 0, none⟩ (.int .i64 0) := ⟨_, rfl⟩
          rw [← hw7]
          have H7 : Hid (Sh4 w7 s 1 0 0 0) := Lib.hid (by rw [hw7]; exact (H6.out.set 0).2.2.2.1)
          have Hb7 : Hid (Below s w w7) := Lib.hid (by rw [hw7]; exact Hb6.out.grown (grownBy_cell w6 (s + 2) _ _) (by have := H6.out.lt; omega) (fun q e => by injection e; omega))
          clear hw7
          have e0 := cell_of_row _ _ 0 _ _ _ H7.out.idx
          have f0 := frozen_of_row _ _ 0 _ _ H7.out.idx
          go_upto_region 22 with fail
          clear e0 f0
          obtain ⟨w8, hw8⟩ : ∃ w8 : World, w8 = w7.setCell ⟨s + 1, 0, none⟩ (.int .i64 0) := ⟨_, rfl⟩
          rw [← hw8]
          have H8 : Hid (Sh4 w8 s 1 0 0 0) := Lib.hid (by rw [hw8]; exact (H7.out.set _).2.1)
          have Hb8 : Hid (Below s w w8) := Lib.hid (by rw [hw8]; exact Hb7.out.grown (grownBy_cell w7 (s + 1) _ _) (by have := H7.out.lt; omega) (fun q e => by injection e; omega))
          clear hw8
          have e0 := cell_of_row _ _ 0 _ _ _ H8.out.out
          go_wp2
          go_roundw
          case rel => exact ⟨.inr (.inl ⟨rfl, rfl, H8.out⟩), Hb8.out⟩
          case measure => decide
        · have H2 := Lib.hid h4
          clear h4
          go_upto_region 20 with fail
          have d3 := cell_of_row _ _ 0 _ _ _ H2.out.box
          refine wp_region_held_tail (S := fun w' => w'.cell? ⟨s + 3, 0, none⟩ = some (.slice (some ⟨s + 2, 0, none⟩) 2 2)) 13 (by kernel_rfl) (by kernel_rfl) (by kernel_rfl) ?_
          have hHeld : (fun w' : World => w'.cell? ⟨s + 3, 0, none⟩ = some (.slice (some ⟨s + 2, 0, none⟩) 2 2)) w2.drew := d3
          simp only [List.take_succ_cons, List.take_zero, List.replicate]
          refine wpAnyH_take (i := 0) (v := ?vvc0) rfl (by kernel_rfl) (by kernel_rfl) (by kernel_rfl) (fun _ _ _ h => h) (Or.inl ⟨by rfl, ?hyc0⟩) hHeld ?restc0; (case hyc0 => (intro w hSw; (try dsimp only at hSw); go_simp; all_goals (with_reducible rfl))); simp only [Act.put, List.getElem_toArray, List.getElem_cons_zero, List.getElem_cons_succ, List.setIfInBounds_toArray, List.set_cons_zero, List.set_cons_succ]
          refine wpAnyH_take (i := 1) (v := ?vvc1) rfl (by kernel_rfl) (by kernel_rfl) (by kernel_rfl) (fun _ _ _ h => h) (Or.inl ⟨by rfl, ?hyc1⟩) hHeld ?restc1; (case hyc1 => (intro w hSw; (try dsimp only at hSw); go_simp; all_goals (with_reducible rfl))); simp only [Act.put, List.getElem_toArray, List.getElem_cons_zero, List.getElem_cons_succ, List.setIfInBounds_toArray, List.set_cons_zero, List.set_cons_succ]
          refine wpAnyH_take (i := 2) (v := ?vvc2) rfl (by kernel_rfl) (by kernel_rfl) (by kernel_rfl) (fun _ _ _ h => h) (Or.inl ⟨by rfl, ?hyc2⟩) hHeld ?restc2; (case hyc2 => (intro w hSw; (try dsimp only at hSw); go_simp; all_goals (with_reducible rfl))); simp only [Act.put, List.getElem_toArray, List.getElem_cons_zero, List.getElem_cons_succ, List.setIfInBounds_toArray, List.set_cons_zero, List.set_cons_succ]
          refine wpAnyH_take (i := 3) (v := ?vvc3) rfl (by kernel_rfl) (by kernel_rfl) (by kernel_rfl) (fun _ _ _ h => h) (Or.inl ⟨by rfl, ?hyc3⟩) hHeld ?restc3; (case hyc3 => (intro w hSw; (try dsimp only at hSw); go_simp; all_goals (with_reducible rfl))); simp only [Act.put, List.getElem_toArray, List.getElem_cons_zero, List.getElem_cons_succ, List.setIfInBounds_toArray, List.set_cons_zero, List.set_cons_succ]
          refine wpAnyH_take (i := 4) (v := ?vvc4) rfl (by kernel_rfl) (by kernel_rfl) (by kernel_rfl) (fun _ _ _ h => h) (Or.inl ⟨by rfl, ?hyc4⟩) hHeld ?restc4; (case hyc4 => (intro w hSw; (try dsimp only at hSw); go_simp; all_goals (with_reducible rfl))); simp only [Act.put, List.getElem_toArray, List.getElem_cons_zero, List.getElem_cons_succ, List.setIfInBounds_toArray, List.set_cons_zero, List.set_cons_succ]
          refine wpAnyH_take (i := 5) (v := ?vvc5) rfl (by kernel_rfl) (by kernel_rfl) (by kernel_rfl) (fun _ _ _ h => h) (Or.inl ⟨by rfl, ?hyc5⟩) hHeld ?restc5; (case hyc5 => (intro w hSw; (try dsimp only at hSw); go_simp; all_goals (with_reducible rfl))); simp only [Act.put, List.getElem_toArray, List.getElem_cons_zero, List.getElem_cons_succ, List.setIfInBounds_toArray, List.set_cons_zero, List.set_cons_succ]
          refine wpAnyH_take (i := 6) (v := ?vvc6) rfl (by kernel_rfl) (by kernel_rfl) (by kernel_rfl) (fun _ _ _ h => h) (Or.inl ⟨by rfl, ?hyc6⟩) hHeld ?restc6; (case hyc6 => (intro w hSw; (try dsimp only at hSw); go_simp; all_goals (with_reducible rfl))); simp only [Act.put, List.getElem_toArray, List.getElem_cons_zero, List.getElem_cons_succ, List.setIfInBounds_toArray, List.set_cons_zero, List.set_cons_succ]
          refine wpAnyH_ready (rs := [7]) (by kernel_rfl) (by simp) ?_; refine AllReadyH.cons rfl (fun K hK => ?_) AllReadyH.nil
          go_simp
          refine (divide32_any _).mono ?_
          rintro e w5 ⟨rfl, hb5⟩
          have h5 := H2.out.drew.below hb5
          have H5 := Lib.hid h5
          have Hb5 := Lib.hid hb5
          clear h5 hb5
          refine hK.out _ _ (cell_of_row _ _ 0 _ _ _ H5.out.box) (fun hHeld => ?_)
          clear hK K
          (try simp only [Act.put, List.getElem_toArray, List.getElem_cons_zero, List.getElem_cons_succ, List.setIfInBounds_toArray, List.set_cons_zero, List.set_cons_succ])
          refine wpAnyH_take (i := 8) (v := ?vvc8) rfl (by kernel_rfl) (by kernel_rfl) (by kernel_rfl) (fun _ _ _ h => h) (Or.inl ⟨by rfl, ?hyc8⟩) hHeld ?restc8; (case hyc8 => (intro w hSw; (try dsimp only at hSw); go_simp; all_goals (with_reducible rfl))); simp only [Act.put, List.getElem_toArray, List.getElem_cons_zero, List.getElem_cons_succ, List.setIfInBounds_toArray, List.set_cons_zero, List.set_cons_succ]
          refine wpAnyH_take (i := 9) (v := ?vvc9) rfl (by kernel_rfl) (by kernel_rfl) (by kernel_rfl) (fun _ _ _ h => h) (Or.inl ⟨by rfl, ?hyc9⟩) hHeld ?restc9; (case hyc9 => (intro w hSw; (try dsimp only at hSw); go_simp; all_goals (with_reducible rfl))); simp only [Act.put, List.getElem_toArray, List.getElem_cons_zero, List.getElem_cons_succ, List.setIfInBounds_toArray, List.set_cons_zero, List.set_cons_succ]
          refine wpAnyH_take (i := 10) (v := ?vvc10) rfl (by kernel_rfl) (by kernel_rfl) (by kernel_rfl) (fun _ _ _ h => h) (Or.inl ⟨by rfl, ?hyc10⟩) hHeld ?restc10; (case hyc10 => (intro w hSw; (try dsimp only at hSw); go_simp; all_goals (with_reducible rfl))); simp only [Act.put, List.getElem_toArray, List.getElem_cons_zero, List.getElem_cons_succ, List.setIfInBounds_toArray, List.set_cons_zero, List.set_cons_succ]
          refine wpAnyH_take (i := 11) (v := ?vvc11) rfl (by kernel_rfl) (by kernel_rfl) (by kernel_rfl) (fun _ _ _ h => h) (Or.inl ⟨by rfl, ?hyc11⟩) hHeld ?restc11; (case hyc11 => (intro w hSw; (try dsimp only at hSw); go_simp; all_goals (with_reducible rfl))); simp only [Act.put, List.getElem_toArray, List.getElem_cons_zero, List.getElem_cons_succ, List.setIfInBounds_toArray, List.set_cons_zero, List.set_cons_succ]
          have e0 := cell_of_row _ _ 1 _ _ _ H5.out.out
          have f0 := frozen_of_row _ _ 1 _ _ H5.out.out
          refine wpAnyH_ready (rs := [12]) (by kernel_rfl) (by simp) ?_; refine AllReadyH.cons rfl (fun K hK => ?_) AllReadyH.nil
          go_simp
          obtain ⟨w6, hw6⟩ : ∃ w6 : World, w6 = w5.setCell ⟨s, 1, none⟩ (.int .i64 2) := ⟨_, rfl⟩
          rw [← hw6]
          have H6 : Hid (Sh4 w6 s 1 2 0 0) := Lib.hid (by rw [hw6]; exact (H5.out.set _).1)
          have Hb6 : Hid (Below s w w6) := Lib.hid (by rw [hw6]; exact ((Hb2.out.drew).trans (Hb5.out.mono (by have := H2.out.lt; show s ≤ w2.heap.size; omega))).grown (grownBy_cell w5 s _ _) (by have := H5.out.lt; omega) (fun q e => by injection e; omega))
          clear hw6 e0 f0
          refine hK.out _ _ (cell_of_row _ _ 0 _ _ _ H6.out.box) (fun hHeld => ?_)
          clear hK K
          (try simp only [Act.put, List.getElem_toArray, List.getElem_cons_zero, List.getElem_cons_succ, List.setIfInBounds_toArray, List.set_cons_zero, List.set_cons_succ])
          refine wpAnyH_done (by kernel_rfl) ?_ _
          clear hHeld
          show wpList _ _ _ _ _ _
          have e0 := cell_of_row _ _ 1 _ _ _ H6.out.rst
          have f0 := frozen_of_row _ _ 1 _ _ H6.out.rst
          go_upto_region 21 with fail
          clear e0 f0
          obtain ⟨w7, hw7⟩ : ∃ w7 : World, w7 = w6.setCell ⟨s + 2, 1, none⟩ (.int .i64 0) := ⟨_, rfl⟩
          rw [← hw7]
          have H7 : Hid (Sh4 w7 s 1 2 0 0) := Lib.hid (by rw [hw7]; exact (H6.out.set 0).2.2.2.2)
          have Hb7 : Hid (Below s w w7) := Lib.hid (by rw [hw7]; exact Hb6.out.grown (grownBy_cell w6 (s + 2) _ _) (by have := H6.out.lt; omega) (fun q e => by injection e; omega))
          clear hw7
          have e0 := cell_of_row _ _ 1 _ _ _ H7.out.idx
          have f0 := frozen_of_row _ _ 1 _ _ H7.out.idx
          go_upto_region 22 with fail
          clear e0 f0
          obtain ⟨w8, hw8⟩ : ∃ w8 : World, w8 = w7.setCell ⟨s + 1, 1, none⟩ (.int .i64 1) := ⟨_, rfl⟩
          rw [← hw8]
          have H8 : Hid (Sh4 w8 s 1 2 0 1) := Lib.hid (by rw [hw8]; exact (H7.out.set _).2.2.1)
          have Hb8 : Hid (Below s w w8) := Lib.hid (by rw [hw8]; exact Hb7.out.grown (grownBy_cell w7 (s + 1) _ _) (by have := H7.out.lt; omega) (fun q e => by injection e; omega))
          clear hw8
          have e0 := cell_of_row _ _ 1 _ _ _ H8.out.out
          go_wp2
          go_roundw
          case rel => exact ⟨.inr (.inr ⟨rfl, rfl, H8.out⟩), Hb8.out⟩
          case measure => decide
        · have H2 := Lib.hid h4
          clear h4
          have Hsort := Lib.hid (sortF_any (s + 1) (s + 3) (s + 2) w2 H2.out.idx H2.out.box H2.out.rst (by omega) (by omega))
          go_wp2_with (first
            | (go_at_call 168; refine Hsort.out.mono ?_; rintro e w3 ⟨rfl, hg3⟩; have Hg3 := Lib.hid hg3; clear hg3)
            | fail)
          go_loop [88] (fun iv => iv = .int .i64 0) (fun _ => 0)
          case atStart => rfl
          case round =>
            subst hrel
            go_wp2
            go_ret2
            have hl2 := H2.out.lt
            refine ⟨by rw [Hs.out]; rfl, ?_, ?_⟩
            · rw [← Hs.out]; exact Hb2.out.grown Hg3.out (by omega) (fun q e => by injection e; omega)
            · rw [← Hs.out]; exact (Hg3.out.block s (by omega) (by simp)).trans H2.out.out
end Go.Proofs.YtfmkmhhghmdakaaGreatDoor
namespace Go.Proofs.YtfmkmhhghmdakaaGreatDoor
open Go.RowKit Go.Shelf
set_option linter.unusedVariables false
set_option linter.unusedSimpArgs false

set_option maxHeartbeats 4000000 in
set_option maxRecDepth 100000 in
theorem awakeT_any (w : World) : Calls Tryz.prog 17 #[] w fun e w' => e = .returned (.bool true) ∧ Below w.heap.size w w' := by
  have HO : Hid (∀ A W, SlR W A 1 1 sqL → Calls Tryz.prog 59 #[.slice A 1 1] W (RegPost W (sqL, 0))) := Lib.hid (fun A W h => by have := of_any A 1 1 sqL W h; rw [sq_of] at this; exact this)
  have HR := Lib.hid (fun A c W (h : SlR W A 1 c sqL) => rings_any A 1 c sqL W h sq_len)
  have HA : Hid (∀ A c W, SlR W A 1 c sqL → Calls Tryz.prog 11 #[.agg #[.slice A 1 c]] W fun e w' => e = .returned (.int .i64 100) ∧ Below W.heap.size W w') := Lib.hid (fun A c W h => by have := area_any A 1 c sqL W h; rw [sq_area] at this; exact this)
  have Hex : Hid (∀ rs err, RgRes sqL rs err → rs = [sqR] ∧ err = 0) := Lib.hid (fun rs err h => sq_res h)
  have Hc : Hid (rCells sqL = [.int .i64 0, .int .i64 0, .int .i64 10, .int .i64 10]) := Lib.hid rfl
  have Hl : Hid (sqL.length = 1) := Lib.hid rfl
  have Hl1 : Hid (sqR.length = 4) := Lib.hid rfl
  generalize sqL = L at *
  generalize sqR = r1 at *
  go_enter Tryz.func17, Tryz.ntmps17
  go_upto_region 2 with (first
    | (go_at_call 59
       refine (HO.out (some ⟨w.heap.size, 0, none⟩) _ (SlR.lit w 68 _ L 1 _ rfl Hl.out (by omega) Hc.out)).mono ?_
       rintro e w1 ⟨v1, rfl, hown1, hb1⟩
       obtain ⟨C, cc, rfl, hC⟩ := SlR.of_own hown1
       rw [Hl.out] at hC
       have HC := Lib.hid hC
       have Hb1 : Hid (Below w.heap.size w w1) := Lib.hid (show Below w.heap.size w w1 from (by have hbq := hb1; exact (by repeat' (first | with_reducible exact Below.refl _ _ | with_reducible assumption | with_reducible refine below_drewN ?_ _ | with_reducible refine Below.drew ?_ | with_reducible refine Below.alloc ?_ ?_ _ | with_reducible refine Below.setCell ?_ ?_ _ | with_reducible refine Below.trans ?_ (Below.mono (by with_reducible assumption) ?_) | with_reducible refine below_only ?_ (by with_reducible assumption) ?_ ?_ | (simp; done) | (simp; omega) | omega))))
       have hs1 := Hb1.out.size
       have hln := Hl.out
       simp only [hln]
       clear hown1 hb1 hC hln)
    | fail)
  obtain ⟨w2, hw2⟩ : ∃ w2 : World, w2 = w1.alloc (.cells #[.slice C 1 cc] 33) := ⟨_, rfl⟩
  rw [← hw2]
  have hr2 : w2.heap[w1.heap.size]? = some (.cells #[.slice C 1 cc] 33 (0, 0)) := by rw [hw2]; exact heap_alloc_new w1 _
  have c2 := cell_of_row _ _ 0 _ _ _ hr2
  have Hr2 := Lib.hid hr2
  have HC2 : Hid (SlR w2 C 1 cc L) := Lib.hid (HC.out.below (by rw [hw2]; exact (Below.refl _ _).alloc (Nat.le_refl _) _))
  have Hb2 : Hid (Below w.heap.size w w2) := Lib.hid (by rw [hw2]; exact Hb1.out.alloc hs1 _)
  have hl2 : w1.heap.size < w2.heap.size := by rw [hw2]; simp
  clear hw2 hr2 HC Hb1
  go_upto_region 3 with (first
    | (go_at_call 60
       refine (HR.out _ _ _ HC2.out).mono ?_
       rintro e w3 ⟨v, rs, err, rfl, hrg, hb3, hres⟩
       obtain ⟨hrs, rfl⟩ := Hex.out _ _ hres
       obtain ⟨RA, rc, rl, rfl, hsl, hrp⟩ := hrg.sl
       have Hrp : Hid (rgPts rl = [r1]) := Lib.hid (hrp.trans hrs)
       have hrl : rs.length = 1 := by have := congrArg List.length hrs; simpa using this
       rw [hrl] at hsl
       simp only [hrl]
       have Hsl := Lib.hid hsl
       have Hb3 : Hid (Below w2.heap.size w2 w3) := Lib.hid hb3
       have c3 := (hb3.cell (p := ⟨w1.heap.size, 0, none⟩) hl2).trans c2
       have Hr3 := Lib.hid ((hb3.block _ hl2).trans Hr2.out)
       have HC3 := Lib.hid (HC2.out.below hb3)
       have hs3 := hb3.size
       clear hrg hb3 hres hrs hsl hrp c2 hrl)
    | fail)
  have hl3 : w1.heap.size < w3.heap.size := Nat.lt_of_lt_of_le hl2 hs3
  have c3' := fun o => (World.cell?_alloc_lt w3 o ⟨w1.heap.size, 0, none⟩ hl3).trans c3
  go_upto_region 4 with (first
    | (go_at_call 11
       refine (HA.out C cc _ (HC3.out.below (by repeat' (first | with_reducible exact Below.refl _ _ | with_reducible refine below_drewN ?_ _ | with_reducible refine Below.drew ?_ | with_reducible refine Below.alloc ?_ ?_ _ | with_reducible refine Below.setCell ?_ ?_ _ | with_reducible refine Below.trans ?_ (Below.mono (by with_reducible assumption) ?_) | (simp; done) | (simp; omega) | omega)))).mono ?_
       rintro e w4 ⟨rfl, hb4⟩
       have hg4 := (hb4.block w3.heap.size (by simp)).trans (heap_alloc_new w3 _)
       have Hg4 := Lib.hid hg4
       have Hb4 : Hid (Below w3.heap.size w3 w4) := Lib.hid (show Below w3.heap.size w3 w4 from (by have hbq := hb4; exact (by repeat' (first | with_reducible exact Below.refl _ _ | with_reducible assumption | with_reducible refine below_drewN ?_ _ | with_reducible refine Below.drew ?_ | with_reducible refine Below.alloc ?_ ?_ _ | with_reducible refine Below.setCell ?_ ?_ _ | with_reducible refine Below.trans ?_ (Below.mono (by with_reducible assumption) ?_) | with_reducible refine below_only ?_ (by with_reducible assumption) ?_ ?_ | (simp; done) | (simp; omega) | omega))))
       have hs4 := Hb4.out.size
       clear hb4 hg4)
    | (go_at_call 61
       refine (amount_any w3.heap.size _ (cell_of_row _ _ 0 _ _ _ Hg4.out) (cell_of_row _ _ 1 _ _ _ Hg4.out)).mono ?_
       rintro e w5 ⟨rfl, hb5⟩
       have Hb5 : Hid (Below w3.heap.size w3 w5) := Lib.hid (Hb4.out.trans (hb5.mono hs4))
       have hs5 := Hb5.out.size
       clear hb5)
    | fail)
  clear c3' c3
  go_upto_region 5 with (first
    | (go_at_call 62
       refine (split_any _).mono ?_
       rintro e w6 ⟨⟨WA, wc, rfl⟩, hb6⟩
       have Hb6 : Hid (Below w3.heap.size w3 w6) := Lib.hid (Hb5.out.trans (hb6.mono hs5))
       have hs6 := Hb6.out.size
       clear hb6)
    | fail)
  have Hsh := Lib.hid (shares_any w6.heap.size (w6.alloc (.cells #[.int .i64 1, .int .i64 2] 3)) (heap_alloc_new w6 _))
  go_upto_region 6 with (first
    | (go_at_call 63
       refine Hsh.out.mono ?_
       rintro e w7 ⟨rfl, hb7, hr7⟩
       have Hb7 : Hid (Below w3.heap.size w3 w7) := Lib.hid (Hb6.out.trans ((show Below w6.heap.size w6 w7 from (by have hbq := hb7; exact (by repeat' (first | with_reducible exact Below.refl _ _ | with_reducible assumption | with_reducible refine below_drewN ?_ _ | with_reducible refine Below.drew ?_ | with_reducible refine Below.alloc ?_ ?_ _ | with_reducible refine Below.setCell ?_ ?_ _ | with_reducible refine Below.trans ?_ (Below.mono (by with_reducible assumption) ?_) | with_reducible refine below_only ?_ (by with_reducible assumption) ?_ ?_ | (simp; done) | (simp; omega) | omega)))).mono hs6))
       have k1 : w7.cell? ⟨w6.heap.size + 1, 1, none⟩ = some (.int .i64 2) := (by have hk := cell_of_row _ _ 1 _ _ _ hr7; rw [World.size_alloc] at hk; exact hk)
       have hs7 := Hb7.out.size
       clear hb7 hr7)
    | fail)
  have Hsl7 := Lib.hid (Hsl.out.below Hb7.out)
  obtain ⟨x, hx, hxe⟩ : ∃ x, rl = [x] ∧ x.1 = r1 := by
    have h1 := Hrp.out
    match rl, h1 with
    | [x], h1 => exact ⟨x, rfl, by simpa [rgPts] using h1⟩
  obtain ⟨b, off, rfl, hbl, hcx, _⟩ := Hsl7.out.at 0 (by rw [hx]; simp)
  have hcx' : w7.cell? ⟨b, off, none⟩ = some (.slice x.2.a 4 x.2.c) := by rw [← Nat.add_zero off, hcx]; simp only [hx, List.getElem_cons_zero, hxe, Hl1.out]
  clear hcx hxe
  go_wp2
  go_ret
  exact ⟨rfl, Hb2.out.trans ((Hb3.out.trans (Hb7.out.mono hs3)).mono Hb2.out.size)⟩
end Go.Proofs.YtfmkmhhghmdakaaGreatDoor
