import Derived.Test.YtfmkmhhghmdakaaGreatDoorSh
import Derived.Lib.Bytealg
import Derived.Laws.RangeString
import Derived.Deep.OwnRows
import Derived.Test.YtfmkmhhghmdakaaGreatDoorRA
import Derived.Test.YtfmkmhhghmdakaaGreatDoorRB
import Derived.Test.YtfmkmhhghmdakaaGreatDoorRF
import Derived.Test.YtfmkmhhghmdakaaGreatDoorRY
namespace Go.Proofs.YtfmkmhhghmdakaaGreatDoor
open Go.RowKit
set_option linter.unusedVariables false
set_option linter.unusedSimpArgs false
set_option maxHeartbeats 64000000
set_option maxRecDepth 100000
def sqL : List R4 := [⟨0, 0, 10, 10⟩]
def sqE : List R4 := [⟨0, 0, 10, 0⟩, ⟨10, 0, 10, 10⟩, ⟨10, 10, 0, 10⟩, ⟨0, 10, 0, 0⟩]
def sqC : List (R4 × List R4) := [(⟨0, 0, 10, 0⟩, [⟨10, 0, 10, 10⟩, ⟨10, 10, 0, 10⟩, ⟨0, 10, 0, 0⟩])]
def sqR : List Pt := [(0, 0), (10, 0), (10, 10), (0, 10)]
theorem sq_pos : ∀ q ∈ sqL, q.l < q.r := by decide
theorem sq_of : ofP sqL = (sqL, 0) := by
  rw [ofP_eq]
  decide
theorem sq_valid : validP sqL = true := by
  unfold validP
  rw [canonP_comb _ sq_pos]
  decide
theorem sq_area : areaP sqL = 100 := by unfold areaP; rw [sq_valid]; decide
theorem sq_in : InS (10 : Nat) sqL := by
  intro q hq
  simp [sqL] at hq
  rcases hq with rfl
  simp
theorem sq_sd : Sd (inL sqL) 10 := fun x y h => by
  have := (inL_grid sq_in).bd x y h
  omega
theorem sq_set : ESet (inL sqL) sqE := by
  have hlen : ∀ e ∈ sqE, lenE e = 10 := by decide
  have hdir : ∀ e ∈ sqE, ∀ f ∈ sqE, dirOf e = dirOf f → e = f := by decide
  have hon : ∀ e ∈ sqE, ∀ j : Nat, j < 10 → bd (inL sqL) (mv (dirOf e) j (frOf e)) (dirOf e) = true := by
    intro e he j hj
    have key : ∀ e ∈ sqE, ∀ j ∈ List.range 10, bd (inL sqL) (mv (dirOf e) (j : Nat) (frOf e)) (dirOf e) = true := by decide
    exact key e he j (List.mem_range.2 hj)
  refine ⟨?_, fun e he p d hc => ?_, fun p d hb => ?_, by decide, fun e he f hf p d h1 h2 => hdir e he f hf (h1.1.symm.trans h2.1)⟩
  · intro e he
    simp [sqE] at he
    rcases he with rfl | rfl | rfl | rfl <;> simp [StE]
  · obtain ⟨rfl, j, hj, rfl⟩ := hc
    exact hon e he j (by rw [← hlen e he]; exact hj)
  · have hbd := sq_sd.bd hb
    obtain ⟨x, y⟩ := p
    dsimp only at hbd
    have hx : ∃ a : Nat, a ∈ List.range 11 ∧ x = (a : Int) := ⟨x.toNat, List.mem_range.2 (by omega), by omega⟩
    have hy : ∃ a : Nat, a ∈ List.range 11 ∧ y = (a : Int) := ⟨y.toNat, List.mem_range.2 (by omega), by omega⟩
    obtain ⟨a, ha, rfl⟩ := hx
    obtain ⟨b, hb', rfl⟩ := hy
    have key : ∀ a ∈ List.range 11, ∀ b ∈ List.range 11, ∀ d ∈ [Dr.ri, .up, .le, .dn], bd (inL sqL) ((a : Nat), (b : Nat)) d = true → ∃ e ∈ sqE, d = dirOf e ∧ ∃ j ∈ List.range 10, (((a : Nat) : Int), ((b : Nat) : Int)) = mv d (j : Nat) (frOf e) := by decide +kernel
    obtain ⟨e, he, h1, j, hj, h2⟩ := key a ha b hb' d (by cases d <;> simp) hb
    exact ⟨e, he, h1, j, by rw [hlen e he]; exact List.mem_range.1 hj, h2⟩
theorem sq_rings : Rings (inL sqL) sqE sqC := by
  refine ⟨fun c hc => ?_, by decide, by decide⟩
  simp [sqC] at hc
  rcases hc with rfl
  exact ⟨⟨⟨by decide, by decide⟩, ⟨by decide, by decide⟩, ⟨by decide, by decide⟩, by decide, by decide⟩, by decide, by decide⟩
theorem sq_res {rs : List (List Pt)} {err : Int} (h : RgRes sqL rs err) : rs = [sqR] ∧ err = 0 := by
  obtain ⟨cs, hr, h1⟩ := h.good sq_valid
  have hs := edges_set sqL sq_pos
  have hp := rings_perm2 hs sq_set hr sq_rings
  have hm : sqC.map ringOf = [sqR] := by decide
  rcases h1 with ⟨hb, _⟩ | ⟨_, rfl, h2, h3⟩
  · exfalso
    rw [bigR_perm hp] at hb
    unfold bigR at hb
    rw [hm] at hb
    rcases hb with hb | ⟨r, hr, hb⟩
    · simp [sqC] at hb
    · simp at hr
      rcases hr with rfl
      simp [sqR] at hb
  · refine ⟨sorted_uniq (h2.trans (hp.trans ?_)) (rings_strict hs hr h2 h3) ?_, rfl⟩
    · rw [hm]
    · decide
theorem sq_len : (edgesP sqL).length ≤ 100000 := by
  have := eset_len (edges_set sqL sq_pos) (n := 10) sq_sd
  omega
end Go.Proofs.YtfmkmhhghmdakaaGreatDoor
namespace Go.Proofs.YtfmkmhhghmdakaaGreatDoor
open Go.RowKit Go.Shelf
set_option linter.unusedVariables false
set_option linter.unusedSimpArgs false
set_option maxHeartbeats 64000000
set_option maxRecDepth 100000
theorem nameS_any (w : World) : Calls Tryz.prog 214 #[.string { data := #[115] }] w fun e w' => e = .returned (.bool true) ∧ w' = w := by
  go_enter Tryz.func214, Tryz.ntmps214
  go_wp2
  go_loop [8] (fun iv => iv = .int .i64 0 ∨ iv = .int .i64 1) (fun iv => 1 - (intOf iv).toNat)
  case atStart => exact .inl rfl
  case round =>
    rcases hrel with rfl | rfl
    · go_wp2
      go_round
      case rel => exact .inr rfl
      case measure => decide
    · go_wp2
      go_ret
      exact ⟨rfl, rfl⟩
theorem limits1_any (w : World) : Calls Tryz.prog 325 #[.int .i64 1] w fun e w' => e = .returned (.tuple #[.int .i64 0, .int .i64 0, .bool false]) ∧ w' = w := by
  go_enter Tryz.func325, Tryz.ntmps325
  go_wp2
  refine bodyPost_ret (v := .tuple #[.int .i64 0, .int .i64 0, .bool false]) (by simp [results, Tryz.results325, go_sem, *]) rfl ?_
  exact ⟨rfl, rfl⟩
theorem kids1_any (w : World) : Calls Tryz.prog 326 #[.int .i64 1] w fun e w' => e = .returned (.tuple #[.int .i64 0, .int .i64 0]) ∧ w' = w := by
  go_enter Tryz.func326, Tryz.ntmps326
  go_wp2
  refine bodyPost_ret (v := .tuple #[.int .i64 0, .int .i64 0]) (by simp [results, Tryz.results326, go_sem, *]) rfl ?_
  exact ⟨rfl, rfl⟩
theorem count1_any (w : World) : Calls Tryz.prog 271 #[.agg #[.int .i64 1, .int .i64 0, .int .i64 0, .slice none 0 0], .int .i64 40] w fun e w' => e = .returned (.int .i64 1) ∧ Below w.heap.size w w' := by
  go_enter Tryz.func271, Tryz.ntmps271
  go_wp2
  go_loop [5, 11] (fun nv iv => nv = .int .i64 1 ∧ iv = .int .i64 0) (fun _ _ => 0)
  case atStart => exact ⟨rfl, rfl⟩
  case round =>
    obtain ⟨rfl, rfl⟩ := hrel
    go_wp2
    go_ret
    exact ⟨rfl, gBel⟩
theorem noKids_any (b : Array Value) (w : World) : Calls Tryz.prog 328 #[.slice none 0 0, .func (.func 329) #[] b] w fun e w' => e = .returned (.bool false) ∧ w' = w := by
  go_enter Tryz.func328, Tryz.ntmps328
  go_wp2
  go_loop [8] (fun iv => iv = .int .i64 0) (fun iv => 0)
  case atStart => rfl
  case round =>
    subst hrel
    go_wp2
    go_ret
    exact ⟨rfl, rfl⟩
theorem right1_any (w : World) : Calls Tryz.prog 272 #[.agg #[.int .i64 1, .int .i64 0, .int .i64 0, .slice none 0 0], .int .i64 8] w fun e w' => e = .returned (.bool true) ∧ Below w.heap.size w w' := by
  go_enter Tryz.func272, Tryz.ntmps272
  go_wp2_with (first
    | (go_at_call 325; refine (limits1_any _).mono ?_; rintro e w1 ⟨rfl, rfl⟩)
    | (go_at_call 326; refine (kids1_any _).mono ?_; rintro e w1 ⟨rfl, rfl⟩)
    | (go_at_call 328; refine (noKids_any _ _).mono ?_; rintro e w1 ⟨rfl, rfl⟩)
    | fail)
  go_ret
  exact ⟨rfl, gBel⟩
theorem tcheck1_any (w : World) : Calls Tryz.prog 202 #[.agg #[.int .i64 1, .int .i64 0, .int .i64 0, .slice none 0 0]] w fun e w' => e = .returned (.int .i64 0) ∧ Below w.heap.size w w' := by
  go_enter Tryz.func202, Tryz.ntmps202
  go_wp2_with (first
    | (go_at_call 271; refine (count1_any _).mono ?_; rintro e w1 ⟨rfl, hb1⟩; have hl1 : w.heap.size < w1.heap.size := (by have := hb1.size; simp at this; omega); have hr1 : w1.heap[w.heap.size]? = some (.cells #[.int .i64 1, .int .i64 0, .int .i64 0, .slice none 0 0] 84 (0, 0)) := (hb1.block _ (by simp)).trans (heap_alloc_new w _); have c0 := cell_of_row w1 w.heap.size 0 _ _ _ hr1; have c1 := cell_of_row w1 w.heap.size 1 _ _ _ hr1; have c2 := cell_of_row w1 w.heap.size 2 _ _ _ hr1; have c3 := cell_of_row w1 w.heap.size 3 _ _ _ hr1; have Hb1 : Hid (Below w.heap.size w w1) := Lib.hid (by have hbq := hb1; exact gBelo); clear hb1 hr1)
    | (go_at_call 272; refine (right1_any _).mono ?_; rintro e w2 ⟨rfl, hb2⟩; have Hb2 : Hid (Below w.heap.size w w2) := Lib.hid (Hb1.out.trans (hb2.mono (by omega))); clear hb2)
    | fail)
  go_ret
  exact ⟨rfl, Hb2.out⟩
theorem brackets1_any (g : Nat) (w : World) (h0 : w.cell? ⟨g, 0, none⟩ = some (.int .i64 1000)) (h1 : w.cell? ⟨g, 1, none⟩ = some (.int .i64 200)) :
    Calls Tryz.prog 232 #[.slice (some ⟨g, 0, none⟩) 1 1] w fun e w' => e = .returned (.bool true) ∧ Below w.heap.size w w' := by
  have Hc := Lib.hid (And.intro h0 h1)
  have hg := World.block_lt_of_cell? w _ h0
  dsimp only at hg
  clear h0 h1
  go_enter Tryz.func232, Tryz.ntmps232
  go_wp2
  go_loopw [7] (fun iv wr => (iv = .int .i64 0 ∨ iv = .int .i64 1) ∧ Below w.heap.size w wr) (fun iv _ => 1 - (intOf iv).toNat)
  case atStart => exact ⟨.inl rfl, Below.refl _ _⟩
  case round =>
    obtain ⟨hiv, hbw⟩ := hrel
    have Hbw := Lib.hid hbw
    have hsw := hbw.size
    clear hbw
    rcases hiv with rfl | rfl
    · have c0 := (Hbw.out.cell (p := ⟨g, 0, none⟩) hg).trans Hc.out.1
      have c1 := (Hbw.out.cell (p := ⟨g, 1, none⟩) hg).trans Hc.out.2
      go_upto_region 4 with fail
      obtain ⟨wx, hwx⟩ : ∃ wx : World, wx = wr.alloc (.cells #[.int .i64 1000, .int .i64 200] 115) := ⟨_, rfl⟩
      rw [← hwx]
      have hrx : wx.heap[wr.heap.size]? = some (.cells #[.int .i64 1000, .int .i64 200] 115 (0, 0)) := by rw [hwx]; exact heap_alloc_new wr _
      have x0 := cell_of_row wx wr.heap.size 0 _ _ _ hrx
      have x1 := cell_of_row wx wr.heap.size 1 _ _ _ hrx
      have Hbx : Hid (Below w.heap.size w wx) := Lib.hid (by rw [hwx]; exact Hbw.out.alloc hsw _)
      have hlx : wr.heap.size < wx.heap.size := by rw [hwx]; simp
      clear hwx hrx c0 c1
      go_quiet (fail)
      go_wp2
      go_roundw
      case rel => exact ⟨.inr rfl, below_drewN Hbx.out _⟩
      case measure => decide
    · go_wp2
      go_ret
      exact ⟨rfl, Hbw.out⟩
theorem fits1_any (w : World) : Calls Tryz.prog 225 #[.int .i64 20000, .int .i64 100] w fun e w' => e = .returned (.bool true) ∧ w' = w := by
  go_enter Tryz.func225, Tryz.ntmps225
  go_wp2
  go_ret
  exact ⟨rfl, rfl⟩
theorem down1_any (w : World) : Calls Tryz.prog 141 #[.int .i64 20000, .int .i64 100] w fun e w' => e = .returned (.int .i64 200) ∧ w' = w := by
  go_enter Tryz.func141, Tryz.ntmps141
  go_wp2_with (first
    | (go_at_call 225; refine (fits1_any _).mono ?_; rintro e w1 ⟨rfl, rfl⟩)
    | fail)
  go_ret
  exact ⟨rfl, rfl⟩
theorem svalid_any (g : Nat) (w : World) (h0 : w.cell? ⟨g, 0, none⟩ = some (.int .i64 1000)) (h1 : w.cell? ⟨g, 1, none⟩ = some (.int .i64 200)) :
    Calls Tryz.prog 152 #[.agg #[.int .i64 0, .string { data := #[115] }, .int .i64 1, .int .i64 0, .int .i64 0, .slice none 0 0, .slice (some ⟨g, 0, none⟩) 1 1, .int .i64 0, .int .i64 0, .bool false]] w fun e w' => e = .returned (.int .i64 0) ∧ Below w.heap.size w w' := by
  have Hc := Lib.hid (And.intro h0 h1)
  have hg := World.block_lt_of_cell? w _ h0
  dsimp only at hg
  clear h0 h1
  go_enter Tryz.func152, Tryz.ntmps152
  go_wp2_with (first
    | (go_at_call 214; refine (nameS_any _).mono ?_; rintro e w1 ⟨rfl, rfl⟩)
    | (go_at_call 202; refine (tcheck1_any _).mono ?_; rintro e w2 ⟨rfl, hb2⟩; have Hb2 : Hid (Below w.heap.size w w2) := Lib.hid (by have hbq := hb2; exact gBelo); have hr2 := (hb2.block w.heap.size (by simp)).trans (heap_alloc_new w _); have c0 := cell_of_row w2 w.heap.size 0 _ _ _ hr2; have c6 := cell_of_row w2 w.heap.size 6 _ _ _ hr2; have Hr2 := Lib.hid (And.intro (show w.heap.size < w2.heap.size from by have := hb2.size; simp at this; omega) hr2); clear hb2 hr2)
    | (go_at_call 232; refine (brackets1_any g _ ((Hb2.out.cell (p := ⟨g, 0, none⟩) hg).trans Hc.out.1) ((Hb2.out.cell (p := ⟨g, 1, none⟩) hg).trans Hc.out.2)).mono ?_; rintro e w3 ⟨rfl, hb3⟩; have Hb3 : Hid (Below w.heap.size w w3) := Lib.hid (Hb2.out.trans (hb3.mono (by have := Hb2.out.size; omega))); have hr3 := (hb3.block w.heap.size (by have := Hr2.out.1; omega)).trans Hr2.out.2; have c03 := cell_of_row w3 w.heap.size 0 _ _ _ hr3; have c83 := cell_of_row w3 w.heap.size 8 _ _ _ hr3; clear hb3 hr3)
    | fail)
  go_ret
  exact ⟨rfl, Hb3.out⟩
theorem amount_any (g : Nat) (w : World) (h0 : w.cell? ⟨g, 0, none⟩ = some (.int .i64 1000)) (h1 : w.cell? ⟨g, 1, none⟩ = some (.int .i64 200)) :
    Calls Tryz.prog 61 #[.agg #[.int .i64 0, .string { data := #[115] }, .int .i64 1, .int .i64 0, .int .i64 0, .slice none 0 0, .slice (some ⟨g, 0, none⟩) 1 1, .int .i64 0, .int .i64 0, .bool false], .int .i64 100] w fun e w' => e = .returned (.tuple #[.int .i64 200, .int .i64 0]) ∧ Below w.heap.size w w' := by
  have Hc := Lib.hid (And.intro h0 h1)
  have hg := World.block_lt_of_cell? w _ h0
  dsimp only at hg
  clear h0 h1
  go_enter Tryz.func61, Tryz.ntmps61
  go_upto_region 1 with fail
  obtain ⟨wx, hwx⟩ : ∃ wx : World, wx = w.alloc (.cells #[.int .i64 0, .string { data := #[115] }, .int .i64 1, .int .i64 0, .int .i64 0, .slice none 0 0, .slice (some ⟨g, 0, none⟩) 1 1, .int .i64 0, .int .i64 0, .bool false] 118) := ⟨_, rfl⟩
  rw [← hwx]
  have hrx : wx.heap[w.heap.size]? = some (.cells #[.int .i64 0, .string { data := #[115] }, .int .i64 1, .int .i64 0, .int .i64 0, .slice none 0 0, .slice (some ⟨g, 0, none⟩) 1 1, .int .i64 0, .int .i64 0, .bool false] 118 (0, 0)) := by rw [hwx]; exact heap_alloc_new w _
  have Hbx : Hid (Below w.heap.size w wx) := Lib.hid (by rw [hwx]; exact gBel)
  have hlx : w.heap.size < wx.heap.size := by rw [hwx]; simp
  have HV := Lib.hid (svalid_any g wx ((Hbx.out.cell (p := ⟨g, 0, none⟩) hg).trans Hc.out.1) ((Hbx.out.cell (p := ⟨g, 1, none⟩) hg).trans Hc.out.2))
  have Hrx := Lib.hid hrx
  have x0 := cell_of_row wx w.heap.size 0 _ _ _ hrx
  have x1 := cell_of_row wx w.heap.size 1 _ _ _ hrx
  have x2 := cell_of_row wx w.heap.size 2 _ _ _ hrx
  have x3 := cell_of_row wx w.heap.size 3 _ _ _ hrx
  have x4 := cell_of_row wx w.heap.size 4 _ _ _ hrx
  have x5 := cell_of_row wx w.heap.size 5 _ _ _ hrx
  have x6 := cell_of_row wx w.heap.size 6 _ _ _ hrx
  have x7 := cell_of_row wx w.heap.size 7 _ _ _ hrx
  have x8 := cell_of_row wx w.heap.size 8 _ _ _ hrx
  have x9 := cell_of_row wx w.heap.size 9 _ _ _ hrx
  clear hwx hrx
  go_upto_region 6 with (first
    | (go_at_call 152
       refine HV.out.mono ?_
       rintro e w1 ⟨rfl, hb1⟩
       have Hb1 : Hid (Below w.heap.size w w1) := Lib.hid (Hbx.out.trans (hb1.mono (by omega)))
       have y6 := cell_of_row w1 w.heap.size 6 _ _ _ ((hb1.block _ hlx).trans Hrx.out)
       have hs1 := Hb1.out.size
       clear hb1)
    | fail)
  clear x0 x1 x2 x3 x4 x5 x6 x7 x8 x9
  go_upto_region 7 with fail
  go_loopw [6, 7, 22] (fun sv lv iv wr => ((sv = .int .i64 0 ∧ lv = .int .i64 0 ∧ iv = .int .i64 0) ∨ (sv = .int .i64 20000 ∧ lv = .int .i64 1000 ∧ iv = .int .i64 1)) ∧ Below w1.heap.size w1 wr) (fun _ _ iv _ => 1 - (intOf iv).toNat)
  case atStart => exact ⟨.inl ⟨rfl, rfl, rfl⟩, Below.refl _ _⟩
  case round =>
    obtain ⟨hiv, hbw⟩ := hrel
    have Hbw := Lib.hid hbw
    have hsw := hbw.size
    have Hb2 : Hid (Below w.heap.size w wr) := Lib.hid (Hb1.out.trans (hbw.mono hs1))
    clear hbw
    rcases hiv with ⟨rfl, rfl, rfl⟩ | ⟨rfl, rfl, rfl⟩
    · have c0 := (Hb2.out.cell (p := ⟨g, 0, none⟩) hg).trans Hc.out.1
      have c1 := (Hb2.out.cell (p := ⟨g, 1, none⟩) hg).trans Hc.out.2
      go_wp2
      go_roundw
      case rel => exact ⟨.inr ⟨rfl, rfl, rfl⟩, Hbw.out.alloc hsw _⟩
      case measure => decide
    · go_wp2_with (first
        | (go_at_call 141; refine (down1_any _).mono ?_; rintro e w3 ⟨rfl, rfl⟩)
        | fail)
      refine bodyPost_ret (v := .tuple #[.int .i64 200, .int .i64 0]) (by simp [results, Tryz.results61, go_sem, *]) rfl ?_
      exact ⟨rfl, Hb2.out⟩
end Go.Proofs.YtfmkmhhghmdakaaGreatDoor
namespace Go.Proofs.YtfmkmhhghmdakaaGreatDoor
open Go.RowKit Go.Shelf Go.Lib
set_option linter.unusedVariables false
set_option linter.unusedSimpArgs false
set_option maxHeartbeats 64000000
set_option maxRecDepth 100000
theorem countT_any (w : World) : Calls Tryz.prog 153 #[.string { data := #[97, 32, 98, 10] }, .string { data := #[10] }] w fun e w' => e = .returned (.int .i64 1) ∧ w' = w := by
  go_enter Tryz.func153, Tryz.ntmps153
  go_wp2
  rw [run_callFunc_extern Tryz.func234 (by kernel_rfl) (by kernel_rfl) (by kernel_rfl) (e := Extern.BytealgCount.count) (by kernel_rfl), Lib.run_countString]
  simp only [Result.andThen]
  rw [Oper.upon_value]
  go_wp2
  go_ret
  exact ⟨rfl, rfl⟩
theorem suffixT_any (w : World) : Calls Tryz.prog 236 #[.string { data := #[97, 32, 98, 10] }, .string { data := #[10] }] w fun e w' => e = .returned (.bool true) ∧ w' = w := by
  go_enter Tryz.func236, Tryz.ntmps236
  go_wp2
  go_ret
  exact ⟨by first | rfl | (simp; done) | kernel_rfl, rfl⟩
theorem hasT_any (w : World) : Calls Tryz.prog 154 #[.string { data := #[97, 32, 98, 10] }, .string { data := #[10] }] w fun e w' => e = .returned (.bool true) ∧ w' = w := by
  go_enter Tryz.func154, Tryz.ntmps154
  go_wp2_with (first
    | (go_at_call 236; refine (suffixT_any _).mono ?_; rintro e w1 ⟨rfl, rfl⟩)
    | fail)
  go_ret
  exact ⟨rfl, rfl⟩
theorem trimlT_any (w : World) : Calls Tryz.prog 241 #[.string { data := #[97, 32, 98, 10] }, .string { data := #[10] }] w fun e w' => e = .returned (.string { data := #[97, 32, 98] }) ∧ w' = w := by
  go_enter Tryz.func241, Tryz.ntmps241
  go_wp2_with (first
    | (go_at_call 236; refine (suffixT_any _).mono ?_; rintro e w1 ⟨rfl, rfl⟩)
    | fail)
  go_ret
  exact ⟨by first | rfl | (simp; done) | kernel_rfl, rfl⟩
theorem trimT_any (w : World) : Calls Tryz.prog 160 #[.string { data := #[97, 32, 98, 10] }, .string { data := #[10] }] w fun e w' => e = .returned (.string { data := #[97, 32, 98] }) ∧ w' = w := by
  go_enter Tryz.func160, Tryz.ntmps160
  go_wp2_with (first
    | (go_at_call 241; refine (trimlT_any _).mono ?_; rintro e w1 ⟨rfl, rfl⟩)
    | fail)
  go_ret
  exact ⟨rfl, rfl⟩
theorem indexBl_any (s : ByteArray) (c : UInt8) (w : World) : Calls Tryz.prog 307 #[.string s, .int .u8 c.toNat] w fun e w' => e = .returned (.int .i64 (Lib.indexByte s.data.toList c)) ∧ w' = w := by
  go_enter Tryz.func307, Tryz.ntmps307
  go_wp2
  rw [run_callFunc_extern Tryz.func350 (by kernel_rfl) (by kernel_rfl) (by kernel_rfl) (e := Extern.BytealgIndexByte.indexByte) (by kernel_rfl), Lib.run_indexByteString]
  simp only [Result.andThen]
  rw [Oper.upon_value]
  go_wp2
  go_ret
  exact ⟨by first | rfl | (simp; done), rfl⟩
theorem indexLH_any (w : World) : Calls Tryz.prog 305 #[.string { data := #[97, 32, 98] }, .string { data := #[35] }] w fun e w' => e = .returned (.int .i64 (-1)) ∧ w' = w := by
  have hI := Lib.hid (fun W => indexBl_any ⟨#[97, 32, 98]⟩ 35 W)
  go_enter Tryz.func305, Tryz.ntmps305
  go_wp2_with (first
    | (go_at_call 307; refine (hI.out _).mono ?_; rintro e w1 ⟨rfl, rfl⟩)
    | fail)
  go_ret
  exact ⟨by first | rfl | kernel_rfl | (simp; done), rfl⟩
theorem indexLB_any (w : World) : Calls Tryz.prog 305 #[.string { data := #[97, 32, 98] }, .string { data := #[32] }] w fun e w' => e = .returned (.int .i64 1) ∧ w' = w := by
  have hI := Lib.hid (fun W => indexBl_any ⟨#[97, 32, 98]⟩ 32 W)
  go_enter Tryz.func305, Tryz.ntmps305
  go_wp2_with (first
    | (go_at_call 307; refine (hI.out _).mono ?_; rintro e w1 ⟨rfl, rfl⟩)
    | fail)
  go_ret
  exact ⟨by first | rfl | kernel_rfl | (simp; done), rfl⟩
theorem indexSB_any (w : World) : Calls Tryz.prog 235 #[.string { data := #[97, 32, 98] }, .string { data := #[32] }] w fun e w' => e = .returned (.int .i64 1) ∧ w' = w := by
  go_enter Tryz.func235, Tryz.ntmps235
  go_wp2_with (first
    | (go_at_call 305; refine (indexLB_any _).mono ?_; rintro e w1 ⟨rfl, rfl⟩)
    | fail)
  go_ret
  exact ⟨rfl, rfl⟩
theorem cutl_any (w : World) : Calls Tryz.prog 240 #[.string { data := #[97, 32, 98] }, .string { data := #[35] }] w fun e w' => e = .returned (.tuple #[.string { data := #[97, 32, 98] }, .string { data := #[] }, .bool false]) ∧ w' = w := by
  go_enter Tryz.func240, Tryz.ntmps240
  go_wp2_with (first
    | (go_at_call 305; refine (indexLH_any _).mono ?_; rintro e w1 ⟨rfl, rfl⟩)
    | fail)
  refine bodyPost_ret (v := .tuple #[.string { data := #[97, 32, 98] }, .string { data := #[] }, .bool false]) (by simp [results, Tryz.results240, go_sem, *]) rfl ?_
  exact ⟨rfl, rfl⟩
theorem cutT_any (w : World) : Calls Tryz.prog 159 #[.string { data := #[97, 32, 98] }, .string { data := #[35] }] w fun e w' => e = .returned (.tuple #[.string { data := #[97, 32, 98] }, .string { data := #[] }, .bool false]) ∧ w' = w := by
  go_enter Tryz.func159, Tryz.ntmps159
  go_wp2_with (first
    | (go_at_call 240; refine (cutl_any _).mono ?_; rintro e w1 ⟨rfl, rfl⟩)
    | fail)
  refine bodyPost_ret (v := .tuple #[.string { data := #[97, 32, 98] }, .string { data := #[] }, .bool false]) (by simp [results, Tryz.results159, go_sem, *]) rfl ?_
  exact ⟨rfl, rfl⟩
theorem countB_any (w : World) : Calls Tryz.prog 153 #[.string { data := #[97, 32, 98] }, .string { data := #[32] }] w fun e w' => e = .returned (.int .i64 1) ∧ w' = w := by
  go_enter Tryz.func153, Tryz.ntmps153
  go_wp2
  rw [run_callFunc_extern Tryz.func234 (by kernel_rfl) (by kernel_rfl) (by kernel_rfl) (e := Extern.BytealgCount.count) (by kernel_rfl), Lib.run_countString]
  simp only [Result.andThen]
  rw [Oper.upon_value]
  go_wp2
  go_ret
  exact ⟨rfl, rfl⟩
theorem Tryz.infoStr : (Tryz.prog.info? 9).map (fun i => (i.zero, i.size, i.bytes)) = some (some (.string { data := #[] }), 1, 16) := by kernel_rfl
theorem gensplit_any (w : World) : Calls Tryz.prog 243 #[.string { data := #[97, 32, 98] }, .string { data := #[32] }, .int .i64 0, .int .i64 (-1)] w fun e w' => e = .returned (.slice (some ⟨w.heap.size, 0, none⟩) 2 2) ∧ Below w.heap.size w w' ∧ w'.heap[w.heap.size]? = some (.cells #[.string { data := #[97] }, .string { data := #[98] }] 9 (0, 0)) := by
  have hmk := fun W : World => run_make_row' (P := Tryz.prog) 97 9 (.string { data := #[] }) 16 Tryz.underlying97 Tryz.infoStr rfl .i64 .i64 2 (by omega) (by omega) W
  go_enter Tryz.func243, Tryz.ntmps243
  go_upto_region 9 with (first
    | (go_at_call 153; refine (countB_any _).mono ?_; rintro e w1 ⟨rfl, rfl⟩)
    | fail)
  obtain ⟨w, rfl⟩ : ∃ w : World, w = w1 := ⟨_, rfl⟩
  have hm2 : min (2 : Int) 4 = 2 := by decide
  simp only [hm2]
  have hmk2 : ∀ W : World, (Instr.makeSlice 97 (.int .i64 2) (.int .i64 2)).run Tryz.prog W = .ok (.slice (some ⟨W.heap.size, 0, none⟩) 2 2) (W.alloc (.cells (madeCells #[.string { data := #[] }] 2) 9)) := hmk
  clear hmk
  rw [hmk2]
  simp only [Result.andThen]
  rw [Oper.upon_value]
  clear hmk2 hm2
  go_upto_region 9 with fail
  obtain ⟨w1, hw1⟩ : ∃ w1 : World, w1 = w.alloc (.cells (madeCells #[.string { data := #[] }] 2) 9) := ⟨_, rfl⟩
  rw [← hw1]
  have hr1 : w1.heap[w.heap.size]? = some (.cells #[.string { data := #[] }, .string { data := #[] }] 9 (0, 0)) := by rw [hw1]; exact (heap_alloc_new w _).trans (by kernel_rfl)
  have Hb1 : Hid (Below w.heap.size w w1) := Lib.hid (by rw [hw1]; exact gBel)
  have Hr1 := Lib.hid hr1
  clear hw1 hr1
  go_upto_region 11 with fail
  go_loopw [0, 10] (fun sv iv wr => (sv = .string { data := #[97, 32, 98] } ∧ iv = .int .i64 0 ∧ wr.heap[w.heap.size]? = some (.cells #[.string { data := #[] }, .string { data := #[] }] 9 (0, 0)) ∨ sv = .string { data := #[98] } ∧ iv = .int .i64 1 ∧ wr.heap[w.heap.size]? = some (.cells #[.string { data := #[97] }, .string { data := #[] }] 9 (0, 0))) ∧ Below w.heap.size w wr) (fun _ iv _ => 1 - (intOf iv).toNat)
  case atStart => exact ⟨.inl ⟨rfl, rfl, Hr1.out⟩, Hb1.out⟩
  case round =>
    obtain ⟨hiv, hbw⟩ := hrel
    have Hbw := Lib.hid hbw
    clear hbw
    rcases hiv with ⟨rfl, rfl, hr⟩ | ⟨rfl, rfl, hr⟩
    · have c0 := cell_of_row wr w.heap.size 0 _ _ _ hr
      have f0 := frozen_of_row wr w.heap.size 0 _ _ hr
      have hs0 := heap_setCell_same wr w.heap.size 0 _ _ (.string { data := #[97] }) hr
      have Hs0 := Lib.hid hs0
      clear hr hs0
      go_wp2_with (first
        | (go_at_call 235; refine (indexSB_any _).mono ?_; rintro e w1 ⟨rfl, rfl⟩)
        | fail)
      go_roundw
      case rel => exact ⟨.inr ⟨by first | rfl | kernel_rfl, rfl, Hs0.out⟩, Hbw.out.setCell (Nat.le_refl _) _⟩
      case measure => decide
    · have c1 := cell_of_row wr w.heap.size 1 _ _ _ hr
      have f1 := frozen_of_row wr w.heap.size 1 _ _ hr
      have Hs1 := Lib.hid (heap_setCell_same wr w.heap.size 1 _ _ (.string { data := #[98] }) hr)
      clear hr
      go_wp2_with fail
      go_ret
      exact ⟨rfl, Hbw.out.setCell (Nat.le_refl _) _, Hs1.out⟩
theorem splitS_any (w : World) : Calls Tryz.prog 162 #[.string { data := #[97, 32, 98] }, .string { data := #[32] }] w fun e w' => e = .returned (.slice (some ⟨w.heap.size, 0, none⟩) 2 2) ∧ Below w.heap.size w w' ∧ w'.heap[w.heap.size]? = some (.cells #[.string { data := #[97] }, .string { data := #[98] }] 9 (0, 0)) := by
  go_enter Tryz.func162, Tryz.ntmps162
  go_wp2_with (first
    | (go_at_call 243; refine (gensplit_any _).mono ?_; rintro e w1 ⟨rfl, hb1, hr1⟩; have HH := Lib.hid (And.intro hb1 hr1); clear hb1 hr1)
    | fail)
  go_ret
  exact ⟨rfl, HH.out.1, HH.out.2⟩
theorem noEmpty_any (c : UInt8) (w : World) : Calls Tryz.prog 163 #[.string { data := #[c] }] w fun e w' => e = .returned (.bool false) ∧ w' = w := by
  go_enter Tryz.func163, Tryz.ntmps163
  go_wp2
  go_ret
  exact ⟨by first | rfl | (simp; done) | kernel_rfl, rfl⟩
theorem indexW_any (g : Nat) (w : World) (hr : w.heap[g]? = some (.cells #[.string { data := #[97] }, .string { data := #[98] }] 9 (0, 0))) :
    Calls Tryz.prog 242 #[.slice (some ⟨g, 0, none⟩) 2 2, .func (.func 163) #[] #[]] w fun e w' => e = .returned (.int .i64 (-1)) ∧ w' = w := by
  have eg : ∀ args w, (callFunc 163 args).run Tryz.prog w = .ok (.enter 163 args) w := enters_of Tryz.func163 (by kernel_rfl) rfl
  have c0 := cell_of_row w g 0 _ _ _ hr
  have c1 := cell_of_row w g 1 _ _ _ hr
  clear hr
  go_enter Tryz.func242, Tryz.ntmps242
  go_wp2
  go_loop [8] (fun iv => iv = .int .i64 0 ∨ iv = .int .i64 1 ∨ iv = .int .i64 2) (fun iv => 2 - (intOf iv).toNat)
  case atStart => exact .inl rfl
  case round =>
    rcases hrel with rfl | rfl | rfl
    · go_wp2_with (first
        | (go_at_call 163; refine (noEmpty_any 97 _).mono ?_; rintro e w1 ⟨rfl, rfl⟩)
        | fail)
      go_round
      case rel => exact .inr (.inl rfl)
      case measure => decide
    · go_wp2_with (first
        | (go_at_call 163; refine (noEmpty_any 98 _).mono ?_; rintro e w1 ⟨rfl, rfl⟩)
        | fail)
      go_round
      case rel => exact .inr (.inr rfl)
      case measure => decide
    · go_wp2
      go_ret
      exact ⟨rfl, rfl⟩
theorem deleteW_any (g : Nat) (w : World) (hr : w.heap[g]? = some (.cells #[.string { data := #[97] }, .string { data := #[98] }] 9 (0, 0))) :
    Calls Tryz.prog 161 #[.slice (some ⟨g, 0, none⟩) 2 2, .func (.func 163) #[] #[]] w fun e w' => e = .returned (.slice (some ⟨g, 0, none⟩) 2 2) ∧ w' = w := by
  go_enter Tryz.func161, Tryz.ntmps161
  go_wp2_with (first
    | (go_at_call 242; refine (indexW_any g _ hr).mono ?_; rintro e w1 ⟨rfl, rfl⟩)
    | fail)
  go_ret
  exact ⟨rfl, rfl⟩
theorem plain_any (c : Int) (h : c = 10 ∨ (32 ≤ c ∧ c ≤ 126)) (w : World) : Calls Tryz.prog 157 #[.int .i32 c] w fun e w' => e = .returned (.bool true) ∧ w' = w := by
  by_cases h1 : c = 10
  · subst h1
    go_enter Tryz.func157, Tryz.ntmps157
    go_wp2
    go_ret
    exact ⟨rfl, rfl⟩
  · have h2 : 32 ≤ c := by omega
    have h3 : c ≤ 126 := by omega
    have h2' : c ≥ 32 := h2
    go_enter Tryz.func157, Tryz.ntmps157
    go_wp2
    go_ret
    exact ⟨by simp [h2, h3], rfl⟩
theorem notPlain_any (c : Int) (h : c = 10 ∨ (32 ≤ c ∧ c ≤ 126)) (w : World) : Calls Tryz.prog 156 #[.int .i32 c] w fun e w' => e = .returned (.bool false) ∧ w' = w := by
  go_enter Tryz.func156, Tryz.ntmps156
  go_wp2_with (first
    | (go_at_call 157; refine (plain_any c h _).mono ?_; rintro e w1 ⟨rfl, rfl⟩)
    | fail)
  go_ret
  exact ⟨rfl, rfl⟩
theorem indexP_any (w : World) : Calls Tryz.prog 306 #[.string { data := #[97, 32, 98, 10] }, .func (.func 156) #[] #[], .bool true] w fun e w' => e = .returned (.int .i64 (-1)) ∧ Below w.heap.size w w' := by
  have eg : ∀ args w, (callFunc 156 args).run Tryz.prog w = .ok (.enter 156 args) w := enters_of Tryz.func156 (by kernel_rfl) rfl
  go_enter Tryz.func306, Tryz.ntmps306
  go_wp2
  go_loopg [7, 8] 4 (fun g _ _ wx => ∃ i : Nat, i + g = 4 ∧ wx = w.iter { data := #[97, 32, 98, 10] } i)
  case atStart => exact ⟨0, by omega, rfl⟩
  case round =>
    obtain ⟨i, hig, rfl⟩ := hrel
    cases gk with
    | zero =>
      obtain rfl : i = 4 := by omega
      have hnx := fun ty => run_next_end (P := Tryz.prog) w { data := #[97, 32, 98, 10] } 4 ty (by decide)
      go_wp2
      go_ret
      exact ⟨rfl, (Below.refl _ w).alloc (Nat.le_refl _) _⟩
    | succ g =>
      have hi : i < 4 := by omega
      have hi' : i < (ByteArray.mk #[97, 32, 98, 10]).size := hi
      obtain ⟨x, hx⟩ : ∃ x : UInt8, (ByteArray.mk #[97, 32, 98, 10])[i]'hi' = x := ⟨_, rfl⟩
      have hxp : x.toNat = 10 ∨ (32 ≤ x.toNat ∧ x.toNat ≤ 126) := by
        rw [← hx]
        have h4 : i = 0 ∨ i = 1 ∨ i = 2 ∨ i = 3 := by omega
        clear hx
        rcases h4 with rfl | rfl | rfl | rfl <;> (revert hi'; decide)
      have hnx := fun ty => run_next_ascii (P := Tryz.prog) w { data := #[97, 32, 98, 10] } i ty hi' (by rw [hx]; omega)
      rw [hx] at hnx
      have hp : ((x.toNat : Int) = 10 ∨ (32 ≤ (x.toNat : Int) ∧ (x.toNat : Int) ≤ 126)) := by omega
      have Hp := Lib.hid hp
      clear hp hxp hx
      go_wp2_with (first
        | (go_at_call 156; refine (notPlain_any _ Hp.out _).mono ?_; rintro e w1 ⟨rfl, rfl⟩)
        | fail)
      go_roundg g
      case measure => omega
      case rel => exact ⟨i + 1, by omega, rfl⟩
end Go.Proofs.YtfmkmhhghmdakaaGreatDoor
