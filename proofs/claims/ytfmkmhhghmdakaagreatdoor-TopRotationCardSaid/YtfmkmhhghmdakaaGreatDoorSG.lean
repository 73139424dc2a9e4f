import Derived.Test.YtfmkmhhghmdakaaGreatDoorShT
import Derived.Deep.OwnRows
import Derived.Test.YtfmkmhhghmdakaaGreatDoorRF
import Derived.Test.YtfmkmhhghmdakaaGreatDoorRK
import Derived.Test.YtfmkmhhghmdakaaGreatDoorRM
import Derived.Test.YtfmkmhhghmdakaaGreatDoorRY
import Derived.Test.YtfmkmhhghmdakaaGreatDoorSE
import Derived.Test.YtfmkmhhghmdakaaGreatDoorSF
namespace Go.Proofs.YtfmkmhhghmdakaaGreatDoor
open Go.RowKit Go.Shelf Go.Lib Go.Sort
set_option linter.unusedVariables false
set_option linter.unusedSimpArgs false
set_option maxHeartbeats 64000000
set_option maxRecDepth 100000
theorem limN_any (x : Int) (h : 0 ≤ x) (h2 : x ≤ 1099511627776) (w : World) : Calls Tryz.prog 164 #[.int .i64 x] w fun e w' => e = .returned (.bool true) ∧ w' = w := by
  have h' : x ≥ 0 := h
  go_enter Tryz.func164, Tryz.ntmps164
  go_wp2
  go_ret
  exact ⟨by simp [h, h2], rfl⟩
theorem share1_any (x : Int) (h : 0 ≤ x) (h2 : x ≤ 1099511627776) (w : World) : Calls Tryz.prog 166 #[.int .i64 x] w fun e w' => e = .returned (.bool false) ∧ w' = w := by
  go_enter Tryz.func166, Tryz.ntmps166
  go_wp2_with (first
    | (go_at_call 164; refine (limN_any x h h2 _).mono ?_; rintro e w1 ⟨rfl, rfl⟩)
    | fail)
  go_ret
  exact ⟨rfl, rfl⟩
theorem indexI_any (g : Nat) (w : World) (h0 : w.cell? ⟨g, 0, none⟩ = some (.int .i64 1)) (h1 : w.cell? ⟨g, 1, none⟩ = some (.int .i64 2)) :
    Calls Tryz.prog 244 #[.slice (some ⟨g, 0, none⟩) 2 2, .func (.func 166) #[] #[]] w fun e w' => e = .returned (.int .i64 (-1)) ∧ w' = w := by
  have eg : ∀ args w, (callFunc 166 args).run Tryz.prog w = .ok (.enter 166 args) w := enters_of Tryz.func166 (by kernel_rfl) rfl
  go_enter Tryz.func244, Tryz.ntmps244
  go_wp2
  go_loop [8] (fun iv => iv = .int .i64 0 ∨ iv = .int .i64 1 ∨ iv = .int .i64 2) (fun iv => 2 - (intOf iv).toNat)
  case atStart => exact .inl rfl
  case round =>
    rcases hrel with rfl | rfl | rfl
    · go_wp2_with (first
        | (go_at_call 166; refine (share1_any 1 (by omega) (by omega) _).mono ?_; rintro e w1 ⟨rfl, rfl⟩)
        | fail)
      go_round
      case rel => exact .inr (.inl rfl)
      case measure => decide
    · go_wp2_with (first
        | (go_at_call 166; refine (share1_any 2 (by omega) (by omega) _).mono ?_; rintro e w1 ⟨rfl, rfl⟩)
        | fail)
      go_round
      case rel => exact .inr (.inr rfl)
      case measure => decide
    · go_wp2
      go_ret
      exact ⟨rfl, rfl⟩
theorem containsI_any (g : Nat) (w : World) (h0 : w.cell? ⟨g, 0, none⟩ = some (.int .i64 1)) (h1 : w.cell? ⟨g, 1, none⟩ = some (.int .i64 2)) :
    Calls Tryz.prog 165 #[.slice (some ⟨g, 0, none⟩) 2 2, .func (.func 166) #[] #[]] w fun e w' => e = .returned (.bool false) ∧ w' = w := by
  go_enter Tryz.func165, Tryz.ntmps165
  go_wp2_with (first
    | (go_at_call 244; refine (indexI_any g _ h0 h1).mono ?_; rintro e w1 ⟨rfl, rfl⟩)
    | fail)
  go_ret
  exact ⟨rfl, rfl⟩
theorem mul31_any (w : World) : Calls Tryz.prog 309 #[.int .u64 3, .int .u64 1] w fun e w' => e = .returned (.tuple #[.int .u64 0, .int .u64 3]) ∧ w' = w := by
  go_enter Tryz.func309, Tryz.ntmps309
  go_wp2
  refine bodyPost_ret (v := .tuple #[.int .u64 0, .int .u64 3]) (by simp [results, Tryz.results309, go_sem, *]; kernel_rfl) rfl ?_
  exact ⟨rfl, rfl⟩
theorem mul32_any (w : World) : Calls Tryz.prog 309 #[.int .u64 3, .int .u64 2] w fun e w' => e = .returned (.tuple #[.int .u64 0, .int .u64 6]) ∧ w' = w := by
  go_enter Tryz.func309, Tryz.ntmps309
  go_wp2
  refine bodyPost_ret (v := .tuple #[.int .u64 0, .int .u64 6]) (by simp [results, Tryz.results309, go_sem, *]; kernel_rfl) rfl ?_
  exact ⟨rfl, rfl⟩
theorem div31_any (w : World) : Calls Tryz.prog 246 #[.int .u64 0, .int .u64 3, .int .u64 3] w fun e w' => e = .returned (.tuple #[.int .u64 1, .int .u64 0]) ∧ Below w.heap.size w w' := by
  go_enter Tryz.func246, Tryz.ntmps246
  go_upto_region 6 with fail
  go_quiet (fail)
  go_wp2
  refine bodyPost_ret (v := .tuple #[.int .u64 1, .int .u64 0]) (by simp [results, Tryz.results246, go_sem, *]) rfl ?_
  exact ⟨rfl, gBel⟩
theorem div32_any (w : World) : Calls Tryz.prog 246 #[.int .u64 0, .int .u64 6, .int .u64 3] w fun e w' => e = .returned (.tuple #[.int .u64 2, .int .u64 0]) ∧ Below w.heap.size w w' := by
  go_enter Tryz.func246, Tryz.ntmps246
  go_upto_region 6 with fail
  go_quiet (fail)
  go_wp2
  refine bodyPost_ret (v := .tuple #[.int .u64 2, .int .u64 0]) (by simp [results, Tryz.results246, go_sem, *]) rfl ?_
  exact ⟨rfl, gBel⟩
theorem prod31_any (w : World) : Calls Tryz.prog 245 #[.int .i64 3, .int .i64 1] w fun e w' => e = .returned (.agg #[.int .u64 0, .int .u64 3]) ∧ Below w.heap.size w w' := by
  go_enter Tryz.func245, Tryz.ntmps245
  go_wp2_with (first
    | (go_at_call 309; refine (mul31_any _).mono ?_; rintro e w1 ⟨rfl, rfl⟩)
    | fail)
  refine bodyPost_ret (v := .agg #[.int .u64 0, .int .u64 3]) (by simp [results, Tryz.results245, go_sem, *]) rfl ?_
  exact ⟨rfl, gBel⟩
theorem divide31_any (w : World) : Calls Tryz.prog 167 #[.int .i64 3, .int .i64 1, .int .i64 3] w fun e w' => e = .returned (.tuple #[.int .i64 1, .int .i64 0]) ∧ Below w.heap.size w w' := by
  go_enter Tryz.func167, Tryz.ntmps167
  go_wp2_with (first
    | (go_at_call 245
       refine (prod31_any _).mono ?_
       rintro e w1 ⟨rfl, hb1⟩
       have hs1 := hb1.size
       have Hb1 := Lib.hid hb1
       clear hb1)
    | (go_at_call 246
       refine (div31_any _).mono ?_
       rintro e w2 ⟨rfl, hb2⟩
       have Hb2 : Hid (Below w.heap.size w w2) := Lib.hid (Hb1.out.trans (by have hbq := hb2; exact (((Below.refl w1.heap.size w1).alloc (Nat.le_refl _) _).trans (hb2.mono (by simp))).mono hs1))
       clear hb2)
    | fail)
  refine bodyPost_ret (v := .tuple #[.int .i64 1, .int .i64 0]) (by simp [results, Tryz.results167, go_sem, *]; try kernel_rfl) rfl ?_
  exact ⟨rfl, Hb2.out⟩
theorem prod32_any (w : World) : Calls Tryz.prog 245 #[.int .i64 3, .int .i64 2] w fun e w' => e = .returned (.agg #[.int .u64 0, .int .u64 6]) ∧ Below w.heap.size w w' := by
  go_enter Tryz.func245, Tryz.ntmps245
  go_wp2_with (first
    | (go_at_call 309; refine (mul32_any _).mono ?_; rintro e w1 ⟨rfl, rfl⟩)
    | fail)
  refine bodyPost_ret (v := .agg #[.int .u64 0, .int .u64 6]) (by simp [results, Tryz.results245, go_sem, *]) rfl ?_
  exact ⟨rfl, gBel⟩
theorem divide32_any (w : World) : Calls Tryz.prog 167 #[.int .i64 3, .int .i64 2, .int .i64 3] w fun e w' => e = .returned (.tuple #[.int .i64 2, .int .i64 0]) ∧ Below w.heap.size w w' := by
  go_enter Tryz.func167, Tryz.ntmps167
  go_wp2_with (first
    | (go_at_call 245
       refine (prod32_any _).mono ?_
       rintro e w1 ⟨rfl, hb1⟩
       have hs1 := hb1.size
       have Hb1 := Lib.hid hb1
       clear hb1)
    | (go_at_call 246
       refine (div32_any _).mono ?_
       rintro e w2 ⟨rfl, hb2⟩
       have Hb2 : Hid (Below w.heap.size w w2) := Lib.hid (Hb1.out.trans (by have hbq := hb2; exact (((Below.refl w1.heap.size w1).alloc (Nat.le_refl _) _).trans (hb2.mono (by simp))).mono hs1))
       clear hb2)
    | fail)
  refine bodyPost_ret (v := .tuple #[.int .i64 2, .int .i64 0]) (by simp [results, Tryz.results167, go_sem, *]; try kernel_rfl) rfl ?_
  exact ⟨rfl, Hb2.out⟩
def encF (i : Fin 2) : Value := .int .i64 (i.val : Int)
def cmpF (i j : Fin 2) : Int := cI (i.val : Int) (j.val : Int)
theorem cmpF_any (gb gr : Nat) (x y : Fin 2) (W : World) (hb : W.cell? ⟨gb, 0, none⟩ = some (.slice (some ⟨gr, 0, none⟩) 2 2)) (h0 : W.cell? ⟨gr, 0, none⟩ = some (.int .i64 0)) (h1 : W.cell? ⟨gr, 1, none⟩ = some (.int .i64 0)) :
    Calls Tryz.prog 169 #[encF x, encF y, .pointer (some ⟨gb, 0, none⟩)] W fun e w' => e = .returned (.int .i64 (cmpF x y)) ∧ ∃ q os', w' = Sort.grow (W.drewN q) os' := by
  have hlb := World.block_lt_of_cell? W _ hb
  have hlr := World.block_lt_of_cell? W _ h0
  dsimp only at hlb hlr
  have H00 : Hid (∀ W, Calls Tryz.prog 171 #[.int .i64 0, .int .i64 0] W fun e w' => e = .returned (.int .i64 0) ∧ w' = W) := Lib.hid (fun W => cmpI_any 0 0 W)
  have K00 : x = 0 → y = 0 → Calls Tryz.prog 169 #[encF x, encF y, .pointer (some ⟨gb, 0, none⟩)] W fun e w' => e = .returned (.int .i64 (cmpF x y)) ∧ ∃ q os', w' = Sort.grow (W.drewN q) os' := by
    rintro rfl rfl
    have HXY : Hid (∀ W, Calls Tryz.prog 171 #[.int .i64 0, .int .i64 0] W fun e w' => e = .returned (.int .i64 0) ∧ w' = W) := Lib.hid (fun W => cmpI_any 0 0 W)
    have Hor : Hid (Calls Tryz.prog 170 #[.slice (some ⟨W.heap.size, 0, none⟩) 2 2] (W.alloc (.cells #[.int .i64 0, .int .i64 0] 3)).drew fun e w' => e = .returned (.int .i64 0) ∧ w' = (W.alloc (.cells #[.int .i64 0, .int .i64 0] 3)).drew) := Lib.hid (orI_any W.heap.size 0 0 (W.alloc (.cells #[.int .i64 0, .int .i64 0] 3)).drew (cell_of_row _ _ 0 _ _ _ (heap_alloc_new W _)) (cell_of_row _ _ 1 _ _ _ (heap_alloc_new W _)))
    show Calls Tryz.prog 169 #[.int .i64 0, .int .i64 0, .pointer (some ⟨gb, 0, none⟩)] W fun e w' => e = .returned (.int .i64 0) ∧ ∃ q os', w' = Sort.grow (W.drewN q) os'
    go_enter Tryz.func169, Tryz.ntmps169
    go_upto_region 1 with fail
    go_region_held3 (fun w' => w'.cell? ⟨gb, 0, none⟩ = some (.slice (some ⟨gr, 0, none⟩) 2 2) ∧ w'.cell? ⟨gr, 0, none⟩ = some (.int .i64 0) ∧ w'.cell? ⟨gr, 1, none⟩ = some (.int .i64 0))
      (first | exact ⟨hb, h0, h1⟩ | exact ⟨(World.cell?_alloc_lt W _ ⟨gb, 0, none⟩ hlb).trans hb, (World.cell?_alloc_lt W _ ⟨gr, 0, none⟩ hlr).trans h0, (World.cell?_alloc_lt W _ ⟨gr, 1, none⟩ hlr).trans h1⟩ | go_keep)
      (first
        | (go_at_call 170; refine Hor.out.mono ?_; rintro e w1 ⟨rfl, rfl⟩)
        | (go_at_call 171; have hq := HC1.out; refine (HXY.out _).mono ?_; rintro e w1 ⟨rfl, rfl⟩)
        | (go_at_call 171; refine (H00.out _).mono ?_; rintro e w1 ⟨rfl, rfl⟩; have HC1 := Lib.hid True.intro)
        | fail)
    all_goals go_wp2
    all_goals go_ret
    all_goals exact ⟨rfl, 1, _, by rw [alloc_eq_grow]; rfl⟩
  have K01 : x = 0 → y = 1 → Calls Tryz.prog 169 #[encF x, encF y, .pointer (some ⟨gb, 0, none⟩)] W fun e w' => e = .returned (.int .i64 (cmpF x y)) ∧ ∃ q os', w' = Sort.grow (W.drewN q) os' := by
    rintro rfl rfl
    have HXY : Hid (∀ W, Calls Tryz.prog 171 #[.int .i64 0, .int .i64 1] W fun e w' => e = .returned (.int .i64 (-1)) ∧ w' = W) := Lib.hid (fun W => cmpI_any 0 1 W)
    have Hor : Hid (Calls Tryz.prog 170 #[.slice (some ⟨W.heap.size, 0, none⟩) 2 2] (W.alloc (.cells #[.int .i64 0, .int .i64 (-1)] 3)).drew fun e w' => e = .returned (.int .i64 (-1)) ∧ w' = (W.alloc (.cells #[.int .i64 0, .int .i64 (-1)] 3)).drew) := Lib.hid (orI_any W.heap.size 0 (-1) (W.alloc (.cells #[.int .i64 0, .int .i64 (-1)] 3)).drew (cell_of_row _ _ 0 _ _ _ (heap_alloc_new W _)) (cell_of_row _ _ 1 _ _ _ (heap_alloc_new W _)))
    show Calls Tryz.prog 169 #[.int .i64 0, .int .i64 1, .pointer (some ⟨gb, 0, none⟩)] W fun e w' => e = .returned (.int .i64 (-1)) ∧ ∃ q os', w' = Sort.grow (W.drewN q) os'
    go_enter Tryz.func169, Tryz.ntmps169
    go_upto_region 1 with fail
    go_region_held3 (fun w' => w'.cell? ⟨gb, 0, none⟩ = some (.slice (some ⟨gr, 0, none⟩) 2 2) ∧ w'.cell? ⟨gr, 0, none⟩ = some (.int .i64 0) ∧ w'.cell? ⟨gr, 1, none⟩ = some (.int .i64 0))
      (first | exact ⟨hb, h0, h1⟩ | exact ⟨(World.cell?_alloc_lt W _ ⟨gb, 0, none⟩ hlb).trans hb, (World.cell?_alloc_lt W _ ⟨gr, 0, none⟩ hlr).trans h0, (World.cell?_alloc_lt W _ ⟨gr, 1, none⟩ hlr).trans h1⟩ | go_keep)
      (first
        | (go_at_call 170; refine Hor.out.mono ?_; rintro e w1 ⟨rfl, rfl⟩)
        | (go_at_call 171; have hq := HC1.out; refine (HXY.out _).mono ?_; rintro e w1 ⟨rfl, rfl⟩)
        | (go_at_call 171; refine (H00.out _).mono ?_; rintro e w1 ⟨rfl, rfl⟩; have HC1 := Lib.hid True.intro)
        | fail)
    all_goals go_wp2
    all_goals go_ret
    all_goals exact ⟨rfl, 1, _, by rw [alloc_eq_grow]; rfl⟩
  have K10 : x = 1 → y = 0 → Calls Tryz.prog 169 #[encF x, encF y, .pointer (some ⟨gb, 0, none⟩)] W fun e w' => e = .returned (.int .i64 (cmpF x y)) ∧ ∃ q os', w' = Sort.grow (W.drewN q) os' := by
    rintro rfl rfl
    have HXY : Hid (∀ W, Calls Tryz.prog 171 #[.int .i64 1, .int .i64 0] W fun e w' => e = .returned (.int .i64 1) ∧ w' = W) := Lib.hid (fun W => cmpI_any 1 0 W)
    have Hor : Hid (Calls Tryz.prog 170 #[.slice (some ⟨W.heap.size, 0, none⟩) 2 2] (W.alloc (.cells #[.int .i64 0, .int .i64 1] 3)).drew fun e w' => e = .returned (.int .i64 1) ∧ w' = (W.alloc (.cells #[.int .i64 0, .int .i64 1] 3)).drew) := Lib.hid (orI_any W.heap.size 0 1 (W.alloc (.cells #[.int .i64 0, .int .i64 1] 3)).drew (cell_of_row _ _ 0 _ _ _ (heap_alloc_new W _)) (cell_of_row _ _ 1 _ _ _ (heap_alloc_new W _)))
    show Calls Tryz.prog 169 #[.int .i64 1, .int .i64 0, .pointer (some ⟨gb, 0, none⟩)] W fun e w' => e = .returned (.int .i64 1) ∧ ∃ q os', w' = Sort.grow (W.drewN q) os'
    go_enter Tryz.func169, Tryz.ntmps169
    go_upto_region 1 with fail
    go_region_held3 (fun w' => w'.cell? ⟨gb, 0, none⟩ = some (.slice (some ⟨gr, 0, none⟩) 2 2) ∧ w'.cell? ⟨gr, 0, none⟩ = some (.int .i64 0) ∧ w'.cell? ⟨gr, 1, none⟩ = some (.int .i64 0))
      (first | exact ⟨hb, h0, h1⟩ | exact ⟨(World.cell?_alloc_lt W _ ⟨gb, 0, none⟩ hlb).trans hb, (World.cell?_alloc_lt W _ ⟨gr, 0, none⟩ hlr).trans h0, (World.cell?_alloc_lt W _ ⟨gr, 1, none⟩ hlr).trans h1⟩ | go_keep)
      (first
        | (go_at_call 170; refine Hor.out.mono ?_; rintro e w1 ⟨rfl, rfl⟩)
        | (go_at_call 171; have hq := HC1.out; refine (HXY.out _).mono ?_; rintro e w1 ⟨rfl, rfl⟩)
        | (go_at_call 171; refine (H00.out _).mono ?_; rintro e w1 ⟨rfl, rfl⟩; have HC1 := Lib.hid True.intro)
        | fail)
    all_goals go_wp2
    all_goals go_ret
    all_goals exact ⟨rfl, 1, _, by rw [alloc_eq_grow]; rfl⟩
  have K11 : x = 1 → y = 1 → Calls Tryz.prog 169 #[encF x, encF y, .pointer (some ⟨gb, 0, none⟩)] W fun e w' => e = .returned (.int .i64 (cmpF x y)) ∧ ∃ q os', w' = Sort.grow (W.drewN q) os' := by
    rintro rfl rfl
    have HXY : Hid (∀ W, Calls Tryz.prog 171 #[.int .i64 1, .int .i64 1] W fun e w' => e = .returned (.int .i64 0) ∧ w' = W) := Lib.hid (fun W => cmpI_any 1 1 W)
    have Hor : Hid (Calls Tryz.prog 170 #[.slice (some ⟨W.heap.size, 0, none⟩) 2 2] (W.alloc (.cells #[.int .i64 0, .int .i64 0] 3)).drew fun e w' => e = .returned (.int .i64 0) ∧ w' = (W.alloc (.cells #[.int .i64 0, .int .i64 0] 3)).drew) := Lib.hid (orI_any W.heap.size 0 0 (W.alloc (.cells #[.int .i64 0, .int .i64 0] 3)).drew (cell_of_row _ _ 0 _ _ _ (heap_alloc_new W _)) (cell_of_row _ _ 1 _ _ _ (heap_alloc_new W _)))
    show Calls Tryz.prog 169 #[.int .i64 1, .int .i64 1, .pointer (some ⟨gb, 0, none⟩)] W fun e w' => e = .returned (.int .i64 0) ∧ ∃ q os', w' = Sort.grow (W.drewN q) os'
    go_enter Tryz.func169, Tryz.ntmps169
    go_upto_region 1 with fail
    go_region_held3 (fun w' => w'.cell? ⟨gb, 0, none⟩ = some (.slice (some ⟨gr, 0, none⟩) 2 2) ∧ w'.cell? ⟨gr, 0, none⟩ = some (.int .i64 0) ∧ w'.cell? ⟨gr, 1, none⟩ = some (.int .i64 0))
      (first | exact ⟨hb, h0, h1⟩ | exact ⟨(World.cell?_alloc_lt W _ ⟨gb, 0, none⟩ hlb).trans hb, (World.cell?_alloc_lt W _ ⟨gr, 0, none⟩ hlr).trans h0, (World.cell?_alloc_lt W _ ⟨gr, 1, none⟩ hlr).trans h1⟩ | go_keep)
      (first
        | (go_at_call 170; refine Hor.out.mono ?_; rintro e w1 ⟨rfl, rfl⟩)
        | (go_at_call 171; have hq := HC1.out; refine (HXY.out _).mono ?_; rintro e w1 ⟨rfl, rfl⟩)
        | (go_at_call 171; refine (H00.out _).mono ?_; rintro e w1 ⟨rfl, rfl⟩; have HC1 := Lib.hid True.intro)
        | fail)
    all_goals go_wp2
    all_goals go_ret
    all_goals exact ⟨rfl, 1, _, by rw [alloc_eq_grow]; rfl⟩
  match x, y with
  | 0, 0 => exact K00 rfl rfl
  | 0, 1 => exact K01 rfl rfl
  | 1, 0 => exact K10 rfl rfl
  | 1, 1 => exact K11 rfl rfl
theorem swoF : Sort.SWO (ltOf cmpF) where
  irrefl x := by unfold ltOf cmpF; rcases cI_cases (x.val : Int) (x.val : Int) with h | h | h <;> simp [h.1] <;> omega
  trans x y z h1 h2 := by
    unfold ltOf cmpF at *
    rcases cI_cases (x.val : Int) (y.val : Int) with a | a | a <;> rcases cI_cases (y.val : Int) (z.val : Int) with b | b | b <;> rcases cI_cases (x.val : Int) (z.val : Int) with c | c | c <;> simp [a.1, b.1, c.1] at * <;> omega
  ntrans x y z h1 h2 := by
    unfold ltOf cmpF at *
    rcases cI_cases (x.val : Int) (y.val : Int) with a | a | a <;> rcases cI_cases (y.val : Int) (z.val : Int) with b | b | b <;> rcases cI_cases (x.val : Int) (z.val : Int) with c | c | c <;> simp [a.1, b.1, c.1] at * <;> omega
theorem sortF_any (g gb gr : Nat) (w : World) (hg : w.heap[g]? = some (.cells #[.int .i64 0, .int .i64 1] 3 (0, 0))) (hb : w.heap[gb]? = some (.cells #[.slice (some ⟨gr, 0, none⟩) 2 2] 22 (0, 0))) (hr : w.heap[gr]? = some (.cells #[.int .i64 0, .int .i64 0] 3 (0, 0))) (h1 : g ≠ gb) (h2 : g ≠ gr) :
    Calls Tryz.prog 168 #[.slice (some ⟨g, 0, none⟩) 2 2, .func (.func 169) #[] #[.pointer (some ⟨gb, 0, none⟩)]] w fun e w' => e = .returned (.tuple #[]) ∧ w.grownBy w' (some g) := by
  have hl : ∀ k o, w.heap[k]? = some o → k < w.heap.size := fun k o h => by
    rcases Nat.lt_or_ge k w.heap.size with h' | h'
    · exact h'
    · rw [Array.getElem?_eq_none h'] at h; cases h
  have hlg := hl _ _ hg
  have hlb := hl _ _ hb
  have hlr := hl _ _ hr
  have eg : ∀ args w, (callFunc 169 args).run Tryz.prog w = .ok (.enter 169 args) w := enters_of Tryz.func169 (by kernel_rfl) rfl
  have hH : Holds encF w g 0 ([0, 1] : List (Fin 2)).toArray := holds_blk (ss := ([0, 1] : List (Fin 2))) hg (by rfl)
  have hcmp : CmpLays1 Tryz.prog 169 #[.pointer (some ⟨gb, 0, none⟩)] encF cmpF g 0 ([0, 1] : List (Fin 2)).toArray.size w := by
    intro m os dk hd x y
    have hstay : ∀ k o, k ≠ g → k < w.heap.size → w.heap[k]? = some o → (sortWorld encF w g 0 m dk os).heap[k]? = some o := fun k o hne hk h => by
      unfold sortWorld
      rw [heap_grow_old _ _ (by simpa [Sort.putRow, Sort.mapBlock, Sort.ahead] using hk)]
      have : g ≠ k := fun e => hne e.symm
      simp [Sort.putRow, Sort.mapBlock, Sort.ahead, Array.getElem?_modify, this, h]
    have hb' := hstay gb _ (fun e => h1 e.symm) hlb hb
    have hr' := hstay gr _ (fun e => h2 e.symm) hlr hr
    exact cmpF_any gb gr x y _ (cell_of_row _ gb 0 _ _ _ hb') (cell_of_row _ gr 0 _ _ _ hr') (cell_of_row _ gr 1 _ _ _ hr')
  refine (Any.slices_SortFunc Tryz.laySortInts encF (fun _ => rfl) cmpF swoF 169 #[.pointer (some ⟨gb, 0, none⟩)] g 0 2 ([0, 1] : List (Fin 2)).toArray w eg hcmp hH hlg (by decide)).mono ?_
  rintro e w' ⟨rfl, d', n, os, _, _, rfl⟩
  refine ⟨rfl, rfl, rfl, rfl, by simp [sortWorld, Sort.putRow, Sort.mapBlock, Sort.ahead, Sort.grow], fun k hk hne => ?_⟩
  unfold sortWorld
  rw [heap_grow_old _ _ (by simpa [Sort.putRow, Sort.mapBlock, Sort.ahead] using hk)]
  have : g ≠ k := fun e => hne (by rw [e])
  simp [Sort.putRow, Sort.mapBlock, Sort.ahead, Array.getElem?_modify, this]
end Go.Proofs.YtfmkmhhghmdakaaGreatDoor
namespace Go.Proofs.YtfmkmhhghmdakaaGreatDoor
open Go.RowKit Go.Shelf
set_option linter.unusedVariables false
set_option linter.unusedSimpArgs false
set_option maxHeartbeats 64000000
set_option maxRecDepth 100000
structure Sh4 (W : World) (s : Nat) (a b c d : Int) : Prop where
  out : W.heap[s]? = some (.cells #[.int .i64 a, .int .i64 b] 3 (0, 0))
  idx : W.heap[s + 1]? = some (.cells #[.int .i64 c, .int .i64 d] 3 (0, 0))
  rst : W.heap[s + 2]? = some (.cells #[.int .i64 0, .int .i64 0] 3 (0, 0))
  box : W.heap[s + 3]? = some (.cells #[.slice (some ⟨s + 2, 0, none⟩) 2 2] 22 (0, 0))
theorem Sh4.lt {W : World} {s : Nat} {a b c d : Int} (h : Sh4 W s a b c d) : s + 3 < W.heap.size := (Array.getElem?_eq_some_iff.1 h.box).1
theorem Sh4.below {W W' : World} {s : Nat} {a b c d : Int} (h : Sh4 W s a b c d) (hb : Below W.heap.size W W') : Sh4 W' s a b c d := by
  have hl := h.lt
  exact ⟨(hb.block _ (by omega)).trans h.out, (hb.block _ (by omega)).trans h.idx, (hb.block _ (by omega)).trans h.rst, (hb.block _ (by omega)).trans h.box⟩
theorem Sh4.drew {W : World} {s : Nat} {a b c d : Int} (h : Sh4 W s a b c d) : Sh4 W.drew s a b c d := ⟨h.out, h.idx, h.rst, h.box⟩
theorem Sh4.out0 {W : World} {s : Nat} {a b c d : Int} (h : Sh4 W s a b c d) (x : Int) : Sh4 (W.setCell ⟨s, 0, none⟩ (.int .i64 x)) s x b c d := by
  have hl := h.lt
  have hg := grownBy_setCell' W s (.int .i64 x)
  exact ⟨heap_setCell_same W s 0 _ _ _ h.out, (hg.block _ (by omega) (by simp)).trans h.idx, (hg.block _ (by omega) (by simp)).trans h.rst, (hg.block _ (by omega) (by simp)).trans h.box⟩
theorem grownBy_cell (W : World) (b i : Nat) (v : Value) : W.grownBy (W.setCell ⟨b, i, none⟩ v) (some b) := by
  refine ⟨rfl, rfl, rfl, by simp [World.setCell], fun k hk hne => ?_⟩
  have : b ≠ k := fun e => hne (by rw [e])
  simp [World.setCell, Array.getElem?_modify, this]
theorem Sh4.set {W : World} {s : Nat} {a b c d : Int} (h : Sh4 W s a b c d) (x : Int) : Sh4 (W.setCell ⟨s, 1, none⟩ (.int .i64 x)) s a x c d ∧ Sh4 (W.setCell ⟨s + 1, 0, none⟩ (.int .i64 x)) s a b x d ∧ Sh4 (W.setCell ⟨s + 1, 1, none⟩ (.int .i64 x)) s a b c x ∧ Sh4 (W.setCell ⟨s + 2, 0, none⟩ (.int .i64 0)) s a b c d ∧ Sh4 (W.setCell ⟨s + 2, 1, none⟩ (.int .i64 0)) s a b c d := by
  have hl := h.lt
  have h1 := fun i v => (grownBy_cell W s i v)
  have h2 := fun i v => (grownBy_cell W (s + 1) i v)
  have h3 := fun i v => (grownBy_cell W (s + 2) i v)
  exact ⟨⟨heap_setCell_same W s 1 _ _ _ h.out, ((h1 _ _).block _ (by omega) (by simp)).trans h.idx, ((h1 _ _).block _ (by omega) (by simp)).trans h.rst, ((h1 _ _).block _ (by omega) (by simp)).trans h.box⟩,
    ⟨((h2 _ _).block _ (by omega) (by simp)).trans h.out, heap_setCell_same W (s + 1) 0 _ _ _ h.idx, ((h2 _ _).block _ (by omega) (by simp)).trans h.rst, ((h2 _ _).block _ (by omega) (by simp)).trans h.box⟩,
    ⟨((h2 _ _).block _ (by omega) (by simp)).trans h.out, heap_setCell_same W (s + 1) 1 _ _ _ h.idx, ((h2 _ _).block _ (by omega) (by simp)).trans h.rst, ((h2 _ _).block _ (by omega) (by simp)).trans h.box⟩,
    ⟨((h3 _ _).block _ (by omega) (by simp)).trans h.out, ((h3 _ _).block _ (by omega) (by simp)).trans h.idx, heap_setCell_same W (s + 2) 0 _ _ _ h.rst, ((h3 _ _).block _ (by omega) (by simp)).trans h.box⟩,
    ⟨((h3 _ _).block _ (by omega) (by simp)).trans h.out, ((h3 _ _).block _ (by omega) (by simp)).trans h.idx, heap_setCell_same W (s + 2) 1 _ _ _ h.rst, ((h3 _ _).block _ (by omega) (by simp)).trans h.box⟩⟩
theorem shares_any (g : Nat) (w : World) (hg : w.heap[g]? = some (.cells #[.int .i64 1, .int .i64 2] 3 (0, 0))) :
    Calls Tryz.prog 63 #[.int .i64 3, .slice (some ⟨g, 0, none⟩) 2 2] w fun e w' => e = .returned (.tuple #[.slice (some ⟨w.heap.size, 0, none⟩) 2 2, .int .i64 0]) ∧ Below w.heap.size w w' ∧ w'.heap[w.heap.size]? = some (.cells #[.int .i64 1, .int .i64 2] 3 (0, 0)) := by
  have hgl : g < w.heap.size := (Array.getElem?_eq_some_iff.1 hg).1
  have g0 := cell_of_row _ _ 0 _ _ _ hg
  have g1 := cell_of_row _ _ 1 _ _ _ hg
  have Hg := Lib.hid hg
  have eg : ∀ args w, (callFunc 166 args).run Tryz.prog w = .ok (.enter 166 args) w := enters_of Tryz.func166 (by kernel_rfl) rfl
  have hmk : ∀ W : World, (Instr.makeSlice 22 (.int .i64 2) (.int .i64 2)).run Tryz.prog W = .ok (.slice (some ⟨W.heap.size, 0, none⟩) 2 2) (W.alloc (.cells (madeCells #[.int .i64 0] 2) 3)) := fun W => run_make_row' (P := Tryz.prog) 22 3 (.int .i64 0) 8 Tryz.underlying22 Tryz.infoInt rfl .i64 .i64 2 (by omega) (by omega) W
  have Hmk := Lib.hid hmk
  clear hg hmk
  go_enter Tryz.func63, Tryz.ntmps63
  go_wp2_with (first
    | (go_at_call 164; refine (limN_any 3 (by omega) (by omega) _).mono ?_; rintro e w1 ⟨rfl, rfl⟩)
    | (go_at_call 165; refine (containsI_any g _ g0 g1).mono ?_; rintro e w1 ⟨rfl, rfl⟩)
    | fail)
  obtain ⟨w, rfl⟩ : ∃ w : World, w = w1 := ⟨_, rfl⟩
  go_loop [6, 29] (fun sv iv => (sv = .int .i64 0 ∧ iv = .int .i64 0) ∨ (sv = .int .i64 1 ∧ iv = .int .i64 1) ∨ (sv = .int .i64 3 ∧ iv = .int .i64 2)) (fun _ iv => 2 - (intOf iv).toNat)
  case atStart => exact .inl ⟨rfl, rfl⟩
  case round =>
    rcases hrel with ⟨rfl, rfl⟩ | ⟨rfl, rfl⟩ | ⟨rfl, rfl⟩
    · go_wp2
      go_round
      case rel => exact .inr (.inl ⟨rfl, rfl⟩)
      case measure => decide
    · go_wp2
      go_round
      case rel => exact .inr (.inr ⟨rfl, rfl⟩)
      case measure => decide
    · have hmk := Hmk.out
      go_upto_region 17 with fail
      clear hmk
      obtain ⟨w1, hw1⟩ : ∃ w1 : World, w1 = (((w.alloc (.cells (madeCells #[.int .i64 0] 2) 3)).alloc (.cells (madeCells #[.int .i64 0] 2) 3)).alloc (.cells (madeCells #[.int .i64 0] 2) 3)).alloc (.cells #[.slice (some ⟨w.heap.size + 2, 0, none⟩) 2 2] 22) := ⟨_, rfl⟩
      have hm2 : madeCells #[.int .i64 0] 2 = #[.int .i64 0, .int .i64 0] := by kernel_rfl
      have h4 : Sh4 w1 w.heap.size 0 0 0 0 := by
        rw [hw1, hm2]
        refine ⟨?_, ?_, ?_, ?_⟩
        · exact (Below.heap_alloc _ _ _ (by first | (simp; done) | (simp; omega))).trans ((Below.heap_alloc _ _ _ (by first | (simp; done) | (simp; omega))).trans ((Below.heap_alloc _ _ _ (by first | (simp; done) | (simp; omega))).trans (heap_alloc_new w _)))
        · exact (Below.heap_alloc _ _ _ (by first | (simp; done) | (simp; omega))).trans ((Below.heap_alloc _ _ _ (by first | (simp; done) | (simp; omega))).trans (by have := heap_alloc_new (w.alloc (.cells #[.int .i64 0, .int .i64 0] 3)) (.cells #[.int .i64 0, .int .i64 0] 3); simpa using this))
        · exact (Below.heap_alloc _ _ _ (by first | (simp; done) | (simp; omega))).trans (by have := heap_alloc_new ((w.alloc (.cells #[.int .i64 0, .int .i64 0] 3)).alloc (.cells #[.int .i64 0, .int .i64 0] 3)) (.cells #[.int .i64 0, .int .i64 0] 3); simpa using this)
        · have := heap_alloc_new (((w.alloc (.cells #[.int .i64 0, .int .i64 0] 3)).alloc (.cells #[.int .i64 0, .int .i64 0] 3)).alloc (.cells #[.int .i64 0, .int .i64 0] 3)) (.cells #[.slice (some ⟨w.heap.size + 2, 0, none⟩) 2 2] 22)
          simpa using this
      have hb1 : Below w.heap.size w w1 := by
        rw [hw1]
        exact ((((Below.refl _ _).alloc (Nat.le_refl _) _).alloc (by simp) _).alloc (by simp; omega) _).alloc (by simp; omega) _
      simp only [Nat.add_assoc, Nat.reduceAdd]
      rw [← hw1]
      obtain ⟨s, hs⟩ : ∃ s, s = w.heap.size := ⟨_, rfl⟩
      rw [← hs] at h4 hb1 hgl ⊢
      have Hs := Lib.hid hs
      have H4 := Lib.hid h4
      have Hb1 := Lib.hid hb1
      clear hw1 hm2 h4 hb1 hs
      go_wp2
      go_loopw [10, 52] (fun lv iv wr => ((lv = .int .i64 3 ∧ iv = .int .i64 0 ∧ Sh4 wr s 0 0 0 0) ∨ (lv = .int .i64 2 ∧ iv = .int .i64 1 ∧ Sh4 wr s 1 0 0 0) ∨ (lv = .int .i64 0 ∧ iv = .int .i64 2 ∧ Sh4 wr s 1 2 0 1)) ∧ Below s w wr) (fun _ iv _ => 2 - (intOf iv).toNat)
      case atStart => exact ⟨.inl ⟨rfl, rfl, H4.out⟩, Hb1.out⟩
      case round =>
        obtain ⟨w2, rfl⟩ : ∃ w2 : World, w2 = wr := ⟨_, rfl⟩
        obtain ⟨hcs, hb2⟩ := hrel
        have Hb2 := Lib.hid hb2
        have hg2 := (hb2.block g hgl).trans Hg.out
        have k0 := cell_of_row _ _ 0 _ _ _ hg2
        have k1 := cell_of_row _ _ 1 _ _ _ hg2
        clear hb2 hg2
        rcases hcs with ⟨rfl, rfl, h4⟩ | ⟨rfl, rfl, h4⟩ | ⟨rfl, rfl, h4⟩
        · have H2 := Lib.hid h4
          clear h4
          go_upto_region 20 with fail
          have d3 := cell_of_row _ _ 0 _ _ _ H2.out.box
          refine wp_region_held_tail (S := fun w' => w'.cell? ⟨s + 3, 0, none⟩ = some (.slice (some ⟨s + 2, 0, none⟩) 2 2)) 13 (by kernel_rfl) (by kernel_rfl) (by kernel_rfl) ?_
          have hHeld : (fun w' : World => w'.cell? ⟨s + 3, 0, none⟩ = some (.slice (some ⟨s + 2, 0, none⟩) 2 2)) w2.drew := d3
          simp only [List.take_succ_cons, List.take_zero, List.replicate]
          refine wpAnyH_take (i := 0) (v := ?vvb0) rfl (by kernel_rfl) (by kernel_rfl) (by kernel_rfl) (fun _ _ _ h => h) (Or.inl ⟨by rfl, ?hyb0⟩) hHeld ?restb0; (case hyb0 => (intro w hSw; (try dsimp only at hSw); go_simp; all_goals (with_reducible rfl))); simp only [Act.put, List.getElem_toArray, List.getElem_cons_zero, List.getElem_cons_succ, List.setIfInBounds_toArray, List.set_cons_zero, List.set_cons_succ]
          refine wpAnyH_take (i := 1) (v := ?vvb1) rfl (by kernel_rfl) (by kernel_rfl) (by kernel_rfl) (fun _ _ _ h => h) (Or.inl ⟨by rfl, ?hyb1⟩) hHeld ?restb1; (case hyb1 => (intro w hSw; (try dsimp only at hSw); go_simp; all_goals (with_reducible rfl))); simp only [Act.put, List.getElem_toArray, List.getElem_cons_zero, List.getElem_cons_succ, List.setIfInBounds_toArray, List.set_cons_zero, List.set_cons_succ]
          refine wpAnyH_take (i := 2) (v := ?vvb2) rfl (by kernel_rfl) (by kernel_rfl) (by kernel_rfl) (fun _ _ _ h => h) (Or.inl ⟨by rfl, ?hyb2⟩) hHeld ?restb2; (case hyb2 => (intro w hSw; (try dsimp only at hSw); go_simp; all_goals (with_reducible rfl))); simp only [Act.put, List.getElem_toArray, List.getElem_cons_zero, List.getElem_cons_succ, List.setIfInBounds_toArray, List.set_cons_zero, List.set_cons_succ]
          refine wpAnyH_take (i := 3) (v := ?vvb3) rfl (by kernel_rfl) (by kernel_rfl) (by kernel_rfl) (fun _ _ _ h => h) (Or.inl ⟨by rfl, ?hyb3⟩) hHeld ?restb3; (case hyb3 => (intro w hSw; (try dsimp only at hSw); go_simp; all_goals (with_reducible rfl))); simp only [Act.put, List.getElem_toArray, List.getElem_cons_zero, List.getElem_cons_succ, List.setIfInBounds_toArray, List.set_cons_zero, List.set_cons_succ]
          refine wpAnyH_take (i := 4) (v := ?vvb4) rfl (by kernel_rfl) (by kernel_rfl) (by kernel_rfl) (fun _ _ _ h => h) (Or.inl ⟨by rfl, ?hyb4⟩) hHeld ?restb4; (case hyb4 => (intro w hSw; (try dsimp only at hSw); go_simp; all_goals (with_reducible rfl))); simp only [Act.put, List.getElem_toArray, List.getElem_cons_zero, List.getElem_cons_succ, List.setIfInBounds_toArray, List.set_cons_zero, List.set_cons_succ]
          refine wpAnyH_take (i := 5) (v := ?vvb5) rfl (by kernel_rfl) (by kernel_rfl) (by kernel_rfl) (fun _ _ _ h => h) (Or.inl ⟨by rfl, ?hyb5⟩) hHeld ?restb5; (case hyb5 => (intro w hSw; (try dsimp only at hSw); go_simp; all_goals (with_reducible rfl))); simp only [Act.put, List.getElem_toArray, List.getElem_cons_zero, List.getElem_cons_succ, List.setIfInBounds_toArray, List.set_cons_zero, List.set_cons_succ]
          refine wpAnyH_take (i := 6) (v := ?vvb6) rfl (by kernel_rfl) (by kernel_rfl) (by kernel_rfl) (fun _ _ _ h => h) (Or.inl ⟨by rfl, ?hyb6⟩) hHeld ?restb6; (case hyb6 => (intro w hSw; (try dsimp only at hSw); go_simp; all_goals (with_reducible rfl))); simp only [Act.put, List.getElem_toArray, List.getElem_cons_zero, List.getElem_cons_succ, List.setIfInBounds_toArray, List.set_cons_zero, List.set_cons_succ]
          refine wpAnyH_ready (rs := [7]) (by kernel_rfl) (by simp) ?_; refine AllReadyH.cons rfl (fun K hK => ?_) AllReadyH.nil
          go_simp
          refine (divide31_any _).mono ?_
          rintro e w5 ⟨rfl, hb5⟩
          have h5 := H2.out.drew.below hb5
          have H5 := Lib.hid h5
          have Hb5 := Lib.hid hb5
          clear h5 hb5
          refine hK.out _ _ (cell_of_row _ _ 0 _ _ _ H5.out.box) (fun hHeld => ?_)
          clear hK K
          (try simp only [Act.put, List.getElem_toArray, List.getElem_cons_zero, List.getElem_cons_succ, List.setIfInBounds_toArray, List.set_cons_zero, List.set_cons_succ])
          refine wpAnyH_take (i := 8) (v := ?vvb8) rfl (by kernel_rfl) (by kernel_rfl) (by kernel_rfl) (fun _ _ _ h => h) (Or.inl ⟨by rfl, ?hyb8⟩) hHeld ?restb8; (case hyb8 => (intro w hSw; (try dsimp only at hSw); go_simp; all_goals (with_reducible rfl))); simp only [Act.put, List.getElem_toArray, List.getElem_cons_zero, List.getElem_cons_succ, List.setIfInBounds_toArray, List.set_cons_zero, List.set_cons_succ]
          refine wpAnyH_take (i := 9) (v := ?vvb9) rfl (by kernel_rfl) (by kernel_rfl) (by kernel_rfl) (fun _ _ _ h => h) (Or.inl ⟨by rfl, ?hyb9⟩) hHeld ?restb9; (case hyb9 => (intro w hSw; (try dsimp only at hSw); go_simp; all_goals (with_reducible rfl))); simp only [Act.put, List.getElem_toArray, List.getElem_cons_zero, List.getElem_cons_succ, List.setIfInBounds_toArray, List.set_cons_zero, List.set_cons_succ]
          refine wpAnyH_take (i := 10) (v := ?vvb10) rfl (by kernel_rfl) (by kernel_rfl) (by kernel_rfl) (fun _ _ _ h => h) (Or.inl ⟨by rfl, ?hyb10⟩) hHeld ?restb10; (case hyb10 => (intro w hSw; (try dsimp only at hSw); go_simp; all_goals (with_reducible rfl))); simp only [Act.put, List.getElem_toArray, List.getElem_cons_zero, List.getElem_cons_succ, List.setIfInBounds_toArray, List.set_cons_zero, List.set_cons_succ]
          refine wpAnyH_take (i := 11) (v := ?vvb11) rfl (by kernel_rfl) (by kernel_rfl) (by kernel_rfl) (fun _ _ _ h => h) (Or.inl ⟨by rfl, ?hyb11⟩) hHeld ?restb11; (case hyb11 => (intro w hSw; (try dsimp only at hSw); go_simp; all_goals (with_reducible rfl))); simp only [Act.put, List.getElem_toArray, List.getElem_cons_zero, List.getElem_cons_succ, List.setIfInBounds_toArray, List.set_cons_zero, List.set_cons_succ]
          have e0 := cell_of_row _ _ 0 _ _ _ H5.out.out
          have f0 := frozen_of_row _ _ 0 _ _ H5.out.out
          refine wpAnyH_ready (rs := [12]) (by kernel_rfl) (by simp) ?_; refine AllReadyH.cons rfl (fun K hK => ?_) AllReadyH.nil
          go_simp
          obtain ⟨w6, hw6⟩ : ∃ w6 : World, w6 = w5.setCell ⟨s, 0, none⟩ (.int .i64 1) := ⟨_, rfl⟩
          rw [← hw6]
          have H6 : Hid (Sh4 w6 s 1 0 0 0) := Lib.hid (by rw [hw6]; exact H5.out.out0 _)
          have Hb6 : Hid (Below s w w6) := Lib.hid (by rw [hw6]; exact ((Hb2.out.drew).trans (Hb5.out.mono (by have := H2.out.lt; show s ≤ w2.heap.size; omega))).grown (grownBy_cell w5 s _ _) (by have := H5.out.lt; omega) (fun q e => by injection e; omega))
          clear hw6 e0 f0
          refine hK.out _ _ (cell_of_row _ _ 0 _ _ _ H6.out.box) (fun hHeld => ?_)
          clear hK K
          (try simp only [Act.put, List.getElem_toArray, List.getElem_cons_zero, List.getElem_cons_succ, List.setIfInBounds_toArray, List.set_cons_zero, List.set_cons_succ])
          refine wpAnyH_done (by kernel_rfl) ?_ _
          clear hHeld
          show wpList _ _ _ _ _ _
          have e0 := cell_of_row _ _ 0 _ _ _ H6.out.rst
          have f0 := frozen_of_row _ _ 0 _ _ H6.out.rst
          go_upto_region 21 with fail
          clear e0 f0
          obtain ⟨w7, hw7⟩ : ∃ w7 : World, w7 = w6.setCell ⟨s + 2, 0, none⟩ (.int .i64 0) := ⟨_, rfl⟩
          rw [← hw7]
          have H7 : Hid (Sh4 w7 s 1 0 0 0) := Lib.hid (by rw [hw7]; exact (H6.out.set 0).2.2.2.1)
          have Hb7 : Hid (Below s w w7) := Lib.hid (by rw [hw7]; exact Hb6.out.grown (grownBy_cell w6 (s + 2) _ _) (by have := H6.out.lt; omega) (fun q e => by injection e; omega))
          clear hw7
          have e0 := cell_of_row _ _ 0 _ _ _ H7.out.idx
          have f0 := frozen_of_row _ _ 0 _ _ H7.out.idx
          go_upto_region 22 with fail
          clear e0 f0
          obtain ⟨w8, hw8⟩ : ∃ w8 : World, w8 = w7.setCell ⟨s + 1, 0, none⟩ (.int .i64 0) := ⟨_, rfl⟩
          rw [← hw8]
          have H8 : Hid (Sh4 w8 s 1 0 0 0) := Lib.hid (by rw [hw8]; exact (H7.out.set _).2.1)
          have Hb8 : Hid (Below s w w8) := Lib.hid (by rw [hw8]; exact Hb7.out.grown (grownBy_cell w7 (s + 1) _ _) (by have := H7.out.lt; omega) (fun q e => by injection e; omega))
          clear hw8
          have e0 := cell_of_row _ _ 0 _ _ _ H8.out.out
          go_wp2
          go_roundw
          case rel => exact ⟨.inr (.inl ⟨rfl, rfl, H8.out⟩), Hb8.out⟩
          case measure => decide
        · have H2 := Lib.hid h4
          clear h4
          go_upto_region 20 with fail
          have d3 := cell_of_row _ _ 0 _ _ _ H2.out.box
          refine wp_region_held_tail (S := fun w' => w'.cell? ⟨s + 3, 0, none⟩ = some (.slice (some ⟨s + 2, 0, none⟩) 2 2)) 13 (by kernel_rfl) (by kernel_rfl) (by kernel_rfl) ?_
          have hHeld : (fun w' : World => w'.cell? ⟨s + 3, 0, none⟩ = some (.slice (some ⟨s + 2, 0, none⟩) 2 2)) w2.drew := d3
          simp only [List.take_succ_cons, List.take_zero, List.replicate]
          refine wpAnyH_take (i := 0) (v := ?vvc0) rfl (by kernel_rfl) (by kernel_rfl) (by kernel_rfl) (fun _ _ _ h => h) (Or.inl ⟨by rfl, ?hyc0⟩) hHeld ?restc0; (case hyc0 => (intro w hSw; (try dsimp only at hSw); go_simp; all_goals (with_reducible rfl))); simp only [Act.put, List.getElem_toArray, List.getElem_cons_zero, List.getElem_cons_succ, List.setIfInBounds_toArray, List.set_cons_zero, List.set_cons_succ]
          refine wpAnyH_take (i := 1) (v := ?vvc1) rfl (by kernel_rfl) (by kernel_rfl) (by kernel_rfl) (fun _ _ _ h => h) (Or.inl ⟨by rfl, ?hyc1⟩) hHeld ?restc1; (case hyc1 => (intro w hSw; (try dsimp only at hSw); go_simp; all_goals (with_reducible rfl))); simp only [Act.put, List.getElem_toArray, List.getElem_cons_zero, List.getElem_cons_succ, List.setIfInBounds_toArray, List.set_cons_zero, List.set_cons_succ]
          refine wpAnyH_take (i := 2) (v := ?vvc2) rfl (by kernel_rfl) (by kernel_rfl) (by kernel_rfl) (fun _ _ _ h => h) (Or.inl ⟨by rfl, ?hyc2⟩) hHeld ?restc2; (case hyc2 => (intro w hSw; (try dsimp only at hSw); go_simp; all_goals (with_reducible rfl))); simp only [Act.put, List.getElem_toArray, List.getElem_cons_zero, List.getElem_cons_succ, List.setIfInBounds_toArray, List.set_cons_zero, List.set_cons_succ]
          refine wpAnyH_take (i := 3) (v := ?vvc3) rfl (by kernel_rfl) (by kernel_rfl) (by kernel_rfl) (fun _ _ _ h => h) (Or.inl ⟨by rfl, ?hyc3⟩) hHeld ?restc3; (case hyc3 => (intro w hSw; (try dsimp only at hSw); go_simp; all_goals (with_reducible rfl))); simp only [Act.put, List.getElem_toArray, List.getElem_cons_zero, List.getElem_cons_succ, List.setIfInBounds_toArray, List.set_cons_zero, List.set_cons_succ]
          refine wpAnyH_take (i := 4) (v := ?vvc4) rfl (by kernel_rfl) (by kernel_rfl) (by kernel_rfl) (fun _ _ _ h => h) (Or.inl ⟨by rfl, ?hyc4⟩) hHeld ?restc4; (case hyc4 => (intro w hSw; (try dsimp only at hSw); go_simp; all_goals (with_reducible rfl))); simp only [Act.put, List.getElem_toArray, List.getElem_cons_zero, List.getElem_cons_succ, List.setIfInBounds_toArray, List.set_cons_zero, List.set_cons_succ]
          refine wpAnyH_take (i := 5) (v := ?vvc5) rfl (by kernel_rfl) (by kernel_rfl) (by kernel_rfl) (fun _ _ _ h => h) (Or.inl ⟨by rfl, ?hyc5⟩) hHeld ?restc5; (case hyc5 => (intro w hSw; (try dsimp only at hSw); go_simp; all_goals (with_reducible rfl))); simp only [Act.put, List.getElem_toArray, List.getElem_cons_zero, List.getElem_cons_succ, List.setIfInBounds_toArray, List.set_cons_zero, List.set_cons_succ]
          refine wpAnyH_take (i := 6) (v := ?vvc6) rfl (by kernel_rfl) (by kernel_rfl) (by kernel_rfl) (fun _ _ _ h => h) (Or.inl ⟨by rfl, ?hyc6⟩) hHeld ?restc6; (case hyc6 => (intro w hSw; (try dsimp only at hSw); go_simp; all_goals (with_reducible rfl))); simp only [Act.put, List.getElem_toArray, List.getElem_cons_zero, List.getElem_cons_succ, List.setIfInBounds_toArray, List.set_cons_zero, List.set_cons_succ]
          refine wpAnyH_ready (rs := [7]) (by kernel_rfl) (by simp) ?_; refine AllReadyH.cons rfl (fun K hK => ?_) AllReadyH.nil
          go_simp
          refine (divide32_any _).mono ?_
          rintro e w5 ⟨rfl, hb5⟩
          have h5 := H2.out.drew.below hb5
          have H5 := Lib.hid h5
          have Hb5 := Lib.hid hb5
          clear h5 hb5
          refine hK.out _ _ (cell_of_row _ _ 0 _ _ _ H5.out.box) (fun hHeld => ?_)
          clear hK K
          (try simp only [Act.put, List.getElem_toArray, List.getElem_cons_zero, List.getElem_cons_succ, List.setIfInBounds_toArray, List.set_cons_zero, List.set_cons_succ])
          refine wpAnyH_take (i := 8) (v := ?vvc8) rfl (by kernel_rfl) (by kernel_rfl) (by kernel_rfl) (fun _ _ _ h => h) (Or.inl ⟨by rfl, ?hyc8⟩) hHeld ?restc8; (case hyc8 => (intro w hSw; (try dsimp only at hSw); go_simp; all_goals (with_reducible rfl))); simp only [Act.put, List.getElem_toArray, List.getElem_cons_zero, List.getElem_cons_succ, List.setIfInBounds_toArray, List.set_cons_zero, List.set_cons_succ]
          refine wpAnyH_take (i := 9) (v := ?vvc9) rfl (by kernel_rfl) (by kernel_rfl) (by kernel_rfl) (fun _ _ _ h => h) (Or.inl ⟨by rfl, ?hyc9⟩) hHeld ?restc9; (case hyc9 => (intro w hSw; (try dsimp only at hSw); go_simp; all_goals (with_reducible rfl))); simp only [Act.put, List.getElem_toArray, List.getElem_cons_zero, List.getElem_cons_succ, List.setIfInBounds_toArray, List.set_cons_zero, List.set_cons_succ]
          refine wpAnyH_take (i := 10) (v := ?vvc10) rfl (by kernel_rfl) (by kernel_rfl) (by kernel_rfl) (fun _ _ _ h => h) (Or.inl ⟨by rfl, ?hyc10⟩) hHeld ?restc10; (case hyc10 => (intro w hSw; (try dsimp only at hSw); go_simp; all_goals (with_reducible rfl))); simp only [Act.put, List.getElem_toArray, List.getElem_cons_zero, List.getElem_cons_succ, List.setIfInBounds_toArray, List.set_cons_zero, List.set_cons_succ]
          refine wpAnyH_take (i := 11) (v := ?vvc11) rfl (by kernel_rfl) (by kernel_rfl) (by kernel_rfl) (fun _ _ _ h => h) (Or.inl ⟨by rfl, ?hyc11⟩) hHeld ?restc11; (case hyc11 => (intro w hSw; (try dsimp only at hSw); go_simp; all_goals (with_reducible rfl))); simp only [Act.put, List.getElem_toArray, List.getElem_cons_zero, List.getElem_cons_succ, List.setIfInBounds_toArray, List.set_cons_zero, List.set_cons_succ]
          have e0 := cell_of_row _ _ 1 _ _ _ H5.out.out
          have f0 := frozen_of_row _ _ 1 _ _ H5.out.out
          refine wpAnyH_ready (rs := [12]) (by kernel_rfl) (by simp) ?_; refine AllReadyH.cons rfl (fun K hK => ?_) AllReadyH.nil
          go_simp
          obtain ⟨w6, hw6⟩ : ∃ w6 : World, w6 = w5.setCell ⟨s, 1, none⟩ (.int .i64 2) := ⟨_, rfl⟩
          rw [← hw6]
          have H6 : Hid (Sh4 w6 s 1 2 0 0) := Lib.hid (by rw [hw6]; exact (H5.out.set _).1)
          have Hb6 : Hid (Below s w w6) := Lib.hid (by rw [hw6]; exact ((Hb2.out.drew).trans (Hb5.out.mono (by have := H2.out.lt; show s ≤ w2.heap.size; omega))).grown (grownBy_cell w5 s _ _) (by have := H5.out.lt; omega) (fun q e => by injection e; omega))
          clear hw6 e0 f0
          refine hK.out _ _ (cell_of_row _ _ 0 _ _ _ H6.out.box) (fun hHeld => ?_)
          clear hK K
          (try simp only [Act.put, List.getElem_toArray, List.getElem_cons_zero, List.getElem_cons_succ, List.setIfInBounds_toArray, List.set_cons_zero, List.set_cons_succ])
          refine wpAnyH_done (by kernel_rfl) ?_ _
          clear hHeld
          show wpList _ _ _ _ _ _
          have e0 := cell_of_row _ _ 1 _ _ _ H6.out.rst
          have f0 := frozen_of_row _ _ 1 _ _ H6.out.rst
          go_upto_region 21 with fail
          clear e0 f0
          obtain ⟨w7, hw7⟩ : ∃ w7 : World, w7 = w6.setCell ⟨s + 2, 1, none⟩ (.int .i64 0) := ⟨_, rfl⟩
          rw [← hw7]
          have H7 : Hid (Sh4 w7 s 1 2 0 0) := Lib.hid (by rw [hw7]; exact (H6.out.set 0).2.2.2.2)
          have Hb7 : Hid (Below s w w7) := Lib.hid (by rw [hw7]; exact Hb6.out.grown (grownBy_cell w6 (s + 2) _ _) (by have := H6.out.lt; omega) (fun q e => by injection e; omega))
          clear hw7
          have e0 := cell_of_row _ _ 1 _ _ _ H7.out.idx
          have f0 := frozen_of_row _ _ 1 _ _ H7.out.idx
          go_upto_region 22 with fail
          clear e0 f0
          obtain ⟨w8, hw8⟩ : ∃ w8 : World, w8 = w7.setCell ⟨s + 1, 1, none⟩ (.int .i64 1) := ⟨_, rfl⟩
          rw [← hw8]
          have H8 : Hid (Sh4 w8 s 1 2 0 1) := Lib.hid (by rw [hw8]; exact (H7.out.set _).2.2.1)
          have Hb8 : Hid (Below s w w8) := Lib.hid (by rw [hw8]; exact Hb7.out.grown (grownBy_cell w7 (s + 1) _ _) (by have := H7.out.lt; omega) (fun q e => by injection e; omega))
          clear hw8
          have e0 := cell_of_row _ _ 1 _ _ _ H8.out.out
          go_wp2
          go_roundw
          case rel => exact ⟨.inr (.inr ⟨rfl, rfl, H8.out⟩), Hb8.out⟩
          case measure => decide
        · have H2 := Lib.hid h4
          clear h4
          have Hsort := Lib.hid (sortF_any (s + 1) (s + 3) (s + 2) w2 H2.out.idx H2.out.box H2.out.rst (by omega) (by omega))
          go_wp2_with (first
            | (go_at_call 168; refine Hsort.out.mono ?_; rintro e w3 ⟨rfl, hg3⟩; have Hg3 := Lib.hid hg3; clear hg3)
            | fail)
          go_loop [88] (fun iv => iv = .int .i64 0) (fun _ => 0)
          case atStart => rfl
          case round =>
            subst hrel
            go_wp2
            go_ret2
            have hl2 := H2.out.lt
            refine ⟨by rw [Hs.out]; rfl, ?_, ?_⟩
            · rw [← Hs.out]; exact Hb2.out.grown Hg3.out (by omega) (fun q e => by injection e; omega)
            · rw [← Hs.out]; exact (Hg3.out.block s (by omega) (by simp)).trans H2.out.out
theorem awakeT_any (w : World) : Calls Tryz.prog 17 #[] w fun e w' => e = .returned (.bool true) ∧ Below w.heap.size w w' := by
  have HO : Hid (∀ A W, SlR W A 1 1 sqL → Calls Tryz.prog 59 #[.slice A 1 1] W (RegPost W (sqL, 0))) := Lib.hid (fun A W h => by have := of_any A 1 1 sqL W h; rw [sq_of] at this; exact this)
  have HR := Lib.hid (fun A c W (h : SlR W A 1 c sqL) => rings_any A 1 c sqL W h sq_len)
  have HA : Hid (∀ A c W, SlR W A 1 c sqL → Calls Tryz.prog 11 #[.agg #[.slice A 1 c]] W fun e w' => e = .returned (.int .i64 100) ∧ Below W.heap.size W w') := Lib.hid (fun A c W h => by have := area_any A 1 c sqL W h; rw [sq_area] at this; exact this)
  have Hex : Hid (∀ rs err, RgRes sqL rs err → rs = [sqR] ∧ err = 0) := Lib.hid (fun rs err h => sq_res h)
  have Hc : Hid (rCells sqL = [.int .i64 0, .int .i64 0, .int .i64 10, .int .i64 10]) := Lib.hid rfl
  have Hl : Hid (sqL.length = 1) := Lib.hid rfl
  have Hl1 : Hid (sqR.length = 4) := Lib.hid rfl
  generalize sqL = L at *
  generalize sqR = r1 at *
  go_enter Tryz.func17, Tryz.ntmps17
  go_upto_region 2 with (first
    | (go_at_call 59
       refine (HO.out (some ⟨w.heap.size, 0, none⟩) _ (SlR.lit w 68 _ L 1 _ rfl Hl.out (by omega) Hc.out)).mono ?_
       rintro e w1 ⟨v1, rfl, hown1, hb1⟩
       obtain ⟨C, cc, rfl, hC⟩ := SlR.of_own hown1
       rw [Hl.out] at hC
       have HC := Lib.hid hC
       have Hb1 : Hid (Below w.heap.size w w1) := Lib.hid (show Below w.heap.size w w1 from (by have hbq := hb1; exact gBelo))
       have hs1 := Hb1.out.size
       have hln := Hl.out
       simp only [hln]
       clear hown1 hb1 hC hln)
    | fail)
  obtain ⟨w2, hw2⟩ : ∃ w2 : World, w2 = w1.alloc (.cells #[.slice C 1 cc] 33) := ⟨_, rfl⟩
  rw [← hw2]
  have hr2 : w2.heap[w1.heap.size]? = some (.cells #[.slice C 1 cc] 33 (0, 0)) := by rw [hw2]; exact heap_alloc_new w1 _
  have c2 := cell_of_row _ _ 0 _ _ _ hr2
  have Hr2 := Lib.hid hr2
  have HC2 : Hid (SlR w2 C 1 cc L) := Lib.hid (HC.out.below (by rw [hw2]; exact (Below.refl _ _).alloc (Nat.le_refl _) _))
  have Hb2 : Hid (Below w.heap.size w w2) := Lib.hid (by rw [hw2]; exact Hb1.out.alloc hs1 _)
  have hl2 : w1.heap.size < w2.heap.size := by rw [hw2]; simp
  clear hw2 hr2 HC Hb1
  go_upto_region 3 with (first
    | (go_at_call 60
       refine (HR.out _ _ _ HC2.out).mono ?_
       rintro e w3 ⟨v, rs, err, rfl, hrg, hb3, hres⟩
       obtain ⟨hrs, rfl⟩ := Hex.out _ _ hres
       obtain ⟨RA, rc, rl, rfl, hsl, hrp⟩ := hrg.sl
       have Hrp : Hid (rgPts rl = [r1]) := Lib.hid (hrp.trans hrs)
       have hrl : rs.length = 1 := by have := congrArg List.length hrs; simpa using this
       rw [hrl] at hsl
       simp only [hrl]
       have Hsl := Lib.hid hsl
       have Hb3 : Hid (Below w2.heap.size w2 w3) := Lib.hid hb3
       have c3 := (hb3.cell (p := ⟨w1.heap.size, 0, none⟩) hl2).trans c2
       have Hr3 := Lib.hid ((hb3.block _ hl2).trans Hr2.out)
       have HC3 := Lib.hid (HC2.out.below hb3)
       have hs3 := hb3.size
       clear hrg hb3 hres hrs hsl hrp c2 hrl)
    | fail)
  have hl3 : w1.heap.size < w3.heap.size := Nat.lt_of_lt_of_le hl2 hs3
  have c3' := fun o => (World.cell?_alloc_lt w3 o ⟨w1.heap.size, 0, none⟩ hl3).trans c3
  go_upto_region 4 with (first
    | (go_at_call 11
       refine (HA.out C cc _ (HC3.out.below gBel)).mono ?_
       rintro e w4 ⟨rfl, hb4⟩
       have hg4 := (hb4.block w3.heap.size (by simp)).trans (heap_alloc_new w3 _)
       have Hg4 := Lib.hid hg4
       have Hb4 : Hid (Below w3.heap.size w3 w4) := Lib.hid (show Below w3.heap.size w3 w4 from (by have hbq := hb4; exact gBelo))
       have hs4 := Hb4.out.size
       clear hb4 hg4)
    | (go_at_call 61
       refine (amount_any w3.heap.size _ (cell_of_row _ _ 0 _ _ _ Hg4.out) (cell_of_row _ _ 1 _ _ _ Hg4.out)).mono ?_
       rintro e w5 ⟨rfl, hb5⟩
       have Hb5 : Hid (Below w3.heap.size w3 w5) := Lib.hid (Hb4.out.trans (hb5.mono hs4))
       have hs5 := Hb5.out.size
       clear hb5)
    | fail)
  clear c3' c3
  go_upto_region 5 with (first
    | (go_at_call 62
       refine (split_any _).mono ?_
       rintro e w6 ⟨⟨WA, wc, rfl⟩, hb6⟩
       have Hb6 : Hid (Below w3.heap.size w3 w6) := Lib.hid (Hb5.out.trans (hb6.mono hs5))
       have hs6 := Hb6.out.size
       clear hb6)
    | fail)
  have Hsh := Lib.hid (shares_any w6.heap.size (w6.alloc (.cells #[.int .i64 1, .int .i64 2] 3)) (heap_alloc_new w6 _))
  go_upto_region 6 with (first
    | (go_at_call 63
       refine Hsh.out.mono ?_
       rintro e w7 ⟨rfl, hb7, hr7⟩
       have Hb7 : Hid (Below w3.heap.size w3 w7) := Lib.hid (Hb6.out.trans ((show Below w6.heap.size w6 w7 from (by have hbq := hb7; exact gBelo)).mono hs6))
       have k1 : w7.cell? ⟨w6.heap.size + 1, 1, none⟩ = some (.int .i64 2) := (by have hk := cell_of_row _ _ 1 _ _ _ hr7; rw [World.size_alloc] at hk; exact hk)
       have hs7 := Hb7.out.size
       clear hb7 hr7)
    | fail)
  have Hsl7 := Lib.hid (Hsl.out.below Hb7.out)
  obtain ⟨x, hx, hxe⟩ : ∃ x, rl = [x] ∧ x.1 = r1 := by
    have h1 := Hrp.out
    match rl, h1 with
    | [x], h1 => exact ⟨x, rfl, by simpa [rgPts] using h1⟩
  obtain ⟨b, off, rfl, hbl, hcx, _⟩ := Hsl7.out.at 0 (by rw [hx]; simp)
  have hcx' : w7.cell? ⟨b, off, none⟩ = some (.slice x.2.a 4 x.2.c) := by rw [← Nat.add_zero off, hcx]; simp only [hx, List.getElem_cons_zero, hxe, Hl1.out]
  clear hcx hxe
  go_wp2
  go_ret
  exact ⟨rfl, Hb2.out.trans ((Hb3.out.trans (Hb7.out.mono hs3)).mono Hb2.out.size)⟩
end Go.Proofs.YtfmkmhhghmdakaaGreatDoor
