/- Contracts: Claimed, Rest (claim). -/
import Derived.Test.YtglanlpjoaholaaGreatY3
import Derived.Test.YtglanlpjoaholaaGreatU4
namespace Go.Proofs.YtglanlpjoaholaaGreat
open Go.RowKit Go.Shelf
set_option linter.unusedVariables false
set_option linter.unusedSimpArgs false

/-- Whether a line names a scheme. -/
def bitP (s : Int) (x : Ln) : Bool := bits BinOp.and IntKind.i64 (x.sch / 2 ^ s.toNat) 1 == 1
/-- Whether a line lies in a parcel. -/
def onP (p : Int) (x : Ln) : Bool := x.pc == p
set_option maxHeartbeats 400000 in
theorem bit_any (g : Nat) (s : Int) (x : Ln) (v : LV) (w : World) (hg : w.cell? ⟨g, 0, none⟩ = some (.int .i64 s)) (hlt : g < w.heap.size) (hs : 0 ≤ s ∧ s ≤ 15) :
    Calls Tryz.prog 40 #[.agg #[.int .i64 x.pc, .slice v.a x.rg.length v.c, .int .i64 x.cr, .int .i64 x.sch], .pointer (some ⟨g, 0, none⟩)] w fun e w' => e = .returned (.bool (bitP s x)) ∧ Below w.heap.size w w' := by
  have hs0 : ¬ s < 0 := by omega
  go_enter Tryz.func40, Tryz.ntmps40
  go_wp2
  go_ret
  exact ⟨rfl, (by repeat' (first | with_reducible exact Below.refl _ _ | with_reducible refine below_drewN ?_ _ | with_reducible refine Below.drew ?_ | with_reducible refine Below.alloc ?_ ?_ _ | with_reducible refine Below.setCell ?_ ?_ _ | with_reducible refine Below.trans ?_ (Below.mono (by with_reducible assumption) ?_) | (simp; done) | (simp; omega) | omega))⟩
set_option maxHeartbeats 400000 in
theorem on_any (g : Nat) (p : Int) (x : Ln) (v : LV) (w : World) (hg : w.cell? ⟨g, 0, none⟩ = some (.int .i64 p)) (hlt : g < w.heap.size) :
    Calls Tryz.prog 43 #[.agg #[.int .i64 x.pc, .slice v.a x.rg.length v.c, .int .i64 x.cr, .int .i64 x.sch], .pointer (some ⟨g, 0, none⟩)] w fun e w' => e = .returned (.bool (onP p x)) ∧ Below w.heap.size w w' := by
  go_enter Tryz.func43, Tryz.ntmps43
  go_wp2
  go_ret
  exact ⟨rfl, (by repeat' (first | with_reducible exact Below.refl _ _ | with_reducible refine below_drewN ?_ _ | with_reducible refine Below.drew ?_ | with_reducible refine Below.alloc ?_ ?_ _ | with_reducible refine Below.setCell ?_ ?_ _ | with_reducible refine Below.trans ?_ (Below.mono (by with_reducible assumption) ?_) | (simp; done) | (simp; omega) | omega))⟩
theorem bit_pred (g : Nat) (s : Int) (w : World) (hg : w.cell? ⟨g, 0, none⟩ = some (.int .i64 s)) (hlt : g < w.heap.size) (hs : 0 ≤ s ∧ s ≤ 15) : LinePred 40 #[.pointer (some ⟨g, 0, none⟩)] (bitP s) w :=
  fun W x v hW => bit_any g s x v W ((hW.cell (p := ⟨g, 0, none⟩) hlt).trans hg) (Nat.lt_of_lt_of_le hlt hW.size) hs
theorem on_pred (g : Nat) (p : Int) (w : World) (hg : w.cell? ⟨g, 0, none⟩ = some (.int .i64 p)) (hlt : g < w.heap.size) : LinePred 43 #[.pointer (some ⟨g, 0, none⟩)] (onP p) w :=
  fun W x v hW => on_any g p x v W ((hW.cell (p := ⟨g, 0, none⟩) hlt).trans hg) (Nat.lt_of_lt_of_le hlt hW.size)
set_option maxHeartbeats 400000 in
theorem notC_fn (w : World) : BoolFn 46 #[] notB w := by
  intro W x y hW
  refine Calls.mono (show Calls Tryz.prog 46 #[.bool x, .bool y] W fun e w' => e = .returned (.bool (notB x y)) ∧ Below W.heap.size W w' from ?_) (fun e w' h => h)
  cases x <;> cases y <;> (go_enter Tryz.func46, Tryz.ntmps46; go_wp2; go_ret; exact ⟨rfl, (by repeat' (first | with_reducible exact Below.refl _ _ | with_reducible refine below_drewN ?_ _ | with_reducible refine Below.drew ?_ | with_reducible refine Below.alloc ?_ ?_ _ | with_reducible refine Below.setCell ?_ ?_ _ | with_reducible refine Below.trans ?_ (Below.mono (by with_reducible assumption) ?_) | (simp; done) | (simp; omega) | omega))⟩)

/-- Whether the squares of all lines are regions. -/
def validL (L : List Ln) : Bool := L.all fun x => validP x.rg
theorem validL_regs (l : LL) : (regsOf l).all (fun x => validP x.1) = validL (lns l) := by
  unfold regsOf validL lns
  rw [List.all_map, List.all_map]
  rfl
theorem validL_at {L : List Ln} (h : validL L = true) {x : Ln} (hx : x ∈ L) : validP x.rg = true := List.all_eq_true.1 h x hx
theorem rectsP_pos {L : List Ln} (h : validL L = true) (p : Ln → Bool) : ∀ q ∈ rectsP p L, q.l < q.r := by
  intro q hq
  obtain ⟨x, hx, hq⟩ := List.mem_flatMap.1 hq
  exact ok_pos (valid_parts (validL_at h ((List.mem_filter.1 hx).1))).2.1 q hq
/-- What is claimed under a scheme, or the error. -/
def claimedP (L : List Ln) (s : Int) : List R4 × Int := if 20 < L.length then ([], 1) else if s < 0 ∨ 15 < s then ([], 2) else if validL L then limP (canonP (rectsP (bitP s) L)) else ([], 7)
/-- What no line of a parcel claims, or the error. -/
def restCP (L : List Ln) (p : Int) (r : List R4) : List R4 × Int := if 20 < L.length then ([], 1) else if validL L && validP r then limP (chooseP notB r (rectsP (onP p) L)) else ([], 7)

set_option maxHeartbeats 4000000 in
set_option maxRecDepth 100000 in
theorem claimed_any (A : Option Addr) (n c : Nat) (l : LL) (s : Int) (w : World) (hL : SlL w A n c l) (htot : (rectsP (bitP s) (lns l)).length ≤ 1500) :
    Calls Tryz.prog 12 #[.slice A n c, .int .i64 s] w (RegPost w (claimedP (lns l) s)) := by
  have hx := hL.len
  have Hln : Hid ((lns l).length = n) := Lib.hid (by rw [lns_len]; exact hx)
  have HL := Lib.hid hL
  have Htot := Lib.hid htot
  have Hres : Hid (claimedP (lns l) s = if 20 < (lns l).length then ([], 1) else if s < 0 ∨ 15 < s then ([], 2) else if validL (lns l) then limP (canonP (rectsP (bitP s) (lns l))) else ([], 7)) := Lib.hid rfl
  rw [Hln.out] at Hres
  generalize claimedP (lns l) s = res at *
  clear hL htot
  go_enter Tryz.func12, Tryz.ntmps12
  go_upto_region 1 with fail
  obtain ⟨wa, hwa⟩ : ∃ wa : World, wa = (w.alloc (.cells #[.int .i64 s] 3)).alloc (.cells #[.slice none 0 0] 33) := ⟨_, rfl⟩
  rw [← hwa]
  have HG : Hid (wa.heap[w.heap.size]? = some (.cells #[.int .i64 s] 3 (0, 0))) := Lib.hid (by rw [hwa]; exact (Below.heap_alloc _ _ _ (by simp)).trans (heap_alloc_new w _))
  obtain ⟨T, hT⟩ : ∃ T, w.heap.size + 1 = T := ⟨_, rfl⟩
  have HT : Hid (wa.heap[T]? = some (.cells #[.slice none 0 0] 33 (0, 0))) := Lib.hid (by rw [hwa, ← hT]; have hzz := heap_alloc_new (w.alloc (.cells #[.int .i64 s] 3)) (.cells #[.slice none 0 0] 33); simpa using hzz)
  have Hba : Hid (Below w.heap.size w wa) := Lib.hid (by rw [hwa]; exact (by repeat' (first | with_reducible exact Below.refl _ _ | with_reducible refine below_drewN ?_ _ | with_reducible refine Below.drew ?_ | with_reducible refine Below.alloc ?_ ?_ _ | with_reducible refine Below.setCell ?_ ?_ _ | with_reducible refine Below.trans ?_ (Below.mono (by with_reducible assumption) ?_) | (simp; done) | (simp; omega) | omega)))
  have hlT : T < wa.heap.size := by rw [hwa, ← hT]; simp
  have hGT : w.heap.size < T := by omega
  have hlG : w.heap.size < wa.heap.size := by omega
  rw [hT]
  clear hwa hT
  have HLa := Lib.hid (HL.out.below Hba.out)
  have g0 := cell_of_row wa w.heap.size 0 _ _ _ HG.out
  by_cases h1 : 20 < n
  · have h1' : (20 : Int) < (n : Int) := by omega
    have He : Hid (res = ([], 1)) := Lib.hid (by rw [Hres.out, if_pos h1])
    clear Hres
    have hr := HT.out
    have cr := cell_of_row wa T 0 _ _ _ hr
    have fr := frozen_of_row wa T 0 _ _ hr
    have cs : (wa.setCell ⟨T, 0, none⟩ (.slice none 0 0)).cell? ⟨T, 0, none⟩ = some (.slice none 0 0) := by
      rw [cell_of_row _ T 0 _ _ _ (heap_setCell_same wa T 0 _ _ _ hr)]
      simp
    go_wp2
    refine bodyPost_ret (v := .tuple #[.agg #[.slice none 0 0], .int .i64 1]) (by simp [results, Tryz.results12, go_sem, *]) rfl ?_
    rw [He.out]
    exact ⟨_, rfl, World.ownsRow_nil _ _ _ _, Hba.out.setCell (Nat.le_of_lt hGT) _⟩
  have h1' : ¬ (20 : Int) < (n : Int) := by omega
  rw [if_neg h1] at Hres
  by_cases h2 : s < 0
  · have He : Hid (res = ([], 2)) := Lib.hid (by rw [Hres.out, if_pos (.inl h2)])
    clear Hres
    have h2d : decide (s < 0) = true := decide_eq_true h2
    have hr := HT.out
    have cr := cell_of_row wa T 0 _ _ _ hr
    have fr := frozen_of_row wa T 0 _ _ hr
    have cs : (wa.setCell ⟨T, 0, none⟩ (.slice none 0 0)).cell? ⟨T, 0, none⟩ = some (.slice none 0 0) := by
      rw [cell_of_row _ T 0 _ _ _ (heap_setCell_same wa T 0 _ _ _ hr)]
      simp
    go_wp2
    refine bodyPost_ret (v := .tuple #[.agg #[.slice none 0 0], .int .i64 2]) (by simp [results, Tryz.results12, go_sem, *]) rfl ?_
    rw [He.out]
    exact ⟨_, rfl, World.ownsRow_nil _ _ _ _, Hba.out.setCell (Nat.le_of_lt hGT) _⟩
  have h2d : decide (s < 0) = false := decide_eq_false h2
  by_cases h3 : 15 < s
  · have He : Hid (res = ([], 2)) := Lib.hid (by rw [Hres.out, if_pos (.inr h3)])
    clear Hres
    have h3d : decide (15 < s) = true := decide_eq_true h3
    have hr := HT.out
    have cr := cell_of_row wa T 0 _ _ _ hr
    have fr := frozen_of_row wa T 0 _ _ hr
    have cs : (wa.setCell ⟨T, 0, none⟩ (.slice none 0 0)).cell? ⟨T, 0, none⟩ = some (.slice none 0 0) := by
      rw [cell_of_row _ T 0 _ _ _ (heap_setCell_same wa T 0 _ _ _ hr)]
      simp
    go_wp2
    refine bodyPost_ret (v := .tuple #[.agg #[.slice none 0 0], .int .i64 2]) (by simp [results, Tryz.results12, go_sem, *]) rfl ?_
    rw [He.out]
    exact ⟨_, rfl, World.ownsRow_nil _ _ _ _, Hba.out.setCell (Nat.le_of_lt hGT) _⟩
  have h3d : decide (15 < s) = false := decide_eq_false h3
  have Hs : Hid (0 ≤ s ∧ s ≤ 15) := Lib.hid (by omega)
  rw [if_neg (by omega)] at Hres
  have HRg := Lib.hid (regionsC_any wa wa (Below.refl _ _) (.slice none 0 0) [] (World.ownsRow_nil _ _ _ _) (fun x hx => by cases hx) A n c l HLa.out (by omega) (by simp))
  rw [List.nil_append, validL_regs] at HRg
  cases hv : validL (lns l) with
  | false =>
    rw [hv] at HRg Hres
    have He : Hid (res = ([], 7)) := Lib.hid (by rw [Hres.out]; rfl)
    clear hv Hres
    go_wp2_with (first
      | (go_at_call 37
         refine HRg.out.mono ?_
         rintro e w1 ⟨rfl, hb1⟩
         have hr := (hb1.block T hlT).trans HT.out
         have cr := cell_of_row w1 T 0 _ _ _ hr
         have fr := frozen_of_row w1 T 0 _ _ hr
         have cs : (w1.setCell ⟨T, 0, none⟩ (.slice none 0 0)).cell? ⟨T, 0, none⟩ = some (.slice none 0 0) := by
           rw [cell_of_row _ T 0 _ _ _ (heap_setCell_same w1 T 0 _ _ _ hr)]
           simp
         have Hb1 := Lib.hid (Hba.out.trans (hb1.mono (Nat.le_of_lt hlG)))
         clear hb1 hr)
      | fail)
    refine bodyPost_ret (v := .tuple #[.agg #[.slice none 0 0], .int .i64 7]) (by simp [results, Tryz.results12, go_sem, *]) rfl ?_
    rw [He.out]
    exact ⟨_, rfl, World.ownsRow_nil _ _ _ _, Hb1.out.setCell (Nat.le_of_lt hGT) _⟩
  | true =>
    rw [hv] at HRg Hres
    simp only [if_true] at HRg Hres
    have HK := Lib.hid (rectsP_pos hv (bitP s))
    have Hr1 : Hid (∀ x ∈ l, x.1.rg.length ≤ 1000) := Lib.hid (fun x hx => by have := (valid_parts (validL_at hv (List.mem_map_of_mem hx : x.1 ∈ lns l))).1; omega)
    clear hv
    have hn25 : n ≤ 25 := by omega
    obtain ⟨rc, hrc⟩ : ∃ rc, rectsP (bitP s) (lns l) = rc := ⟨_, rfl⟩
    have Hrc := Lib.hid hrc
    rw [hrc] at Hres HK Htot
    clear hrc
    obtain ⟨jo, hjo⟩ : ∃ jo, limP (canonP rc) = jo := ⟨_, rfl⟩
    rw [hjo] at Hres
    have Hjo := Lib.hid hjo
    have He : Hid (res = jo) := Lib.hid Hres.out
    clear hjo Hres
    go_wp2_with (first
      | (go_at_call 37
         refine HRg.out.mono ?_
         rintro e w1 ⟨rfl, hb1⟩
         have Hb1a := Lib.hid hb1
         have Hb1 := Lib.hid (Hba.out.trans (hb1.mono (Nat.le_of_lt hlG)))
         have hs1 := hb1.size
         have g1 := (hb1.cell (p := ⟨w.heap.size, 0, none⟩) hlG).trans g0
         clear hb1)
      | (go_at_call 39
         have hRc := rects_any' 40 #[.pointer (some ⟨w.heap.size, 0, none⟩)] (bitP s) A n c l _ (HLa.out.below Hb1a.out) hn25 Hr1.out (enters_of Tryz.func40 (by kernel_rfl) rfl) (bit_pred w.heap.size s _ g1 (by omega) Hs.out)
         refine hRc.mono ?_
         clear hRc
         rintro e w2 ⟨v2, rfl, hown2, hb2⟩
         rw [Hrc.out] at hown2
         obtain ⟨C, cc, rfl, hC⟩ := SlR.of_own hown2
         have HC2 := Lib.hid hC
         have Hb2 := Lib.hid (Hb1a.out.trans (hb2.mono hs1))
         have hs2 : wa.heap.size ≤ w2.heap.size := Hb2.out.size
         clear hown2 hb2 hC)
      | (go_at_call 38
         refine (joined_any C rc.length cc rc _ HC2.out Htot.out HK.out).mono ?_
         rintro e w3 ⟨v3, rfl, hown3, hb3⟩
         rw [Hjo.out] at hown3 ⊢
         obtain ⟨D, dc, rfl, -⟩ := SlR.of_own hown3
         have Hown3 := Lib.hid hown3
         have Hb3 := Lib.hid (Hb2.out.trans (hb3.mono hs2))
         have hr := (Hb3.out.block T hlT).trans HT.out
         have cr := cell_of_row w3 T 0 _ _ _ hr
         have fr := frozen_of_row w3 T 0 _ _ hr
         have cs : (w3.setCell ⟨T, 0, none⟩ (.slice D jo.1.length dc)).cell? ⟨T, 0, none⟩ = some (.slice D jo.1.length dc) := by
           rw [cell_of_row _ T 0 _ _ _ (heap_setCell_same w3 T 0 _ _ _ hr)]
           simp
         clear hown3 hb3 hr)
      | fail)
    refine bodyPost_ret (v := .tuple #[.agg #[.slice D jo.1.length dc], .int .i64 jo.2]) (by simp [results, Tryz.results12, go_sem, *]) rfl ?_
    have hlow := own_base Hown3.out
    rw [He.out]
    refine ⟨_, rfl, ?_, (Hba.out.trans (Hb3.out.mono (Nat.le_of_lt hlG))).setCell (Nat.le_of_lt hGT) _⟩
    exact own_other (own_rebase Hown3.out (by omega)) (only_setCell (g := T) (World.grownBy.refl _ _) (.inl rfl) _) (fun k hk e => by injection e with e; have := hlow k hk; omega)

set_option maxHeartbeats 4000000 in
set_option maxRecDepth 100000 in
theorem restC_any (A : Option Addr) (n c : Nat) (l : LL) (p : Int) (B : Option Addr) (m d : Nat) (r : List R4) (w : World) (hL : SlL w A n c l) (hB : SlR w B m d r) (htot : (rectsP (onP p) (lns l)).length ≤ 750) :
    Calls Tryz.prog 17 #[.slice A n c, .int .i64 p, .agg #[.slice B m d]] w (RegPost w (restCP (lns l) p r)) := by
  have hx := hL.len
  have hxb := hB.len
  have Hln : Hid ((lns l).length = n) := Lib.hid (by rw [lns_len]; exact hx)
  have HL := Lib.hid hL
  have HB := Lib.hid hB
  have Htot := Lib.hid htot
  have Hres : Hid (restCP (lns l) p r = if 20 < (lns l).length then ([], 1) else if validL (lns l) && validP r then limP (chooseP notB r (rectsP (onP p) (lns l))) else ([], 7)) := Lib.hid rfl
  rw [Hln.out] at Hres
  generalize restCP (lns l) p r = res at *
  clear hL hB htot
  go_enter Tryz.func17, Tryz.ntmps17
  go_upto_region 1 with fail
  obtain ⟨wa, hwa⟩ : ∃ wa : World, wa = ((w.alloc (.cells #[.int .i64 p] 3)).alloc (.cells #[.slice B m d] 33)).alloc (.cells #[.slice none 0 0] 33) := ⟨_, rfl⟩
  rw [← hwa]
  have HG : Hid (wa.heap[w.heap.size]? = some (.cells #[.int .i64 p] 3 (0, 0))) := Lib.hid (by rw [hwa]; exact (Below.heap_alloc _ _ _ (by simp; omega)).trans ((Below.heap_alloc _ _ _ (by simp)).trans (heap_alloc_new w _)))
  have HE : Hid (wa.heap[w.heap.size + 1]? = some (.cells #[.slice B m d] 33 (0, 0))) := Lib.hid (by rw [hwa]; have hzz := heap_alloc_new (w.alloc (.cells #[.int .i64 p] 3)) (.cells #[.slice B m d] 33); rw [World.size_alloc] at hzz; exact (Below.heap_alloc _ _ _ (by simp)).trans hzz)
  have HT : Hid (wa.heap[w.heap.size + 1 + 1]? = some (.cells #[.slice none 0 0] 33 (0, 0))) := Lib.hid (by rw [hwa]; have hzz := heap_alloc_new ((w.alloc (.cells #[.int .i64 p] 3)).alloc (.cells #[.slice B m d] 33)) (.cells #[.slice none 0 0] 33); rw [World.size_alloc, World.size_alloc] at hzz; exact hzz)
  have Hba : Hid (Below w.heap.size w wa) := Lib.hid (by rw [hwa]; exact (by repeat' (first | with_reducible exact Below.refl _ _ | with_reducible refine below_drewN ?_ _ | with_reducible refine Below.drew ?_ | with_reducible refine Below.alloc ?_ ?_ _ | with_reducible refine Below.setCell ?_ ?_ _ | with_reducible refine Below.trans ?_ (Below.mono (by with_reducible assumption) ?_) | (simp; done) | (simp; omega) | omega)))
  have hlT : w.heap.size + 1 + 1 < wa.heap.size := by rw [hwa]; simp
  have HLa := Lib.hid (HL.out.below Hba.out)
  have HBa := Lib.hid (HB.out.below Hba.out)
  clear hwa
  obtain ⟨T, hT⟩ : ∃ T, w.heap.size + 1 + 1 = T := ⟨_, rfl⟩
  rw [hT] at HT hlT ⊢
  obtain ⟨E, hE⟩ : ∃ E, w.heap.size + 1 = E := ⟨_, rfl⟩
  rw [hE] at HE hT ⊢
  obtain ⟨G, hG⟩ : ∃ G, w.heap.size = G := ⟨_, rfl⟩
  rw [hG] at HG hE Hba ⊢
  have hGE : G < E := by omega
  have hET : E < T := by omega
  have HGe : Hid (w.heap.size = G) := Lib.hid hG
  clear hT hE hG
  have g0 := cell_of_row wa G 0 _ _ _ HG.out
  have e0 := cell_of_row wa E 0 _ _ _ HE.out
  by_cases h1 : 20 < n
  · have h1' : (20 : Int) < (n : Int) := by omega
    have He : Hid (res = ([], 1)) := Lib.hid (by rw [Hres.out, if_pos h1])
    clear Hres
    have hr := HT.out
    have cr := cell_of_row wa T 0 _ _ _ hr
    have fr := frozen_of_row wa T 0 _ _ hr
    have cs : (wa.setCell ⟨T, 0, none⟩ (.slice none 0 0)).cell? ⟨T, 0, none⟩ = some (.slice none 0 0) := by
      rw [cell_of_row _ T 0 _ _ _ (heap_setCell_same wa T 0 _ _ _ hr)]
      simp
    go_wp2
    refine bodyPost_ret (v := .tuple #[.agg #[.slice none 0 0], .int .i64 1]) (by simp [results, Tryz.results17, go_sem, *]) rfl ?_
    rw [He.out]
    exact ⟨_, rfl, World.ownsRow_nil _ _ _ _, by rw [HGe.out]; exact Hba.out.setCell (by show G ≤ T; omega) _⟩
  have h1' : ¬ (20 : Int) < (n : Int) := by omega
  rw [if_neg h1] at Hres
  have HRg := Lib.hid (regionsC_any wa (wa.alloc (.cells #[.slice B m d] 33)) ((Below.refl _ _).alloc (Nat.le_refl _) _) (.slice (some ⟨wa.heap.size, 0, none⟩) 1 1) [(r, ⟨B, d⟩)] (own_lit wa _ 1 1 _ _ (by simp [rgCells, rgC, hxb]) rfl (by unfold maxLen; omega)) (fun x hx => by rw [List.mem_singleton] at hx; subst hx; dsimp only; rw [hxb]; exact HBa.out) A n c l HLa.out (by omega) (by simp))
  rw [List.all_append, validL_regs, List.all_cons, List.all_nil, Bool.and_true, Bool.and_comm] at HRg
  dsimp only at HRg
  cases hv : validL (lns l) && validP r with
  | false =>
    rw [hv] at HRg Hres
    have He : Hid (res = ([], 7)) := Lib.hid (by rw [Hres.out]; rfl)
    clear hv Hres
    go_wp2_with (first
      | (go_at_call 37
         refine HRg.out.mono ?_
         rintro e w1 ⟨rfl, hb1⟩
         have hr := (hb1.block T hlT).trans HT.out
         have cr := cell_of_row w1 T 0 _ _ _ hr
         have fr := frozen_of_row w1 T 0 _ _ hr
         have cs : (w1.setCell ⟨T, 0, none⟩ (.slice none 0 0)).cell? ⟨T, 0, none⟩ = some (.slice none 0 0) := by
           rw [cell_of_row _ T 0 _ _ _ (heap_setCell_same w1 T 0 _ _ _ hr)]
           simp
         have Hb1 := Lib.hid (Hba.out.trans (hb1.mono (by omega)))
         clear hb1 hr)
      | fail)
    refine bodyPost_ret (v := .tuple #[.agg #[.slice none 0 0], .int .i64 7]) (by simp [results, Tryz.results17, go_sem, *]) rfl ?_
    rw [He.out]
    exact ⟨_, rfl, World.ownsRow_nil _ _ _ _, by rw [HGe.out]; exact Hb1.out.setCell (by show G ≤ T; omega) _⟩
  | true =>
    rw [hv] at HRg Hres
    rw [Bool.and_eq_true] at hv
    simp only [if_true] at HRg Hres
    have HK := Lib.hid (rectsP_pos hv.1 (onP p))
    have HKr := Lib.hid (ok_pos (valid_parts hv.2).2.1)
    have hm1 : m ≤ 120 := by have := (valid_parts hv.2).1; omega
    have Hr1 : Hid (∀ x ∈ l, x.1.rg.length ≤ 1000) := Lib.hid (fun x hx => by have := (valid_parts (validL_at hv.1 (List.mem_map_of_mem hx : x.1 ∈ lns l))).1; omega)
    clear hv
    have hn25 : n ≤ 25 := by omega
    obtain ⟨rc, hrc⟩ : ∃ rc, rectsP (onP p) (lns l) = rc := ⟨_, rfl⟩
    have Hrc := Lib.hid hrc
    rw [hrc] at Hres HK Htot
    clear hrc
    obtain ⟨jo, hjo⟩ : ∃ jo, chooseP notB r rc = jo := ⟨_, rfl⟩
    rw [hjo] at Hres
    have Hjo := Lib.hid hjo
    clear hjo
    by_cases hbg : 120 < jo.length
    · have He : Hid (res = ([], 1)) := Lib.hid (by rw [Hres.out]; unfold limP; rw [if_pos hbg])
      clear Hres
      go_wp2_with (first
        | (go_at_call 37
           refine HRg.out.mono ?_
           rintro e w1 ⟨rfl, hb1⟩
           have Hb1a := Lib.hid hb1
           have hs1 := hb1.size
           have g1 := (hb1.cell (p := ⟨G, 0, none⟩) (by show G < _; omega)).trans g0
           clear hb1)
        | (go_at_call 39
           have hRc := rects_any' 43 #[.pointer (some ⟨G, 0, none⟩)] (onP p) A n c l _ (HLa.out.below Hb1a.out) hn25 Hr1.out (enters_of Tryz.func43 (by kernel_rfl) rfl) (on_pred G p _ g1 (by omega))
           refine hRc.mono ?_
           clear hRc
           rintro e w2 ⟨v2, rfl, hown2, hb2⟩
           rw [Hrc.out] at hown2
           obtain ⟨C, cc, rfl, hC⟩ := SlR.of_own hown2
           have HC2 := Lib.hid hC
           have Hb2 := Lib.hid (Hb1a.out.trans (hb2.mono hs1))
           have hs2 : wa.heap.size ≤ w2.heap.size := Hb2.out.size
           have e2 := (Hb2.out.cell (p := ⟨E, 0, none⟩) (by show E < _; omega)).trans e0
           clear hown2 hb2 hC)
        | (go_at_call 45
           have hCh := choose_any B C m d rc.length cc 46 #[] notB r rc _ (HBa.out.below Hb2.out) HC2.out (by omega) Htot.out HKr.out HK.out (enters_of Tryz.func46 (by kernel_rfl) rfl) (notC_fn _)
           refine hCh.mono ?_
           clear hCh
           rintro e w3 ⟨v3, rfl, hown3, hb3⟩
           rw [Hjo.out] at hown3
           obtain ⟨D, dc, rfl, -⟩ := SlR.of_own hown3
           have Hown3 := Lib.hid hown3
           have Hb3 := Lib.hid (Hb2.out.trans (hb3.mono hs2))
           have hs3 : wa.heap.size ≤ w3.heap.size := Hb3.out.size
           clear hown3 hb3)
        | (go_at_call 44
           refine (limited_big D jo.length dc _ hbg).mono ?_
           rintro e w4 ⟨rfl, hb4⟩
           have Hb4 := Lib.hid (Hb3.out.trans (hb4.mono hs3))
           have hr := (Hb4.out.block T hlT).trans HT.out
           have Hown4 := Lib.hid (ownsRow_below Hown3.out hb4)
           have cr := cell_of_row w4 T 0 _ _ _ hr
           have fr := frozen_of_row w4 T 0 _ _ hr
           have cs : (w4.setCell ⟨T, 0, none⟩ (.slice none 0 0)).cell? ⟨T, 0, none⟩ = some (.slice none 0 0) := by
             rw [cell_of_row _ T 0 _ _ _ (heap_setCell_same w4 T 0 _ _ _ hr)]
             simp
           clear hb4 hr)
        | fail)
      refine bodyPost_ret (v := .tuple #[.agg #[.slice none 0 0], .int .i64 1]) (by simp [results, Tryz.results17, go_sem, *]) rfl ?_
      rw [He.out]
      exact ⟨_, rfl, World.ownsRow_nil _ _ _ _, by rw [HGe.out]; exact (Hba.out.trans (Hb4.out.mono (by omega))).setCell (by show G ≤ T; omega) _⟩
    · have He : Hid (res = (jo, 0)) := Lib.hid (by rw [Hres.out]; unfold limP; rw [if_neg hbg])
      have hbg' : jo.length ≤ 120 := by omega
      clear Hres
      go_wp2_with (first
        | (go_at_call 37
           refine HRg.out.mono ?_
           rintro e w1 ⟨rfl, hb1⟩
           have Hb1a := Lib.hid hb1
           have hs1 := hb1.size
           have g1 := (hb1.cell (p := ⟨G, 0, none⟩) (by show G < _; omega)).trans g0
           clear hb1)
        | (go_at_call 39
           have hRc := rects_any' 43 #[.pointer (some ⟨G, 0, none⟩)] (onP p) A n c l _ (HLa.out.below Hb1a.out) hn25 Hr1.out (enters_of Tryz.func43 (by kernel_rfl) rfl) (on_pred G p _ g1 (by omega))
           refine hRc.mono ?_
           clear hRc
           rintro e w2 ⟨v2, rfl, hown2, hb2⟩
           rw [Hrc.out] at hown2
           obtain ⟨C, cc, rfl, hC⟩ := SlR.of_own hown2
           have HC2 := Lib.hid hC
           have Hb2 := Lib.hid (Hb1a.out.trans (hb2.mono hs1))
           have hs2 : wa.heap.size ≤ w2.heap.size := Hb2.out.size
           have e2 := (Hb2.out.cell (p := ⟨E, 0, none⟩) (by show E < _; omega)).trans e0
           clear hown2 hb2 hC)
        | (go_at_call 45
           have hCh := choose_any B C m d rc.length cc 46 #[] notB r rc _ (HBa.out.below Hb2.out) HC2.out (by omega) Htot.out HKr.out HK.out (enters_of Tryz.func46 (by kernel_rfl) rfl) (notC_fn _)
           refine hCh.mono ?_
           clear hCh
           rintro e w3 ⟨v3, rfl, hown3, hb3⟩
           rw [Hjo.out] at hown3
           obtain ⟨D, dc, rfl, -⟩ := SlR.of_own hown3
           have Hown3 := Lib.hid hown3
           have Hb3 := Lib.hid (Hb2.out.trans (hb3.mono hs2))
           have hs3 : wa.heap.size ≤ w3.heap.size := Hb3.out.size
           clear hown3 hb3)
        | (go_at_call 44
           refine (limited_ok D jo.length dc _ hbg').mono ?_
           rintro e w4 ⟨rfl, hb4⟩
           have Hb4 := Lib.hid (Hb3.out.trans (hb4.mono hs3))
           have hr := (Hb4.out.block T hlT).trans HT.out
           have Hown4 := Lib.hid (ownsRow_below Hown3.out hb4)
           have cr := cell_of_row w4 T 0 _ _ _ hr
           have fr := frozen_of_row w4 T 0 _ _ hr
           have cs : (w4.setCell ⟨T, 0, none⟩ (.slice D jo.length dc)).cell? ⟨T, 0, none⟩ = some (.slice D jo.length dc) := by
             rw [cell_of_row _ T 0 _ _ _ (heap_setCell_same w4 T 0 _ _ _ hr)]
             simp
           clear hb4 hr)
        | fail)
      refine bodyPost_ret (v := .tuple #[.agg #[.slice D jo.length dc], .int .i64 0]) (by simp [results, Tryz.results17, go_sem, *]) rfl ?_
      have hlow := own_base Hown4.out
      rw [He.out]
      refine ⟨_, rfl, ?_, by rw [HGe.out]; exact (Hba.out.trans (Hb4.out.mono (by omega))).setCell (by show G ≤ T; omega) _⟩
      rw [HGe.out]
      exact own_other (own_rebase Hown4.out (by omega)) (only_setCell (g := T) (World.grownBy.refl _ _) (.inl rfl) _) (fun k hk e => by injection e with e; have := hlow k hk; omega)
end Go.Proofs.YtglanlpjoaholaaGreat
