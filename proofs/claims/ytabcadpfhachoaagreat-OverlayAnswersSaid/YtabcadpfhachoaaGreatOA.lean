/- Contract: Faces (overlay). -/
import Derived.Test.YtabcadpfhachoaaGreatO8
import Derived.Test.YtabcadpfhachoaaGreatO9
import Derived.Test.YtabcadpfhachoaaGreatYR
namespace Go.Proofs.YtabcadpfhachoaaGreat
open Go.RowKit Go.Shelf Go.Maps
set_option linter.unusedVariables false
set_option linter.unusedSimpArgs false
attribute [local go_sem] Oper.semAt_some

/-- What Faces leaves. -/
def FcPost (w : World) (x : List Fc × Int) (e : Ending) (w' : World) : Prop :=
  ∃ (l : FL) (v : Value), e = .returned (.tuple #[v, .int .i64 x.2]) ∧ FsOwn w' w.heap.size v l ∧ fcs l = x.1 ∧ Below w.heap.size w w'

set_option maxHeartbeats 1000000 in
theorem faces_many (A : Option Addr) (n c : Nat) (l : RL) (w : World) (hA : SlG w A n c l) (hn : 12 < n) : Calls Tryz.prog 8 #[.slice A n c] w (FcPost w (facesP (rgs l))) := by
  have e : facesP (rgs l) = ([], 1) := by unfold facesP; rw [if_pos (by rw [rgs_len, hA.len]; exact hn)]
  rw [e]
  clear e hA
  have hn' : (12 : Int) < (n : Int) := by omega
  go_enter Tryz.func8, Tryz.ntmps8
  go_wp2
  go_ret2
  exact ⟨[], _, rfl, FsOwn.nil _ _, rfl, Below.refl _ _⟩
set_option maxHeartbeats 1000000 in
theorem faces_bad (A : Option Addr) (n c : Nat) (l : RL) (w : World) (hA : SlG w A n c l) (hn : n ≤ 12) (hv : (rgs l).all validP = false) : Calls Tryz.prog 8 #[.slice A n c] w (FcPost w (facesP (rgs l))) := by
  have e : facesP (rgs l) = ([], 7) := by unfold facesP; rw [if_neg (by rw [rgs_len, hA.len]; omega), if_neg (by rw [hv]; simp)]
  rw [e]
  have hn' : ¬ (12 : Int) < (n : Int) := by omega
  have hany : (l.any fun x => !validP x.1) = true := by
    rw [any_not_all]
    have : (l.all fun x => validP x.1) = (rgs l).all validP := by simp [rgs, List.all_map]; rfl
    rw [this, hv]
    rfl
  have Hany := Lib.hid hany
  have HA := Lib.hid hA
  have eg : ∀ args w, (callFunc 26 args).run Tryz.prog w = .ok (.enter 26 args) w := enters_of Tryz.func26 (by kernel_rfl) rfl
  have Eg := Lib.hid eg
  clear e hA hany hv eg
  go_enter Tryz.func8, Tryz.ntmps8
  go_wp2_with (first
    | (go_at_call 25
       refine (containsG_any (fun x => !validP x.1) 26 #[] Eg.out A n c l _ HA.out (validF _)).mono ?_
       rintro e w1 ⟨rfl, hb1⟩
       rw [Hany.out])
    | fail)
  go_ret2
  exact ⟨[], _, rfl, FsOwn.nil _ _, rfl, hb1⟩

theorem PcAt.rebase {W : World} {n₀ n₁ bc bl bL : Nat} {A : Option Addr} {n c : Nat} {l : RL} (h : PcAt W n₀ bc bl bL A n c l) (hb : n₁ ≤ n₀) : PcAt W n₁ bc bl bL A n c l := by
  obtain ⟨v, h1, h2⟩ := h.lists
  obtain ⟨u, h3, h4⟩ := h.cuts
  exact ⟨h.lt, h.regs, h.len, ⟨v, h1, own_rebase h2 hb⟩, u, h3, own_rebase h4 hb⟩
theorem lawIntO : Keyed Tryz.prog 3 := int_keyed Tryz.underlying3
theorem zeroRects : ∀ u : World, (zeroValue 32).run Tryz.prog u = .ok (.slice none 0 0) u := Tryz.zeroValue32
theorem pieces_cut {m : List (List R4)} : ∀ p ∈ piecesP m, p.2.b ∈ cutsP m.flatten ∧ p.2.t ∈ cutsP m.flatten := by
  intro p hp
  obtain ⟨i, hi, hp⟩ := List.mem_flatMap.1 hp
  obtain ⟨k, hk, hp⟩ := List.mem_flatMap.1 hp
  rw [List.mem_range] at hi hk
  unfold onePc at hp
  split at hp
  · simp at hp
  · rw [List.mem_singleton] at hp
    subst hp
    exact ⟨getD_mem (by omega), getD_mem (by omega)⟩
theorem ofPc_cuts {m : List (List R4)} (h : m.flatten.length ≤ 45) (s : Nat) : (cutsP (ofPc (piecesP m) s)).length ≤ 90 := by
  have hC : (cutsP m.flatten).length ≤ 90 := by
    have h1 := (asc_all (yEdges m.flatten)).2.2
    rw [yEdges_len] at h1
    unfold cutsP
    omega
  refine Nat.le_trans (more_law.sub_lenO (s := 0) _ (cutsP m.flatten) (asc_all _).1 (fun e he => ?_)) hC
  have he' := ((asc_all _).2.1 e).1 he
  unfold yEdges at he'
  obtain ⟨q, hq, he'⟩ := List.mem_flatMap.1 he'
  unfold ofPc at hq
  obtain ⟨p, hp, rfl⟩ := List.mem_map.1 hq
  have hc := pieces_cut p (List.mem_filter.1 hp).1
  simp only [List.mem_cons, List.not_mem_nil, or_false] at he'
  rcases he' with rfl | rfl
  · exact hc.1
  · exact hc.2
theorem ofPc_len (l : List (Nat × R4)) (s : Nat) : (ofPc l s).length ≤ l.length := by
  unfold ofPc
  rw [List.length_map]
  exact List.length_filter_le _ _
theorem Tryz.sortsF (m : Nat) : AnyZI.SortsIn Tryz.prog Tryz.sortedA_ren Fence.wide m :=
  ⟨fun blk off cap ss W hH hblk hsz => callsIn_wide.2 (AnyM.slices_Sort_int Tryz.laySort blk off cap ss W hH hblk hsz),
   fun p cap W => callsIn_wide.2 (AnyM.slices_Sort_int_none Tryz.laySort p cap W)⟩
theorem facesP_big {m : List (List R4)} (h1 : ¬ 12 < m.length) (h2 : m.all validP = true) : facesP m = if (keysPc (piecesP m)).any (bigF m) then ([], 1) else ((keysPc (piecesP m)).map (faceOf m), 0) := by
  unfold facesP
  rw [if_neg h1, if_pos h2]
set_option maxHeartbeats 16000000 in
set_option maxRecDepth 100000 in
theorem faces_good (A : Option Addr) (n c : Nat) (l : RL) (w : World) (hA : SlG w A n c l) (hn : n ≤ 12) (hv : (rgs l).all validP = true) (hs : (rgs l).flatten.length ≤ 45) : Calls Tryz.prog 8 #[.slice A n c] w (FcPost w (facesP (rgs l))) := by
  obtain ⟨i0, hi, hz0, hz1, hz2⟩ := info_parts Tryz.infoRect
  have hn' : ¬ (12 : Int) < (n : Int) := by omega
  have hany : (l.any fun x => !validP x.1) = false := by
    rw [any_not_all]
    have : (l.all fun x => validP x.1) = (rgs l).all validP := by simp [rgs, List.all_map]; rfl
    rw [this, hv]
    rfl
  have Hany := Lib.hid hany
  have HA := Lib.hid hA
  have eg : ∀ args w, (callFunc 26 args).run Tryz.prog w = .ok (.enter 26 args) w := enters_of Tryz.func26 (by kernel_rfl) rfl
  have Eg := Lib.hid eg
  have hpos : ∀ a ∈ rgs l, ∀ q ∈ a, q.l < q.r := fun a ha => ok_pos (valid_parts (List.all_eq_true.1 hv a ha)).2.1
  have hlen : ∀ a ∈ rgs l, a.length ≤ 120 := fun a ha => (valid_parts (List.all_eq_true.1 hv a ha)).1
  have Hpos := Lib.hid hpos
  have Hlen := Lib.hid hlen
  have Hs := Lib.hid hs
  have hmm := @run_makeMap Tryz.prog
  clear hA hany eg hpos hlen hs
  refine (callsIn_wide (n := 20)).1 ?_
  have f1 : Fence.wide.fn 25 := trivial
  have f2 : Fence.wide.fn 28 := trivial
  have f3 : Fence.wide.fn 30 := trivial
  have f4 : Fence.wide.fn 29 := trivial
  have f5 : Fence.wide.fn 31 := trivial
  refine callsIn_of_wp_marks Tryz.func8 rfl trivial ?_ rfl
  simp only [Tryz.ntmps8, List.size_toArray, List.length_cons, List.length_nil, Nat.reduceAdd, Nat.reduceSub, Array.replicate_succ, Array.replicate_zero, List.push_toArray, List.append_toArray, List.nil_append, List.cons_append]
  gi_wp2_with (first
    | (gi_at_call 25
       refine (callsIn_wide.2 (containsG_any (fun x => !validP x.1) 26 #[] Eg.out A n c l _ HA.out (validF _))).mono ?_
       rintro e w1 ⟨rfl, hb1⟩
       rw [Hany.out]
       have Hb1 := Lib.hid hb1
       have hs1 := hb1.size
       clear hb1)
    | (gi_at_call 28
       refine (callsIn_wide.2 (pieces_any A n c l _ (HA.out.below (Hb1.out.trans (Below.mono (by repeat' (first | with_reducible exact Below.refl _ _ | with_reducible refine below_drewN ?_ _ | with_reducible refine Below.drew ?_ | with_reducible refine Below.alloc ?_ ?_ _ | with_reducible refine Below.setCell ?_ ?_ _ | with_reducible refine Below.trans ?_ (Below.mono (by with_reducible assumption) ?_) | (simp; done) | (simp; omega) | omega)) Hb1.out.size))) hn (by have := Hs.out; omega))).mono ?_
       rintro e w3 ⟨bc, bl, bL, rfl, hP, hbc, hbl, hbL, hb3⟩
       have HP := Lib.hid hP
       have Hb3 := Lib.hid hb3
       clear hP hb3)
    | fail)
  have hw2 : ((w1.alloc (.map #[] 0)).alloc (.cells #[.map (some w1.heap.size)] 62)).heap.size = w1.heap.size + 2 := by simp
  rw [hw2] at hbc hbl hbL
  have hb13 : Below w1.heap.size w1 w3 := (((Below.refl _ w1).alloc (Nat.le_refl _) _).alloc (by simp) _).trans (Hb3.out.mono (by rw [hw2]; omega))
  have Hb13 := Lib.hid hb13
  have hs3 : w1.heap.size + 2 ≤ w3.heap.size := by have := Hb3.out.size; rw [hw2] at this; exact this
  have HP1 : Hid (PcAt w3 w1.heap.size bc bl bL A n c l) := Lib.hid (HP.out.rebase (by rw [hw2]; omega))
  have Hbox : Hid (w3.heap[w1.heap.size + 1]? = some (.cells #[.map (some w1.heap.size)] 62 (0, 0))) := Lib.hid ((Hb3.out.block _ (by rw [hw2]; omega)).trans (heap_alloc2_new w1 _ _))
  have Hm0 : Hid (w3.ownsMap Tryz.prog 3 VR w1.heap.size 0 (.map [])) := Lib.hid (((World.ownsMap_made w1 Tryz.prog 3 VR).alloc _).kept (Go.Proofs.YtabcadpfhachoaaGreat.Below.grown_none Hb3.out) (by simp))
  clear hb13 HP hw2
  refine wpIn_rangeFunc_ownH rfl (by omega) (gf := 56) (lb := #[.pointer (some ⟨bc, 0, none⟩), .pointer (some ⟨bl, 0, none⟩), .pointer (some ⟨bL, 0, none⟩)]) rfl trivial (enters_of Tryz.func56 (by kernel_rfl) rfl)
    (pieces_stops w1.heap.size bc bl bL A n c _ l w1 w3 HP1.out rfl Hb13.out (HA.out.below Hb1.out) hn Hpos.out Hlen.out (by omega)) (fun h k => Keeps.t h k) (Keeps.b (by omega)) (Below.refl _ _) (fun _ => rfl)
    (fun pre W => (∃ D f, W.ownsMap Tryz.prog 3 VR w1.heap.size pre.length D ∧ Grp W w1.heap.size (pre.map (·.1)) D f) ∧ W.heap[w1.heap.size + 1]? = some (.cells #[.map (some w1.heap.size)] 62 (0, 0)) ∧ Below w1.heap.size w1 W)
    (fun _ _ _ => False)
    (fun s A' B' row hs hg hr => by
      obtain ⟨⟨D, f, h1, h2⟩, h3, h4⟩ := hs
      have hne : ∀ q, row = some q → w3.heap.size ≤ q := fun q e => (hr q e).1
      exact ⟨⟨D, f, h1.kept hg (fun e => by have := hne _ e.symm; omega), h2.keep hg (fun r e => (hr r e).2)⟩, (hg.block _ (Array.getElem?_eq_some_iff.1 h3).1 (fun e => by have := hne _ e.symm; omega)).trans h3, h4.grown hg h4.size (fun q e => by have := hne q e; omega)⟩)
    (fun _ _ _ _ _ hs _ _ => hs)
    ⟨⟨_, _, Hm0.out, Grp.empty _ _⟩, Hbox.out, Hb13.out⟩
    (fun x a' W => ∃ Bx, W.heap[Bx]? = some (.cells #[.int .i64 x.1.2.l, .int .i64 x.1.2.b, .int .i64 x.1.2.r, .int .i64 x.1.2.t] 42 (0, 0)) ∧ w1.heap.size < W.heap.size ∧ (∀ es clock, W.heap[w1.heap.size]? = some (.map es clock) → ∀ e ∈ es.toList, e.val.ownBlock ≠ some Bx) ∧ a' = { tmps := #[.slice A n c, undef, .slice none 0 0, .int .i64 0, .pointer (some ⟨w1.heap.size + 1, 0, none⟩), .int .i64 (x.1.1 : Int), .pointer (some ⟨Bx, 0, none⟩), undef, undef, undef, undef, undef, .slice A n c, .int .i64 (n : Int), .bool false, .slice A n c, .bool false, .map (some w1.heap.size), .slice A n c, .func (.func 56) #[] #[.pointer (some ⟨bc, 0, none⟩), .pointer (some ⟨bl, 0, none⟩), .pointer (some ⟨bL, 0, none⟩)], .int .i64 (x.1.1 : Int), .agg #[.int .i64 x.1.2.l, .int .i64 x.1.2.b, .int .i64 x.1.2.r, .int .i64 x.1.2.t], undef, undef, undef, undef, undef, undef, undef, undef, undef, undef, undef, undef, undef, undef, undef, undef, undef, undef, undef, undef, undef, undef, undef, undef, undef, undef, undef, undef, undef, undef, undef, undef, undef, undef], defers := [] })
    (fun x a' _ X Y row hs hg hr => by
      obtain ⟨Bx, h1, h5, h6, h2⟩ := hs
      refine ⟨Bx, (hg.block _ (Array.getElem?_eq_some_iff.1 h1).1 (fun e => ?_)).trans h1, Nat.lt_of_lt_of_le h5 hg.size, fun es clock he => h6 es clock ((hg.block _ h5 (fun e => by have := (hr _ e.symm).1; omega)).symm.trans he), h2⟩
      obtain ⟨o, ho, hc⟩ := (hr Bx e.symm).2
      rw [h1] at ho
      cases ho
      cases hc)
    ?assign ?body ?done ?stop
  case assign =>
    rintro lo pre x W K ⟨⟨D, f, hm1, hg1⟩, hbx1, hb1⟩ hK
    have HK := Lib.hid hK
    have Hm1 := Lib.hid hm1
    have Hg1 := Lib.hid hg1
    have Hbx1 := Lib.hid hbx1
    have Hb1' := Lib.hid hb1
    have hsW := hb1.size
    clear hm1 hg1 hbx1 hb1 hK
    dsimp only [pcV]
    gi_wp2
    exact HK.out _ _ ((KeepsOthers.alloc _ _).from _) ⟨(Below.refl _ W).alloc hsW _, CellsBut.alloc _ _ _⟩ ⟨⟨D, f, Hm1.out.alloc _, Hg1.out.below ((Below.refl _ _).alloc (Nat.le_refl _) _)⟩, (Below.heap_alloc _ _ _ (Array.getElem?_eq_some_iff.1 Hbx1.out).1).trans Hbx1.out, Hb1'.out.alloc hsW _⟩ ⟨W.heap.size, heap_alloc_new W _, by simp; omega, fun es clock he e hee hgv => by
      have hbl := (Array.getElem?_eq_some_iff.1 Hbx1.out).1
      have := Hg1.out.entry_lt Hm1.out lawIntO Tryz.underlying3 Tryz.underlying62 (zeroRects W) ((Below.heap_alloc _ _ _ (by omega)).symm.trans he) e hee _ hgv
      omega, rfl⟩
  case body =>
    rintro lo pre x a' W hlo ⟨r, hr⟩ ⟨⟨D, f, hm1, hg1⟩, hbx1, hb1⟩ ⟨Bx, hBx, hbW, hsh, rfl⟩ hlt
    have Hm1 := Lib.hid hm1
    have Hg1 := Lib.hid hg1
    have Hbx1 := Lib.hid hbx1
    have Hb1' := Lib.hid hb1
    have HBx := Lib.hid hBx
    have hsW := hb1.size
    have hBl : Bx < W.heap.size := (Array.getElem?_eq_some_iff.1 hBx).1
    have hbl1 : w1.heap.size + 1 < W.heap.size := (Array.getElem?_eq_some_iff.1 hbx1).1
    obtain ⟨⟨s, q⟩, hsx⟩ := x
    dsimp only at hsx HBx ⊢
    have hkey := Maps.keyOf_int_mk Tryz.underlying3 (show (Lit.int .i64 (s : Int)).wf = true from WalkArith.wf_i64 (by omega))
    have hlk := held_look hm1 lawIntO Tryz.underlying62 (zeroRects W) hkey (hg1.at' s)
    have Hkey := Lib.hid hkey
    have b0 := cell_of_row _ _ 0 _ _ _ hbx1
    have q0 := cell_of_row _ _ 0 _ _ _ hBx
    have q1 := cell_of_row _ _ 1 _ _ _ hBx
    have q2 := cell_of_row _ _ 2 _ _ _ hBx
    have q3 := cell_of_row _ _ 3 _ _ _ hBx
    have hlk' := held_look (w := W.drew) (hm1.drew) lawIntO Tryz.underlying62 (zeroRects W.drew) hkey (hg1.at' s)
    have Hlk' := Lib.hid hlk'
    have Hhr := Lib.hid hr
    clear hm1 hg1 hbx1 hb1 hBx hkey hlk hr hlk' hmm
    gi_wp2_with fail
    refine wpIn_region_head (wideF_round lo) (S := fun w' => w'.cell? ⟨w1.heap.size + 1, 0, none⟩ = some (.map (some w1.heap.size)) ∧ w'.cell? ⟨Bx, 0, none⟩ = some (.int .i64 q.l) ∧ w'.cell? ⟨Bx, 1, none⟩ = some (.int .i64 q.b) ∧ w'.cell? ⟨Bx, 2, none⟩ = some (.int .i64 q.r) ∧ w'.cell? ⟨Bx, 3, none⟩ = some (.int .i64 q.t) ∧ (Instr.lookup 62 (.map (some w1.heap.size)) (.int .i64 (s : Int)) false).run Tryz.prog w' = .ok (f s) w') 8 (by kernel_rfl) (by kernel_rfl) (fun _ _ h => h) ?_
    have hHeld : (fun w' : World => w'.cell? ⟨w1.heap.size + 1, 0, none⟩ = some (.map (some w1.heap.size)) ∧ w'.cell? ⟨Bx, 0, none⟩ = some (.int .i64 q.l) ∧ w'.cell? ⟨Bx, 1, none⟩ = some (.int .i64 q.b) ∧ w'.cell? ⟨Bx, 2, none⟩ = some (.int .i64 q.r) ∧ w'.cell? ⟨Bx, 3, none⟩ = some (.int .i64 q.t) ∧ (Instr.lookup 62 (.map (some w1.heap.size)) (.int .i64 (s : Int)) false).run Tryz.prog w' = .ok (f s) w') W.drew := ⟨b0, q0, q1, q2, q3, Hlk'.out⟩
    simp only [List.take_succ_cons, List.take_zero, List.replicate]
    refine wpAnyH_take (i := 0) (v := ?vvc0) rfl (by kernel_rfl) (by kernel_rfl) (by kernel_rfl) (fun _ _ _ h => h) (Or.inl ⟨by rfl, ?hyc0⟩) hHeld ?restc0; (case hyc0 => (intro w hSw; (try dsimp only at hSw); go_simp; all_goals (with_reducible rfl))); simp only [Act.put, List.getElem_toArray, List.getElem_cons_zero, List.getElem_cons_succ, List.setIfInBounds_toArray, List.set_cons_zero, List.set_cons_succ]
    refine wpAnyH_take (i := 1) (v := ?vvc1) rfl (by kernel_rfl) (by kernel_rfl) (by kernel_rfl) (fun _ _ _ h => h) (Or.inl ⟨by rfl, ?hyc1⟩) hHeld ?restc1; (case hyc1 => (intro w hSw; (try dsimp only at hSw); go_simp; all_goals (with_reducible rfl))); simp only [Act.put, List.getElem_toArray, List.getElem_cons_zero, List.getElem_cons_succ, List.setIfInBounds_toArray, List.set_cons_zero, List.set_cons_succ]
    refine wpAnyH_take (i := 2) (v := ?vvc2) rfl (by kernel_rfl) (by kernel_rfl) (by kernel_rfl) (fun _ _ _ h => h) (Or.inl ⟨by rfl, ?hyc2⟩) hHeld ?restc2; (case hyc2 => (intro w hSw; (try dsimp only at hSw); go_simp; all_goals (with_reducible rfl))); simp only [Act.put, List.getElem_toArray, List.getElem_cons_zero, List.getElem_cons_succ, List.setIfInBounds_toArray, List.set_cons_zero, List.set_cons_succ]
    refine wpAnyH_take (i := 3) (v := ?vvc3) rfl (by kernel_rfl) (by kernel_rfl) (by kernel_rfl) (fun _ _ _ h => h) (Or.inl ⟨by rfl, ?hyc3⟩) hHeld ?restc3; (case hyc3 => (intro w hSw; (try dsimp only at hSw); go_simp; all_goals (with_reducible rfl))); simp only [Act.put, List.getElem_toArray, List.getElem_cons_zero, List.getElem_cons_succ, List.setIfInBounds_toArray, List.set_cons_zero, List.set_cons_succ]
    refine wpAnyH_take (i := 4) (v := ?vvc4) rfl (by kernel_rfl) (by kernel_rfl) (by kernel_rfl) (fun _ _ _ h => h) (Or.inl ⟨by rfl, ?hyc4⟩) hHeld ?restc4; (case hyc4 => (intro w hSw; (try dsimp only at hSw); go_simp; all_goals (with_reducible rfl))); simp only [Act.put, List.getElem_toArray, List.getElem_cons_zero, List.getElem_cons_succ, List.setIfInBounds_toArray, List.set_cons_zero, List.set_cons_succ]
    refine wpAnyH_take (i := 5) (v := ?vvc5) rfl (by kernel_rfl) (by kernel_rfl) (by kernel_rfl) (fun _ _ _ h => h) (Or.inl ⟨by rfl, ?hyc5⟩) hHeld ?restc5; (case hyc5 => (intro w hSw; (try dsimp only at hSw); go_simp; all_goals (with_reducible rfl))); simp only [Act.put, List.getElem_toArray, List.getElem_cons_zero, List.getElem_cons_succ, List.setIfInBounds_toArray, List.set_cons_zero, List.set_cons_succ]
    obtain ⟨w6, hw6⟩ : ∃ w6 : World, w6 = (W.alloc (.cells #[.int .i64 q.l, .int .i64 q.b, .int .i64 q.r, .int .i64 q.t] 42)).drew := ⟨_, rfl⟩
    have Hw6 := Lib.hid hw6
    have Hb6 : Hid (Below W.heap.size W w6) := Lib.hid (by rw [hw6]; exact Below.drew ((Below.refl _ _).alloc (Nat.le_refl _) _))
    have hs6 : w6.heap.size = W.heap.size + 1 := by rw [hw6]; show (W.alloc _).heap.size = _; simp
    have Hs6 := Lib.hid hs6
    have hsl6 : W.heap.size ≤ w6.heap.size := by omega
    clear hw6 hs6
    have Hm6 : Hid (w6.ownsMap Tryz.prog 3 VR w1.heap.size pre.length D) := Lib.hid (Hm1.out.kept (Go.Proofs.YtabcadpfhachoaaGreat.Below.grown_none Hb6.out) (by simp))
    have Hg6 : Hid (Grp w6 w1.heap.size (pre.map (·.1)) D f) := Lib.hid (Hg1.out.below Hb6.out)
    have hB6 : w6.heap[w1.heap.size + 1]? = some (.cells #[.map (some w1.heap.size)] 62 (0, 0)) := (Hb6.out.block _ hbl1).trans Hbx1.out
    have hX6 : w6.heap[Bx]? = some (.cells #[.int .i64 q.l, .int .i64 q.b, .int .i64 q.r, .int .i64 q.t] 42 (0, 0)) := (Hb6.out.block _ hBl).trans HBx.out
    have HB6 := Lib.hid hB6
    have HX6 := Lib.hid hX6
    have hM6 : ∃ es clock, w6.heap[w1.heap.size]? = some (.map es clock) := by obtain ⟨es, clock, h, _⟩ := Hm6.out; exact ⟨es, clock, h⟩
    have HM6 := Lib.hid hM6
    have Hap : Hid (∀ t, (f t).ownBlock ≠ some w1.heap.size ∧ (f t).ownBlock ≠ some (w1.heap.size + 1)) := Lib.hid (fun t => by
      obtain ⟨es, clock, hm⟩ := HM6.out
      exact ⟨own_kind (Hg6.out.own t) hm (fun cs i e => by cases e), own_kind (Hg6.out.own t) HB6.out (fun cs i e => by injection e with _ e2 _; exact absurd e2 (by decide))⟩)
    have HapX : Hid ((f s).ownBlock ≠ some Bx) := Lib.hid (by
      obtain ⟨es, clock, hm⟩ : ∃ es clock, W.heap[w1.heap.size]? = some (.map es clock) := by obtain ⟨es, clock, h, _⟩ := Hm1.out; exact ⟨es, clock, h⟩
      rcases held_in Hm1.out lawIntO Tryz.underlying62 (zeroRects W) Hkey.out (Hg1.out.at' s) hm with h | ⟨e, he, h⟩
      · rw [h]; simp [Value.ownBlock]
      · rw [← h]; exact hsh es clock hm e he)
    have Hfl : Hid ((ofPc (pre.map (·.1)) s).length ≤ pre.length) := Lib.hid (by unfold ofPc; rw [List.length_map]; exact Nat.le_trans (List.length_filter_le _ _) (by rw [List.length_map]; exact Nat.le_refl _))
    have hpl : pre.length ≤ 8100 := by have := pieces_len Hs.out; omega
    clear hB6 hX6 hM6 hsh
    refine wpAnyH_ready (rs := [6]) (by kernel_rfl) (by simp) ?_; refine AllReadyH.cons rfl (fun K hK => ?_) AllReadyH.nil
    go_simp
    refine hK.out _ _ ⟨(World.cell?_alloc_lt _ _ _ (by simp; omega)).trans b0, (World.cell?_alloc_lt _ _ _ (by simp; omega)).trans q0, (World.cell?_alloc_lt _ _ _ (by simp; omega)).trans q1, (World.cell?_alloc_lt _ _ _ (by simp; omega)).trans q2, (World.cell?_alloc_lt _ _ _ (by simp; omega)).trans q3, by rw [← Hw6.out]; exact held_look Hm6.out lawIntO Tryz.underlying62 (zeroRects _) Hkey.out (Hg6.out.at' s)⟩ (fun hHeld => ?_)
    clear hK K
    (try simp only [Act.put, List.getElem_toArray, List.getElem_cons_zero, List.getElem_cons_succ, List.setIfInBounds_toArray, List.set_cons_zero, List.set_cons_succ])
    refine wpAnyH_ready (rs := [7]) (by kernel_rfl) (by simp) ?_; refine AllReadyH.cons rfl (fun K hK => ?_) AllReadyH.nil
    rw [← Hw6.out] at hHeld ⊢
    refine step_append_any _ rfl (.tmp 26) (.tmp 28) 32 rfl w1.heap.size 42 i0 (.agg #[.int .i64 0, .int .i64 0, .int .i64 0, .int .i64 0]) 4 32 Tryz.underlying32 hi hz0 hz1 hz2 rfl (by omega) (f s) (ofPc (pre.map (·.1)) s).length (rCells (ofPc (pre.map (·.1)) s)) rfl (Hg6.out.own s) w6.heap.size _ 1 1 [.int .i64 q.l, .int .i64 q.b, .int .i64 q.r, .int .i64 q.t] rfl ⟨rfl, fun _ => ⟨_, rfl, (by show W.heap.size < w6.heap.size; rw [Hs6.out]; exact Nat.lt_succ_self _), fun j u hu => (by rw [Hw6.out]; exact news_any _ _ _ j u hu)⟩⟩ (by simp [Value.oneCell']) (by have := Hfl.out; simp only [maxLen]; omega) (by have := Hfl.out; omega) (by omega) ?_
    intro v7 w7 hown7 hg7 hat7
    have Hown7 := Lib.hid hown7
    have Hg7 := Lib.hid hg7
    have Hat7 := Lib.hid hat7
    have Hm7 : Hid (w7.ownsMap Tryz.prog 3 VR w1.heap.size pre.length D) := Lib.hid (Hm6.out.kept hg7 (fun e => (Hap.out s).1 e.symm))
    have hB7 := (hg7.block _ (by omega) (fun e => (Hap.out s).2 e.symm)).trans HB6.out
    have hX7 := (hg7.block _ (by omega) (fun e => HapX.out e.symm)).trans HX6.out
    clear hown7 hg7 hat7
    refine hK.out _ _ ⟨cell_of_row _ _ 0 _ _ _ hB7, cell_of_row _ _ 0 _ _ _ hX7, cell_of_row _ _ 1 _ _ _ hX7, cell_of_row _ _ 2 _ _ _ hX7, cell_of_row _ _ 3 _ _ _ hX7, held_look Hm7.out lawIntO Tryz.underlying62 (zeroRects _) Hkey.out (Hg6.out.at' s)⟩ (fun hHeld => ?_)
    clear hK K
    (try simp only [Act.put, List.getElem_toArray, List.getElem_cons_zero, List.getElem_cons_succ, List.setIfInBounds_toArray, List.set_cons_zero, List.set_cons_succ])
    refine wpAnyH_done (by kernel_rfl) ?_ _
    clear hHeld
    show wpAnyIn _ _ _ _ _ _ _ _ _ _
    obtain ⟨w8, hrun, hm8, hg8⟩ := Hm7.out.update lawIntO Tryz.underlying62 (show pre.length < maxLen by simp only [maxLen]; omega) (val := v7) (d := .held v7) (ps := []) Hkey.out rfl
    have Hm8 := Lib.hid hm8
    have Hg8 := Lib.hid hg8
    clear hm8 hg8
    refine wpAnyIn_ready (rs := [8]) (by kernel_rfl) (by simp) ?_
    refine AllReadyIn.cons rfl (fun K hK => ?_) AllReadyIn.nil
    go_simp
    refine hK _ _ ?_
    clear hK K hrun
    refine wpAnyIn_done (by kernel_rfl) ?_ _
    obtain ⟨es7, clock7, hM7⟩ : ∃ es clock, w7.heap[w1.heap.size]? = some (.map es clock) := by obtain ⟨es, clock, h, _⟩ := Hm7.out; exact ⟨es, clock, h⟩
    have hs7 := Hg7.out.size
    have hob := own_base (Hg6.out.own s)
    have h7t : ∀ t, t ≠ s → w7.ownsRow w1.heap.size 42 4 (f t) (ofPc (pre.map (·.1)) t).length (rCells (ofPc (pre.map (·.1)) t)) := fun t ht => own_grown (Hg6.out.own t) Hg7.out (fun g hg e => Hg6.out.ap s t (fun e => ht e.symm) g e hg)
    have hk8 : ∀ {v : Value} {n : Nat} {xs : List Value}, w7.ownsRow w1.heap.size 42 4 v n xs → w8.ownsRow w1.heap.size 42 4 v n xs := fun h => own_grown h Hg8.out (fun g hg e => by
      injection e with e
      subst e
      exact own_kind h hM7 (fun cs i e => by cases e) hg)
    refine ⟨⟨by have := Hg8.out.size; omega, fun k o hk ho hc => ?_⟩, ⟨?_, ?_⟩, ⟨D.put (.int .i64 (s : Int)) (.held v7), (fun t => if t = s then v7 else f t), ?_, ?_⟩, ?_, ?_⟩
    · have hk1 : k < W.heap.size := (Array.getElem?_eq_some_iff.1 ho).1
      have h6 := (Hb6.out.block k hk1).trans ho
      have h7 := (Hg7.out.block k (by omega) (fun e => own_kind (Hg6.out.own s) h6 (fun cs i e => by subst e; cases hc) e.symm)).trans h6
      exact (Hg8.out.block k (by omega) (fun e => by injection e; omega)).trans h7
    · exact ((Hb6.out.mono hsW).grown Hg7.out (by omega) hob).grown Hg8.out (by omega) (fun g e => by injection e; omega)
    · exact ((CellsBut.below Hb6.out).trans (CellsBut.grown Hg7.out (own_rows (Hg6.out.own s)))).trans (CellsBut.grown Hg8.out (fun g e cs T i hh => by injection e with e; subst e; rw [hM7] at hh; cases hh))
    · rw [List.length_append]; exact Hm8.out
    · rw [List.map_append]
      refine Grp.step Hg6.out (s, q) (hk8 Hown7.out) (fun t ht => hk8 (h7t t ht)) ?_
      rcases Hat7.out with e | e
      · exact .inl e
      · exact .inr ⟨_, e, fun t ht => by have := own_lt (Hg6.out.own t) _ ht; omega⟩
    · exact (Hg8.out.block _ (by omega) (fun e => by injection e; omega)).trans hB7
    · exact (((Hb1'.out.trans (Hb6.out.mono hsW)).grown Hg7.out (by omega) hob)).grown Hg8.out (by omega) (fun g e => by injection e; omega)
  case done =>
    rintro Dm ys W hD hS ⟨⟨D, f, hm, hg⟩, hbx, hb⟩ hK
    have HS := Lib.hid hS
    have Hm := Lib.hid hm
    have Hg := Lib.hid hg
    have Hbx := Lib.hid hbx
    have Hb := Lib.hid hb
    have HK := Lib.hid hK
    have hsW := hb.size
    have hpl := pieces_len Hs.out
    have hyl : ys.length ≤ 8100 := by
      have : (ys.map (·.1)).length = (piecesP (rgs l)).length := by rw [hS]
      rw [List.length_map] at this
      omega
    have hDz : Maps.size D ≤ 8100 := Nat.le_trans hm.size_le hyl
    have b0 := cell_of_row _ _ 0 _ _ _ hbx
    have hseq : SeqGives Fence.wide 16 Tryz.prog 62 #[.pointer (some ⟨W.heap.size, 0, none⟩)] encZ (fun ss => ss.Perm (intKeys D)) (Maps.size D) (W.alloc (.cells #[.map (some w1.heap.size)] 62)) :=
      AnyZI.keys_gives (ρ := Tryz.keysA_ren) { Tryz.keysA with } Fence.wide _ trivial rfl (by omega) W.heap.size w1.heap.size ys.length D _ (by simp) (by simp) (hm.alloc _)
    have cK : ∀ mb W, CallsIn Fence.wide 19 Tryz.prog 30 #[.map mb] W fun e w' => e = .returned (.func (.func 62) #[] #[.pointer (some ⟨W.heap.size, 0, none⟩)]) ∧ w' = W.alloc (.cells #[.map mb] 62) := fun mb W => AnyZI.keys_in Tryz.keysA Fence.wide 19 trivial rfl mb W
    have cS := AnyZI.sorted_in Tryz.sortedA Fence.wide 19 trivial trivial trivial trivial rfl (by omega) (Tryz.sortsF _) (enters_of Tryz.func61 (by kernel_rfl) rfl) 62 #[.pointer (some ⟨W.heap.size, 0, none⟩)] trivial (enters_of Tryz.func62 (by kernel_rfl) rfl) _ _ (by simp only [maxLen]; omega) (by omega) _ hseq
    change CallsIn _ _ Tryz.prog 29 _ _ _ at cS
    have HcK := Lib.hid cK
    have HcS := Lib.hid cS
    clear hm hg hbx hb hK hseq hmm cK cS hS
    gi_wp2_with (first
      | (gi_at_call 30; refine (HcK.out _ _).mono ?_; rintro e w' ⟨rfl, rfl⟩)
      | (gi_at_call 29; refine HcS.out.mono ?_; rintro e w4 ⟨vk, ss, rfl, hss, hrow, _, hb4⟩; have Hss := Lib.hid hss; have Hrow := Lib.hid hrow; have Hb4 := Lib.hid hb4; clear hss hrow hb4; obtain ⟨AK, ck, rfl, _, _, _⟩ := own_slice Hrow.out)
      | fail)
    have hkeys : ss.mergeSort (fun x y => decide (x ≤ y)) = keysPc (piecesP (rgs l)) := by
      rw [← HS.out]
      exact keys_sorted Hm.out lawIntO Tryz.underlying3 Hg.out Hss.out
    obtain ⟨K, hKe⟩ : ∃ K, K = keysPc (piecesP (rgs l)) := ⟨_, rfl⟩
    have hlK : K.length = ss.length := by rw [hKe, ← hkeys, List.length_mergeSort]
    have hKl : K.length ≤ 8100 := by
      have := (asc_all ((piecesP (rgs l)).map fun p => (p.1 : Int))).2.2
      rw [List.length_map] at this
      rw [hKe]
      unfold keysPc
      omega
    have hKm : ∀ x ∈ K, ∃ t : Nat, x = (t : Int) ∧ t < 4096 := by
      intro x hx
      rw [hKe] at hx
      obtain ⟨p, hp, rfl⟩ := (keysPc_mem x).1 hx
      rw [← HS.out] at hp
      obtain ⟨q, _, rfl⟩ := List.mem_map.1 hp
      exact ⟨_, rfl, q.2⟩
    have hrowK : w4.ownsRow (W.alloc (.cells #[.map (some w1.heap.size)] 62)).heap.size 3 1 (.slice AK ss.length ck) ss.length (K.map encZ) := by
      rw [hKe, ← hkeys]
      exact Hrow.out
    obtain ⟨nk, hnk⟩ : ∃ nk, nk = ss.length := ⟨_, rfl⟩
    rw [← hnk] at hrowK hlK ⊢
    have hs4 : W.heap.size + 1 ≤ w4.heap.size := by have := Hb4.out.size; simp at this; exact this
    have hbW : Below W.heap.size W w4 := ((Below.refl _ W).alloc (Nat.le_refl _) _).trans (Hb4.out.mono (by simp))
    have HrowK := Lib.hid hrowK
    have HKe := Lib.hid hKe
    have HKm := Lib.hid hKm
    have HbW := Lib.hid hbW
    have Hm4 : Hid (w4.ownsMap Tryz.prog 3 VR w1.heap.size ys.length D) := Lib.hid (Hm.out.kept (Go.Proofs.YtabcadpfhachoaaGreat.Below.grown_none hbW) (by simp))
    have Hg4 : Hid (Grp w4 w1.heap.size (piecesP (rgs l)) D f) := Lib.hid (by rw [← HS.out]; exact Hg.out.below hbW)
    have Hbx4 := Lib.hid ((hbW.block _ (Array.getElem?_eq_some_iff.1 Hbx.out).1).trans Hbx.out)
    have hbl4 : w1.heap.size + 1 < w4.heap.size := (Array.getElem?_eq_some_iff.1 Hbx4.out).1
    obtain ⟨j0, hj, hy0, hy1, hy2⟩ := info_parts Tryz.infoFace
    clear hrowK hKe hKm hbW hkeys hnk
    gi_loopw [7, 34] (fun out i wr => ∃ (k : Nat) (L : FL), i = .int .i64 (k : Int) ∧ k ≤ nk ∧ FsOwn wr w4.heap.size out L ∧ fcs L = (K.take k).map (faceOf (rgs l)) ∧ (K.take k).any (bigF (rgs l)) = false ∧ Below w4.heap.size w4 wr) (fun _ i _ => nk - (intOf i).toNat)
    case atStart => exact ⟨0, [], rfl, by omega, FsOwn.nil _ _, rfl, rfl, Below.refl _ _⟩
    case round =>
      obtain ⟨k, L, rfl, hkn, hF, hL, hbg, hbr⟩ := hrel
      have HF := Lib.hid hF
      have HL := Lib.hid hL
      have Hbg := Lib.hid hbg
      have Hbr := Lib.hid hbr
      have hsr := hbr.size
      clear hF hL hbg hbr
      by_cases hlt : k < nk
      · have hlt' : (k : Int) < (nk : Int) := by omega
        obtain ⟨gK, cK, hgK, _, hgKl, _, _, hKc, _⟩ := own_at (ownsRow_below HrowK.out Hbr.out) (by omega)
        obtain ⟨rfl, rfl⟩ : AK = some ⟨gK, 0, none⟩ ∧ ck = cK := by injection hgK with h1 _ h3; exact ⟨h1, h3⟩
        obtain ⟨t, ht, ht12⟩ := HKm.out K[k] (List.getElem_mem _)
        have ck0 : wr.cell? ⟨gK, k, none⟩ = some (.int .i64 (t : Int)) := hKc k _ (by rw [List.getElem?_map, List.getElem?_eq_getElem (show k < K.length by omega), ht]; rfl)
        have cb0 := cell_of_row _ _ 0 _ _ _ ((Hbr.out.block _ hbl4).trans Hbx4.out)
        have Hkey : Hid (keyOf Tryz.prog 3 (.int .i64 (t : Int)) = some (.int .i64 (t : Int))) := Lib.hid (Maps.keyOf_int_mk Tryz.underlying3 (show (Lit.int .i64 (t : Int)).wf = true from WalkArith.wf_i64 (by omega)))
        have Hmr : Hid (wr.ownsMap Tryz.prog 3 VR w1.heap.size ys.length D) := Lib.hid (Hm4.out.kept (Go.Proofs.YtabcadpfhachoaaGreat.Below.grown_none Hbr.out) (by simp))
        obtain ⟨A0, c0, hf0, hS0⟩ := SlR.of_own ((Hg4.out.below Hbr.out).own t)
        have hat0 := Hg4.out.at' t
        rw [hf0] at hat0
        have Hat0 := Lib.hid hat0
        have HS0 := Lib.hid hS0
        obtain ⟨n0, hn0⟩ : ∃ n0, n0 = (ofPc (piecesP (rgs l)) t).length := ⟨_, rfl⟩
        rw [← hn0] at Hat0 HS0
        have hn0' : n0 ≤ 50000 := by have := ofPc_len (piecesP (rgs l)) t; omega
        have Hcuts := Lib.hid (ofPc_cuts Hs.out t)
        have Ht := Lib.hid ht
        have ekw : IntKind.i64.wrap (k : Int) = (k : Int) := IntWalk.i64_in _ (by omega)
        have hk0 : 0 ≤ (k : Int) := by omega
        clear hgK hKc hf0 hS0 hat0 hn0
        have Hjc := Lib.hid (joined_big A0 n0 c0 _ wr HS0.out hn0' (by have := Hcuts.out; omega) (fun q hq => ofPc_pos q hq))
        by_cases hbig : bigF (rgs l) (t : Int) = true
        · have hlim : limP (canonP (ofPc (piecesP (rgs l)) t)) = ([], 1) := by unfold limP; rw [if_pos (by have := hbig; unfold bigF at this; simpa using this)]
          rw [hlim] at Hjc
          clear hlim
          gi_wp2_with (first
            | (with_reducible (show wpListIn _ _ _ _ _ (⟨some 41, _, _, _, _, _⟩ :: _) _ _)
               refine wpListIn_lookup_held _ rfl (.tmp 39) (.tmp 40) _ rfl 3 32 lawIntO Tryz.underlying62 _ (zeroRects _) w1.heap.size ys.length D rfl Hmr.out _ _ rfl Hkey.out _ Hat0.out ?_)
            | (gi_at_call 31
               refine (callsIn_wide.2 Hjc.out).mono ?_
               rintro e w5 ⟨v5, rfl, hown5, hb5⟩
               have Hb5 := Lib.hid hb5
               obtain ⟨A5, c5, rfl, _, _, _⟩ := own_slice hown5
               clear hown5 hb5)
            | fail)
          have hfp : facesP (rgs l) = ([], 1) := by
            rw [facesP_big (by rw [rgs_len, HA.out.len]; omega) hv, ← HKe.out, if_pos (List.any_eq_true.2 ⟨(t : Int), by rw [← Ht.out]; exact List.getElem_mem _, hbig⟩)]
          have hl5 := Hb5.out.size
          have hend : Below W.heap.size W (w5.alloc (.cells #[.slice A5 0 c5] 34)) := ((HbW.out.trans (Hbr.out.mono (by omega))).trans (Hb5.out.mono (by omega))).alloc (by omega) _
          have hDl := (Array.getElem?_eq_some_iff.1 HK.out).1
          refine ⟨by simp, .inl ⟨_, _, rfl, run_takeDeferred ((hend.block Dm hDl).trans HK.out), ?_⟩⟩
          refine ⟨_, results_tmp2 rfl _ _ _, ?_⟩
          rw [hfp]
          exact ⟨[], _, rfl, FsOwn.nil _ _, rfl, (Hb1.out.trans ((Hb.out.trans (hend.mono hsW)).mono hs1)).grown (grownBy_putObj' _ Dm _) (by have h1 := hend.size; omega) (fun g e => by injection e with e; omega)⟩
        · have hbigf : bigF (rgs l) (t : Int) = false := by simpa using hbig
          have hlim : limP (canonP (ofPc (piecesP (rgs l)) t)) = ((faceOf (rgs l) (t : Int)).rg, 0) := by unfold limP; rw [if_neg (by have := hbig; unfold bigF at this; simpa using this)]; rfl
          rw [hlim] at Hjc
          have hx1 : faceOf (rgs l) (t : Int) = ⟨(t : Int), (faceOf (rgs l) (t : Int)).rg⟩ := rfl
          obtain ⟨rg, hrg⟩ : ∃ rg, rg = (faceOf (rgs l) (t : Int)).rg := ⟨_, rfl⟩
          rw [← hrg] at Hjc hx1
          have Hx1 := Lib.hid hx1
          have hLl : L.length = k := by have := congrArg List.length HL.out; simp [fcs] at this; omega
          have HLl := Lib.hid hLl
          have Hnbig := Lib.hid hbigf
          obtain ⟨LA, lc, hLv, _, _, _⟩ := own_slice HF.out.o
          subst hLv
          rw [hLl] at HF ⊢
          clear hlim hx1 hrg hLl hbig hbigf
          gi_wp2_with (first
            | (with_reducible (show wpListIn _ _ _ _ _ (⟨some 41, _, _, _, _, _⟩ :: _) _ _)
               refine wpListIn_lookup_held _ rfl (.tmp 39) (.tmp 40) _ rfl 3 32 lawIntO Tryz.underlying62 _ (zeroRects _) w1.heap.size ys.length D rfl Hmr.out _ _ rfl Hkey.out _ Hat0.out ?_)
            | (gi_at_call 31
               refine (callsIn_wide.2 Hjc.out).mono ?_
               rintro e w5 ⟨v5, rfl, hown5, hb5⟩
               have Hb5 := Lib.hid hb5
               obtain ⟨A5, c5, rfl, _, _, _⟩ := own_slice hown5
               have Hown5 := Lib.hid hown5
               clear hown5 hb5)
            | (gi_at_builtin
               go_loud (refine wpListIn_append_any _ rfl (.tmp 48) (.tmp 52) _ rfl w4.heap.size 36 j0 _ 2 32 Tryz.underlying28 hj hy0 hy1 hy2 rfl (by omega) _ k (fcCells L) rfl (World.ownsRow.alloc (World.ownsRow.alloc (ownsRow_below (by have := HF.out.o; rw [HLl.out] at this; exact this) Hb5.out) _) _) _ _ 1 1 [.int .i64 (t : Int), .slice A5 rg.length c5] rfl ⟨rfl, fun _ => ⟨_, rfl, Nat.lt_succ_self _, fun j u hu => (by exact World.news_of_block (heap_alloc2_new w5 _ (.cells #[.int .i64 (t : Int), .slice A5 rg.length c5] 36)) j u hu)⟩⟩ (by simp [Value.oneCell']) (by simp only [maxLen]; omega) (by omega) (by have := Hb5.out.size; simp; omega) ?_)
               intro v6 w6 hown6 hg6 hat6
               obtain ⟨VA, vc, rfl, _, _, _⟩ := own_slice hown6
               have Hown6 := Lib.hid hown6
               have Hg6 := Lib.hid hg6
               have Hat6 := Lib.hid hat6
               clear hown6 hg6 hat6)
            | fail)
          have hl5 := Hb5.out.size
          case roundEnd =>
            have hwa : Below wr.heap.size wr ((w5.alloc (.cells #[.slice A5 rg.length c5] 34)).alloc (.cells #[.int .i64 (t : Int), .slice A5 rg.length c5] 36)) := (Hb5.out.alloc hl5 _).alloc (by simp; omega) _
            have hob := own_base HF.out.o
            refine ⟨⟨k + 1, L ++ [(⟨(t : Int), rg⟩, ⟨A5, c5⟩)], rfl, by omega, ?_, ?_, ?_, ?_⟩, by simp [intOf]; omega⟩
            · refine FsOwn.push (v := .slice LA k lc) HF.out (⟨(t : Int), rg⟩, ⟨A5, c5⟩) (World.ownsRow.alloc (World.ownsRow.alloc (own_rebase Hown5.out hsr) _) _) ?_ hwa Hg6.out (by rw [HLl.out]; exact Hown6.out) Hat6.out
              intro g hg e
              have h1 := own_lt HF.out.o g hg
              have h2 := own_base Hown5.out g e
              omega
            · have : fcs (L ++ [(⟨(t : Int), rg⟩, ⟨A5, c5⟩)]) = fcs L ++ [⟨(t : Int), rg⟩] := by simp [fcs]
              rw [this, HL.out, List.take_succ_eq_append_getElem (by omega), List.map_append, Ht.out, ← Hx1.out]
              rfl
            · rw [List.take_succ_eq_append_getElem (by omega), List.any_append, Hbg.out, Ht.out, List.any_cons, Hnbig.out]
              rfl
            · exact ((Hbr.out.trans (hwa.mono hsr)).grown Hg6.out (by have := hwa.size; omega) (fun g e => hob g e))
      · gi_wp2
        obtain rfl : k = nk := by omega
        have htk : K.take k = K := by rw [← hlK]; exact List.take_length
        have hfp : facesP (rgs l) = (K.map (faceOf (rgs l)), 0) := by
          have hb := Hbg.out
          rw [htk] at hb
          rw [facesP_big (by rw [rgs_len, HA.out.len]; omega) hv, ← HKe.out, hb]
          rfl
        have hend : Below W.heap.size W wr := HbW.out.trans (Hbr.out.mono (by omega))
        have hDl := (Array.getElem?_eq_some_iff.1 HK.out).1
        refine ⟨by simp, .inl ⟨_, _, rfl, run_takeDeferred ((hend.block Dm hDl).trans HK.out), ?_⟩⟩
        refine ⟨_, results_tmp2 rfl _ _ _, ?_⟩
        rw [hfp]
        exact ⟨L, _, rfl, (HF.out.only (grownBy_putObj' _ Dm _) (by omega)).rebase (by omega), by rw [HL.out, htk], (Hb1.out.trans ((Hb.out.trans (hend.mono hsW)).mono hs1)).grown (grownBy_putObj' _ Dm _) (by have h1 := hend.size; omega) (fun g e => by injection e with e; omega)⟩
  case stop =>
    rintro D c pre W _ _ h _
    exact h.elim

/-- **overlay's Faces: its set of pieces, as the plain facesP counts them.** -/
theorem faces_any (A : Option Addr) (n c : Nat) (l : RL) (w : World) (hA : SlG w A n c l) (hs : (rgs l).flatten.length ≤ 45) : Calls Tryz.prog 8 #[.slice A n c] w (FcPost w (facesP (rgs l))) := by
  by_cases hn : 12 < n
  · exact faces_many A n c l w hA hn
  · cases hv : (rgs l).all validP with
    | false => exact faces_bad A n c l w hA (by omega) hv
    | true => exact faces_good A n c l w hA (by omega) hv hs
end Go.Proofs.YtabcadpfhachoaaGreat
