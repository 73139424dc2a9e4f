/- Contracts: ContainsFunc of regions; regions, rects (claim); Joined. -/
import Derived.Test.YtglanlpjoaholaaGreatY2
import Derived.Test.YtglanlpjoaholaaGreatSh13
import Derived.Test.YtglanlpjoaholaaGreatR7
namespace Go.Proofs.YtglanlpjoaholaaGreat
open Go.RowKit Go.Shelf
set_option linter.unusedVariables false
set_option linter.unusedSimpArgs false

/-- Regions that lie in a world. -/
abbrev GS (w : World) := { x : List R4 × LV // SlR w x.2.a x.1.length x.2.c x.1 }
instance (w : World) : Inhabited (GS w) := ⟨⟨([], ⟨none, 0⟩), SlR.nil w⟩⟩
def gsOf {w : World} {l : RL} (h : ∀ x ∈ l, SlR w x.2.a x.1.length x.2.c x.1) : List (GS w) := l.attach.map fun x => ⟨x.1, h x.1 x.2⟩
theorem gsOf_len {w : World} {l : RL} (h : ∀ x ∈ l, SlR w x.2.a x.1.length x.2.c x.1) : (gsOf h).length = l.length := by simp [gsOf]
theorem gsOf_get {w : World} {l : RL} (h : ∀ x ∈ l, SlR w x.2.a x.1.length x.2.c x.1) (j : Nat) (hj : j < l.length) : ((gsOf h)[j]'(by rw [gsOf_len]; exact hj)).1 = l[j] := by simp [gsOf]
theorem gsOf_any {w : World} {l : RL} (h : ∀ x ∈ l, SlR w x.2.a x.1.length x.2.c x.1) (q : List R4 × LV → Bool) : (gsOf h).any (fun x => q x.1) = l.any q := by
  rw [Bool.eq_iff_iff, List.any_eq_true, List.any_eq_true]
  constructor
  · rintro ⟨x, hx, hq⟩
    obtain ⟨y, hy, rfl⟩ := List.mem_map.1 hx
    exact ⟨y.1, y.2, hq⟩
  · rintro ⟨x, hx, hq⟩
    exact ⟨⟨x, h x hx⟩, List.mem_map.2 ⟨⟨x, hx⟩, List.mem_attach _ _, rfl⟩, hq⟩

set_option maxHeartbeats 1000000 in
theorem containsG_any (p : List R4 × LV → Bool) (f : Nat) (lb : Array Value) (eg : ∀ args w, (callFunc f args).run Tryz.prog w = .ok (.enter f args) w) (A : Option Addr) (n c : Nat) (l : RL) (w : World) (hA : SlG w A n c l)
    (hp : PredBelow Tryz.prog f lb (fun x : GS w => .agg #[rgC x.1]) (fun x => p x.1) w) :
    Calls Tryz.prog 66 #[.slice A n c, .func (.func f) #[] lb] w fun e w' => e = .returned (.bool (l.any p)) ∧ Below w.heap.size w w' := by
  have hx := hA.len
  have hn := Nat.le_trans hA.cap hA.top
  unfold maxLen at hn
  rcases Nat.eq_zero_or_pos n with h0 | h0
  · subst h0
    obtain rfl : l = [] := List.length_eq_zero_iff.1 hx
    clear hA hp eg
    go_enter Tryz.func66, Tryz.ntmps66
    go_wp2
    go_loop [8] (fun i => i = .int .i64 0) (fun _ => 0)
    case atStart => rfl
    case round =>
      subst hrel
      go_wp2
      go_ret
      exact ⟨rfl, Below.refl _ _⟩
  · obtain ⟨b1, o1, rfl, hb1, hc1⟩ := hA.lies.resolve_left (by omega)
    have hgl := gsOf_len hA.fits
    refine (AnyQ.slices_ContainsFunc Tryz.layContainsRegion 1 Tryz.isAgg33 Tryz.sizeOf33 (fun x : GS w => [rgC x.1]) (fun _ => rfl) (fun x => p x.1) f lb eg b1 o1 n c (gsOf hA.fits) w hp (by omega) (by omega) hb1 ?_).mono ?_
    · intro j hj i v hv
      have hj' : j < l.length := by omega
      rw [getElem!_pos (gsOf hA.fits) j (by omega), gsOf_get hA.fits j hj'] at hv
      have hi : i = 0 := by
        rcases Nat.eq_zero_or_pos i with h | h
        · exact h
        · rw [List.getElem?_eq_none (by simp; omega)] at hv; cases hv
      subst hi
      simp at hv
      subst hv
      rw [Nat.mul_one, Nat.add_zero]
      exact hc1 j _ (by simp [rgCells, hj'])
    · rintro e w' ⟨rfl, hb⟩
      rw [List.take_of_length_le (by omega), gsOf_any hA.fits p]
      exact ⟨rfl, hb⟩

set_option maxHeartbeats 400000 in
theorem validG (w : World) : PredBelow Tryz.prog 67 #[] (fun x : GS w => .agg #[rgC x.1]) (fun x => !validP x.1.1) w := by
  intro W x hb
  obtain ⟨⟨l, v⟩, hx⟩ := x
  refine Calls.mono (show Calls Tryz.prog 67 #[.agg #[.slice v.a l.length v.c]] W fun e w' => e = .returned (.bool (!validP l)) ∧ Below W.heap.size W w' from ?_) ?_
  · have HV := Lib.hid (fun W' (hW : Below W.heap.size W W') => valid_any v.a l.length v.c l W' ((hx.below hb).below hW))
    generalize validP l = x at *
    clear hx
    go_enter Tryz.func67, Tryz.ntmps67
    go_wp2_with (first | (go_at_call 68; refine (HV.out _ (by repeat' (first | with_reducible exact Below.refl _ _ | with_reducible refine below_drewN ?_ _ | with_reducible refine Below.drew ?_ | with_reducible refine Below.alloc ?_ ?_ _ | with_reducible refine Below.setCell ?_ ?_ _ | with_reducible refine Below.trans ?_ (Below.mono (by with_reducible assumption) ?_) | (simp; done) | (simp; omega) | omega))).mono ?_; rintro e w1 ⟨rfl, hb1⟩) | fail)
    go_ret
    exact ⟨rfl, (by repeat' (first | with_reducible exact Below.refl _ _ | with_reducible assumption | with_reducible refine below_drewN ?_ _ | with_reducible refine Below.drew ?_ | with_reducible refine Below.alloc ?_ ?_ _ | with_reducible refine Below.setCell ?_ ?_ _ | with_reducible refine Below.trans ?_ (Below.mono (by with_reducible assumption) ?_) | with_reducible refine below_only ?_ (by with_reducible assumption) ?_ ?_ | (simp; done) | (simp; omega) | omega))⟩
  · rintro e w' ⟨rfl, h⟩
    exact ⟨rfl, hb.trans (h.mono hb.size)⟩

/-- The regions of lines. -/
def regsOf (l : LL) : RL := l.map fun x => (x.1.rg, x.2)
theorem regsOf_take {l : LL} {k : Nat} (h : k < l.length) : regsOf (l.take (k + 1)) = regsOf (l.take k) ++ [(l[k].1.rg, l[k].2)] := by
  unfold regsOf
  rw [List.take_succ_eq_append_getElem h, List.map_append]
  rfl
theorem rgCells_snoc (l : RL) (x : List R4 × LV) : rgCells (l ++ [x]) = rgCells l ++ [.slice x.2.a x.1.length x.2.c] := by simp [rgCells, rgC]

set_option maxHeartbeats 4000000 in
set_option maxRecDepth 100000 in
theorem regionsC_any (w0 w : World) (hb : Below w0.heap.size w0 w) (v0 : Value) (M : RL) (hM : w.ownsRow w0.heap.size 33 1 v0 M.length (rgCells M)) (hMs : ∀ x ∈ M, SlR w0 x.2.a x.1.length x.2.c x.1) (A : Option Addr) (n c : Nat) (l : LL) (hL : SlL w0 A n c l) (hn : n ≤ 100) (hm : M.length ≤ 10) :
    Calls Tryz.prog 37 #[.slice A n c, v0] w fun e w' => e = .returned (.int .i64 (if (M ++ regsOf l).all (fun x => validP x.1) then 0 else 7)) ∧ Below w0.heap.size w0 w' := by
  obtain ⟨i0, hi, hz0, hz1, hz2⟩ := info_parts Tryz.infoRegion
  have hx := hL.len
  have HL := Lib.hid hL
  have HMs := Lib.hid hMs
  have Hb := Lib.hid hb
  have HM := Lib.hid hM
  have hs := hb.size
  have Hany : Hid ((M ++ regsOf l).any (fun x => !validP x.1) = !(M ++ regsOf l).all (fun x => validP x.1)) := Lib.hid (any_not_all _ _)
  have Egv : Hid (∀ args w, (callFunc 67 args).run Tryz.prog w = .ok (.enter 67 args) w) := Lib.hid (enters_of Tryz.func67 (by kernel_rfl) rfl)
  have Hend : Hid (∀ x ∈ M ++ regsOf l, SlR w0 x.2.a x.1.length x.2.c x.1) := Lib.hid (fun x hx => by
    rcases List.mem_append.1 hx with h | h
    · exact hMs x h
    · obtain ⟨y, hy, rfl⟩ := List.mem_map.1 h
      exact hL.fits y hy)
  obtain ⟨res, hres⟩ : ∃ r, (M ++ regsOf l).all (fun x => validP x.1) = r := ⟨_, rfl⟩
  rw [hres] at Hany ⊢
  clear hL hMs hb hM hres
  go_enter Tryz.func37, Tryz.ntmps37
  go_wp2_with fail
  go_loopw [1, 9] (fun v i wr => ∃ k : Nat, k ≤ n ∧ i = .int .i64 (k : Int) ∧ wr.ownsRow w0.heap.size 33 1 v (M.length + k) (rgCells (M ++ regsOf (l.take k))) ∧ Below w0.heap.size w0 wr) (fun _ i _ => n - (intOf i).toNat)
  case atStart => exact ⟨0, Nat.zero_le _, rfl, by simpa [regsOf] using HM.out, Hb.out⟩
  case round =>
    obtain ⟨k, hk, rfl, hown, hbw⟩ := hrel
    have Hbw := Lib.hid hbw
    have hsw := hbw.size
    have Hown := Lib.hid hown
    clear hown hbw
    by_cases hkn : k < n
    · have hkn' : (k : Int) < (n : Int) := by omega
      have hkl : k < l.length := by omega
      obtain ⟨b, off, rfl, hbb, g0, g1, g2, g3, -⟩ := (HL.out.below Hbw.out).at k hkl
      have Hts := Lib.hid (regsOf_take hkl)
      have HM2 : Hid (M ++ regsOf (l.take (k + 1)) = M ++ regsOf (l.take k) ++ [(l[k].1.rg, l[k].2)]) := Lib.hid (by rw [Hts.out, List.append_assoc])
      generalize l[k] = y at *
      obtain ⟨⟨ypc, yrg, ycr, ysch⟩, ⟨ya, yc⟩⟩ := y
      dsimp only at *
      generalize M ++ regsOf (l.take k) = Q at *
      clear hkl
      go_wp2_with (first
        | (at_builtin
           (refine wpList_append_any _ rfl (.tmp 13) (.tmp 16) _ rfl w0.heap.size 33 i0 _ 1 24 Tryz.underlying26 hi hz0 hz1 hz2 rfl (by omega) _ (M.length + k) (rgCells Q) rfl ((Hown.out.alloc _).alloc _) _ _ 1 1 [.slice ya yrg.length yc] rfl ⟨rfl, fun _ => ⟨_, rfl, Nat.lt_succ_self _, fun j u hu => (by have hnw := news_any (wr.alloc (.cells #[.int .i64 ypc, .slice ya yrg.length yc, .int .i64 ycr, .int .i64 ysch] 38)) #[.slice ya yrg.length yc] 33 j u hu; rw [World.size_alloc] at hnw; exact hnw)⟩⟩ (by simp [Value.oneCell']) (by simp only [maxLen]; omega) (by omega) (by simp; omega) ?_)
           intro v5 w5 hown5 hg5 hat5)
        | fail)
      go_roundw
      case rel => exact ⟨k + 1, by omega, by go_num, by rw [HM2.out, rgCells_snoc]; exact hown5, Below.grown ((Hbw.out.alloc hsw _).alloc (by simp; omega) _) hg5 (by simp; omega) (own_base Hown.out)⟩
      case measure => simp [intOf]; omega
    · obtain rfl : k = n := by omega
      have hkn' : ¬ (k : Int) < (k : Int) := by omega
      rw [List.take_of_length_le (by omega : l.length ≤ k)] at Hown
      obtain ⟨G, gc, rfl, h1, h2, h3⟩ := own_slice Hown.out
      have hll : (M ++ regsOf l).length = M.length + k := by simp [regsOf, hx]
      have HG : Hid (SlG wr G (M.length + k) gc (M ++ regsOf l)) := Lib.hid ⟨hll, h2, h3, h1, fun x hx => (Hend.out x hx).below Hbw.out⟩
      clear h1 h2 h3 Hown hll
      have HC : Hid (Calls Tryz.prog 66 #[.slice G (M.length + k) gc, .func (.func 67) #[] #[]] wr fun e w' => e = .returned (.bool (!res)) ∧ Below wr.heap.size wr w') := Lib.hid (by
        have := containsG_any (fun x => !validP x.1) 67 #[] Egv.out G (M.length + k) gc (M ++ regsOf l) wr HG.out (validG wr)
        rwa [Hany.out] at this)
      generalize M.length + k = gn at *
      clear HG Hany Hend
      cases res with
      | true =>
        go_wp2_with (first | (go_at_call 66; refine HC.out.mono ?_; rintro e w1 ⟨rfl, hb1⟩) | fail)
        go_ret
        exact ⟨rfl, Hbw.out.trans (hb1.mono hsw)⟩
      | false =>
        go_wp2_with (first | (go_at_call 66; refine HC.out.mono ?_; rintro e w1 ⟨rfl, hb1⟩) | fail)
        go_ret
        exact ⟨rfl, Hbw.out.trans (hb1.mono hsw)⟩

/-- A function of a line that changes nothing. -/
def LinePred (f : Nat) (lb : Array Value) (p : Ln → Bool) (w : World) : Prop :=
  ∀ W (x : Ln) (v : LV), Below w.heap.size w W → Calls Tryz.prog f (#[.agg #[.int .i64 x.pc, .slice v.a x.rg.length v.c, .int .i64 x.cr, .int .i64 x.sch]] ++ lb) W fun e w' => e = .returned (.bool (p x)) ∧ Below W.heap.size W w'
/-- The rectangles of the lines that are chosen. -/
def rectsP (p : Ln → Bool) (L : List Ln) : List R4 := (L.filter p).flatMap Ln.rg
theorem rectsP_snoc (p : Ln → Bool) (L : List Ln) (x : Ln) : rectsP p (L ++ [x]) = if p x then rectsP p L ++ x.rg else rectsP p L := by
  unfold rectsP
  rw [List.filter_append, List.flatMap_append]
  cases h : p x <;> simp [h]
theorem lns_take {l : LL} {k : Nat} (h : k < l.length) : lns (l.take (k + 1)) = lns (l.take k) ++ [l[k].1] := by
  unfold lns
  rw [List.take_succ_eq_append_getElem h, List.map_append]
  rfl
theorem SlR.rds {w : World} {A : Option Addr} {n c : Nat} {l : List R4} (h : SlR w A n c l) : Reads w w.heap.size 4 A n (rCells l) := h.lies.reads (by rw [rCells_len, h.len])

set_option maxHeartbeats 4000000 in
set_option maxRecDepth 100000 in
theorem rects_any' (f : Nat) (lb : Array Value) (p : Ln → Bool) (A : Option Addr) (n c : Nat) (l : LL) (w : World) (hL : SlL w A n c l) (hn : n ≤ 25) (hr : ∀ x ∈ l, x.1.rg.length ≤ 1000)
    (eg : ∀ args w, (callFunc f args).run Tryz.prog w = .ok (.enter f args) w) (HF : LinePred f lb p w) :
    Calls Tryz.prog 39 #[.slice A n c, .func (.func f) #[] lb] w fun e w' => ∃ v, e = .returned v ∧ w'.ownsRow w.heap.size 64 4 v (rectsP p (lns l)).length (rCells (rectsP p (lns l))) ∧ Below w.heap.size w w' := by
  obtain ⟨i0, hi, hz0, hz1, hz2⟩ := info_parts Tryz.infoRect
  have hx := hL.len
  have HL := Lib.hid hL
  have HFh := Lib.hid HF
  have Hr := Lib.hid hr
  clear hL HF hr
  go_enter Tryz.func39, Tryz.ntmps39
  go_wp2_with fail
  go_loopw [5, 10] (fun v i wr => ∃ k : Nat, k ≤ n ∧ i = .int .i64 (k : Int) ∧ (rectsP p (lns (l.take k))).length ≤ k * 1000 ∧ wr.ownsRow w.heap.size 64 4 v (rectsP p (lns (l.take k))).length (rCells (rectsP p (lns (l.take k)))) ∧ Below w.heap.size w wr) (fun _ i _ => n - (intOf i).toNat)
  case atStart => exact ⟨0, Nat.zero_le _, rfl, by simp [rectsP, lns], by simp [rectsP, lns, rCells]; exact World.ownsRow_nil _ _ _ _, Below.refl _ _⟩
  case round =>
    obtain ⟨k, hk, rfl, hln, hown, hbw⟩ := hrel
    have Hbw := Lib.hid hbw
    have hsw := hbw.size
    have Hown := Lib.hid hown
    clear hown hbw
    by_cases hkn : k < n
    · have hkn' : (k : Int) < (n : Int) := by omega
      have hkl : k < l.length := by omega
      have hyr := Hr.out l[k] (List.getElem_mem hkl)
      obtain ⟨b, off, rfl, hbb, g0, g1, g2, g3, hS⟩ := (HL.out.below Hbw.out).at k hkl
      have Hts := Lib.hid (congrArg (rectsP p) (lns_take hkl))
      rw [rectsP_snoc] at Hts
      generalize l[k] = y at *
      obtain ⟨⟨ypc, yrg, ycr, ysch⟩, ⟨ya, yc⟩⟩ := y
      dsimp only at *
      have HS := Lib.hid hS
      have HFx := Lib.hid (fun W (hW : Below wr.heap.size wr W) => HFh.out W ⟨ypc, yrg, ycr, ysch⟩ ⟨ya, yc⟩ (Hbw.out.trans (hW.mono hsw)))
      dsimp only at HFx
      generalize rectsP p (lns (l.take k)) = Q at *
      clear hkl hS
      have hrow := heap_alloc_new wr (.cells #[.int .i64 ypc, .slice ya yrg.length yc, .int .i64 ycr, .int .i64 ysch] 38)
      have Hba : Hid (Below wr.heap.size wr (wr.alloc (.cells #[.int .i64 ypc, .slice ya yrg.length yc, .int .i64 ycr, .int .i64 ysch] 38))) := Lib.hid (by repeat' (first | with_reducible exact Below.refl _ _ | with_reducible refine below_drewN ?_ _ | with_reducible refine Below.drew ?_ | with_reducible refine Below.alloc ?_ ?_ _ | with_reducible refine Below.setCell ?_ ?_ _ | with_reducible refine Below.trans ?_ (Below.mono (by with_reducible assumption) ?_) | (simp; done) | (simp; omega) | omega))
      have hla : wr.heap.size < (wr.alloc (.cells #[.int .i64 ypc, .slice ya yrg.length yc, .int .i64 ycr, .int .i64 ysch] 38)).heap.size := by simp
      cases hp : p ⟨ypc, yrg, ycr, ysch⟩ with
      | true =>
        rw [hp, if_pos rfl] at Hts
        rw [hp] at HFx
        have HQ2 : Hid ((rectsP p (lns (l.take (k + 1)))).length ≤ (k + 1) * 1000) := Lib.hid (by rw [Hts.out, List.length_append]; omega)
        clear hp
        go_upto_region 5 with fail
        obtain ⟨T, hT⟩ : ∃ T, wr.heap.size = T := ⟨_, rfl⟩
        rw [hT] at hrow hla ⊢
        generalize wr.alloc (.cells #[.int .i64 ypc, .slice ya yrg.length yc, .int .i64 ycr, .int .i64 ysch] 38) = wa at *
        have a0 := cell_of_row wa T 0 _ _ _ hrow
        have a1 := cell_of_row wa T 1 _ _ _ hrow
        have a2 := cell_of_row wa T 2 _ _ _ hrow
        have a3 := cell_of_row wa T 3 _ _ _ hrow
        go_wp2_with (first
          | (go_at_fn f
             (go_loud (refine (HFx.out _ Hba.out).mono ?_))
             rintro e w4 ⟨rfl, hb4⟩
             have hrow4 := (hb4.block T hla).trans hrow
             have b1 := cell_of_row w4 T 1 _ _ _ hrow4
             have Hb4 : Hid (Below wr.heap.size wr w4) := Lib.hid (Hba.out.trans (hb4.mono (by omega)))
             have HS4 := Lib.hid (HS.out.below Hb4.out)
             have Hown4 := Lib.hid (ownsRow_below Hown.out Hb4.out)
             have hs4 := Hb4.out.size
             clear hb4 hrow4 a0 a1 a2 a3)
          | (at_builtin
             refine wpList_append_any _ rfl (.tmp 17) (.tmp 20) _ rfl w.heap.size 64 i0 _ 4 32 Tryz.underlying31 hi hz0 hz1 hz2 rfl (by omega) _ Q.length (rCells Q) rfl
               Hown4.out _ _ yrg.length yc (rCells yrg) rfl HS4.out.rds (rCells_one _) (by simp only [maxLen]; omega) (by omega) (by omega) ?_
             intro v5 w5 hown5 hg5 hat5)
          | fail)
        go_roundw
        case rel => exact ⟨k + 1, by omega, by go_num, HQ2.out, by rw [Hts.out, List.length_append, rCells_app]; exact hown5, Below.grown (Hbw.out.trans (Hb4.out.mono hsw)) hg5 (by omega) (own_base Hown.out)⟩
        case measure => simp [intOf]; omega
      | false =>
        rw [hp, if_neg (by simp)] at Hts
        rw [hp] at HFx
        have HQ2 : Hid ((rectsP p (lns (l.take (k + 1)))).length ≤ (k + 1) * 1000) := Lib.hid (by rw [Hts.out]; omega)
        clear hp
        go_upto_region 5 with fail
        obtain ⟨T, hT⟩ : ∃ T, wr.heap.size = T := ⟨_, rfl⟩
        rw [hT] at hrow hla ⊢
        generalize wr.alloc (.cells #[.int .i64 ypc, .slice ya yrg.length yc, .int .i64 ycr, .int .i64 ysch] 38) = wa at *
        have a0 := cell_of_row wa T 0 _ _ _ hrow
        have a1 := cell_of_row wa T 1 _ _ _ hrow
        have a2 := cell_of_row wa T 2 _ _ _ hrow
        have a3 := cell_of_row wa T 3 _ _ _ hrow
        go_wp2_with (first
          | (go_at_fn f
             (go_loud (refine (HFx.out _ Hba.out).mono ?_))
             rintro e w4 ⟨rfl, hb4⟩
             have Hb4 : Hid (Below wr.heap.size wr w4) := Lib.hid (Hba.out.trans (hb4.mono (by omega)))
             clear hb4 a0 a1 a2 a3)
          | fail)
        go_roundw
        case rel => exact ⟨k + 1, by omega, by go_num, HQ2.out, by rw [Hts.out]; exact ownsRow_below Hown.out Hb4.out, Hbw.out.trans (Hb4.out.mono hsw)⟩
        case measure => simp [intOf]; omega
    · obtain rfl : k = n := by omega
      have hkn' : ¬ (k : Int) < (k : Int) := by omega
      rw [List.take_of_length_le (by omega : l.length ≤ k)] at Hown
      go_wp2
      go_ret
      exact ⟨_, rfl, Hown.out, Hbw.out⟩

/-- What Limited and Joined return. -/
def limP (l : List R4) : List R4 × Int := if 120 < l.length then ([], 1) else (l, 0)
theorem joined_any (A : Option Addr) (n c : Nat) (l : List R4) (w : World) (hA : SlR w A n c l) (hn1 : n ≤ 1500) (hl : ∀ q ∈ l, q.l < q.r) :
    Calls Tryz.prog 38 #[.slice A n c] w (RegPost w (limP (canonP l))) := by
  have HC := Lib.hid (fun W (hW : Below w.heap.size w W) => canonical_any A n c l W (hA.below hW) hn1 hl)
  generalize canonP l = k at *
  clear hA hl
  by_cases hk : 120 < k.length
  · have e0 : limP k = ([], 1) := by unfold limP; rw [if_pos hk]
    rw [e0]
    clear e0
    go_enter Tryz.func38, Tryz.ntmps38
    go_wp2_with (first
      | (go_at_call 69; refine (HC.out _ (by repeat' (first | with_reducible exact Below.refl _ _ | with_reducible refine below_drewN ?_ _ | with_reducible refine Below.drew ?_ | with_reducible refine Below.alloc ?_ ?_ _ | with_reducible refine Below.setCell ?_ ?_ _ | with_reducible refine Below.trans ?_ (Below.mono (by with_reducible assumption) ?_) | (simp; done) | (simp; omega) | omega))).mono ?_; rintro e w2 ⟨v2, rfl, hown2, hb2⟩; have hr2 : w2.heap[w.heap.size]? = some (.cells #[.slice none 0 0] 33 (0, 0)) := (hb2.block _ (by simp)).trans (heap_alloc_new w _); have Hr2 := Lib.hid hr2; have hs2 : w.heap.size < w2.heap.size := (by have := hb2.size; simp at this; omega); obtain ⟨C, cc, rfl, -⟩ := SlR.of_own hown2; have Hb2 : Hid (Below w.heap.size w w2) := Lib.hid (show Below w.heap.size w w2 from (by have hbq := hb2; exact (by repeat' (first | with_reducible exact Below.refl _ _ | with_reducible assumption | with_reducible refine below_drewN ?_ _ | with_reducible refine Below.drew ?_ | with_reducible refine Below.alloc ?_ ?_ _ | with_reducible refine Below.setCell ?_ ?_ _ | with_reducible refine Below.trans ?_ (Below.mono (by with_reducible assumption) ?_) | with_reducible refine below_only ?_ (by with_reducible assumption) ?_ ?_ | (simp; done) | (simp; omega) | omega)))); clear hown2 hb2 hr2)
      | (go_at_call 44; refine (limited_big C k.length cc _ hk).mono ?_; rintro e w3 ⟨rfl, hb3⟩; have hr3 : w3.heap[w.heap.size]? = some (.cells #[.slice none 0 0] 33 (0, 0)) := (hb3.block _ hs2).trans Hr2.out; have cr3 := cell_of_row w3 w.heap.size 0 _ _ _ hr3; have fr3 := frozen_of_row w3 w.heap.size 0 _ _ hr3; have csame : (w3.setCell ⟨w.heap.size, 0, none⟩ (.slice none 0 0)).cell? ⟨w.heap.size, 0, none⟩ = some (.slice none 0 0) := (by rw [cell_of_row _ w.heap.size 0 _ _ _ (heap_setCell_same w3 w.heap.size 0 _ _ _ hr3)]; simp); have Hb3 := Lib.hid hb3; clear hb3 hr3)
      | fail)
    refine bodyPost_ret (v := .tuple #[.agg #[.slice none 0 0], .int .i64 1]) (by simp [results, Tryz.results38, go_sem, *]) rfl ?_
    exact ⟨_, rfl, World.ownsRow_nil _ _ _ _, (Hb2.out.trans (Hb3.out.mono (Nat.le_of_lt hs2))).setCell (Nat.le_refl _) _⟩
  · have e0 : limP k = (k, 0) := by unfold limP; rw [if_neg hk]
    rw [e0]
    clear e0
    have hk' : k.length ≤ 120 := by omega
    go_enter Tryz.func38, Tryz.ntmps38
    go_wp2_with (first
      | (go_at_call 69; refine (HC.out _ (by repeat' (first | with_reducible exact Below.refl _ _ | with_reducible refine below_drewN ?_ _ | with_reducible refine Below.drew ?_ | with_reducible refine Below.alloc ?_ ?_ _ | with_reducible refine Below.setCell ?_ ?_ _ | with_reducible refine Below.trans ?_ (Below.mono (by with_reducible assumption) ?_) | (simp; done) | (simp; omega) | omega))).mono ?_; rintro e w2 ⟨v2, rfl, hown2, hb2⟩; have hr2 : w2.heap[w.heap.size]? = some (.cells #[.slice none 0 0] 33 (0, 0)) := (hb2.block _ (by simp)).trans (heap_alloc_new w _); have Hr2 := Lib.hid hr2; have hs2 : w.heap.size < w2.heap.size := (by have := hb2.size; simp at this; omega); obtain ⟨C, cc, rfl, -⟩ := SlR.of_own hown2; have Hown2 := Lib.hid hown2; have Hb2 : Hid (Below w.heap.size w w2) := Lib.hid (show Below w.heap.size w w2 from (by have hbq := hb2; exact (by repeat' (first | with_reducible exact Below.refl _ _ | with_reducible assumption | with_reducible refine below_drewN ?_ _ | with_reducible refine Below.drew ?_ | with_reducible refine Below.alloc ?_ ?_ _ | with_reducible refine Below.setCell ?_ ?_ _ | with_reducible refine Below.trans ?_ (Below.mono (by with_reducible assumption) ?_) | with_reducible refine below_only ?_ (by with_reducible assumption) ?_ ?_ | (simp; done) | (simp; omega) | omega)))); clear hown2 hb2 hr2)
      | (go_at_call 44; refine (limited_ok C k.length cc _ hk').mono ?_; rintro e w3 ⟨rfl, hb3⟩; have hr3 : w3.heap[w.heap.size]? = some (.cells #[.slice none 0 0] 33 (0, 0)) := (hb3.block _ hs2).trans Hr2.out; have cr3 := cell_of_row w3 w.heap.size 0 _ _ _ hr3; have fr3 := frozen_of_row w3 w.heap.size 0 _ _ hr3; have csame : (w3.setCell ⟨w.heap.size, 0, none⟩ (.slice C k.length cc)).cell? ⟨w.heap.size, 0, none⟩ = some (.slice C k.length cc) := (by rw [cell_of_row _ w.heap.size 0 _ _ _ (heap_setCell_same w3 w.heap.size 0 _ _ _ hr3)]; simp); have Hown3 := Lib.hid (ownsRow_below Hown2.out hb3); have Hb3 := Lib.hid hb3; clear hb3 hr3)
      | fail)
    refine bodyPost_ret (v := .tuple #[.agg #[.slice C k.length cc], .int .i64 0]) (by simp [results, Tryz.results38, go_sem, *]) rfl ?_
    have hlow := own_base Hown3.out
    refine ⟨_, rfl, ?_, (Hb2.out.trans (Hb3.out.mono (Nat.le_of_lt hs2))).setCell (Nat.le_refl _) _⟩
    exact own_other (own_rebase Hown3.out (by simp)) (only_setCell (g := w.heap.size) (World.grownBy.refl _ _) (.inl rfl) _) (fun k hk e => by injection e with e; have := hlow k hk; simp at this; omega)
end Go.Proofs.YtglanlpjoaholaaGreat
