/- Contract: Fill (the reference's). -/
import Derived.Test.YtpcfhcdbibklcaaGreatAH
import Derived.Test.YtpcfhcdbibklcaaGreatAJ
namespace Go.Proofs.YtpcfhcdbibklcaaGreat
open Go.RowKit Go.Shelf
set_option linter.unusedVariables false
set_option linter.unusedSimpArgs false

set_option maxHeartbeats 0 in
set_option maxRecDepth 100000 in
theorem ringR_any (A : Option Addr) (n c : Nat) (r : List Pt) (w : World) (hA : SlPt w A n c r) :
    Calls Tryz.prog 23 #[.slice A n c] w fun e w' => e = .returned (.int .i64 (ringP r)) ∧ Below w.heap.size w w' := by
  rw [← ringRef_eq]
  have hn := hA.len
  have hcap := hA.cap
  have htop := hA.top
  have HA := Lib.hid hA
  clear hA
  unfold ringRef
  rw [hn]
  by_cases hs4 : n < 4
  · have hs4' : (n : Int) < 4 := by omega
    rw [if_pos hs4]
    go_enter Tryz.func23, Tryz.ntmps23
    go_wp2
    go_ret
    exact ⟨rfl, (by repeat' (first | with_reducible exact Below.refl _ _ | with_reducible refine below_drewN ?_ _ | with_reducible refine Below.drew ?_ | with_reducible refine Below.alloc ?_ ?_ _ | with_reducible refine Below.setCell ?_ ?_ _ | with_reducible refine Below.trans ?_ (Below.mono (by with_reducible assumption) ?_) | (simp; done) | (simp; omega) | omega))⟩
  have hs4' : ¬ (n : Int) < 4 := by omega
  rw [if_neg hs4]
  by_cases hb4 : 400 < n
  · have hb4' : (400 : Int) < (n : Int) := by omega
    rw [if_pos hb4]
    go_enter Tryz.func23, Tryz.ntmps23
    go_wp2
    go_ret
    exact ⟨rfl, (by repeat' (first | with_reducible exact Below.refl _ _ | with_reducible refine below_drewN ?_ _ | with_reducible refine Below.drew ?_ | with_reducible refine Below.alloc ?_ ?_ _ | with_reducible refine Below.setCell ?_ ?_ _ | with_reducible refine Below.trans ?_ (Below.mono (by with_reducible assumption) ?_) | (simp; done) | (simp; omega) | omega))⟩
  have hb4' : ¬ (400 : Int) < (n : Int) := by omega
  rw [if_neg hb4]
  obtain ⟨R, hR⟩ : ∃ R : Int, (if r.all ptOk = false then 2 else if n % 2 ≠ 0 then 8 else if (List.range n).all (fun i => !badR r i) then 0 else 8) = R := ⟨_, rfl⟩
  rw [hR]
  have HR2 : Hid (∀ j (h : j < r.length), ptOk r[j] = false → R = 2) := Lib.hid fun j h hf => by
    rw [← hR, if_pos]
    rw [← Bool.not_eq_true, List.all_eq_true]
    intro ha
    rw [ha _ (List.getElem_mem h)] at hf
    cases hf
  have HRn : Hid ((∀ j (h : j < r.length), ptOk r[j] = true) → R = if n % 2 ≠ 0 then 8 else if (List.range n).all (fun i => !badR r i) then 0 else 8) := Lib.hid fun ha => by
    rw [← hR, if_neg]
    rw [Bool.not_eq_false, List.all_eq_true]
    intro p hp
    obtain ⟨j, h, rfl⟩ := List.mem_iff_getElem.1 hp
    exact ha j h
  clear hR
  go_enter Tryz.func23, Tryz.ntmps23
  go_upto_region 6 with fail
  go_wp2
  go_loopw [18] (fun iv wr => ∃ k : Nat, k ≤ n ∧ iv = .int .i64 (k : Int) ∧ Hid (∀ j (h : j < r.length), j < k → ptOk r[j] = true) ∧ Below w.heap.size w wr) (fun iv _ => n - (intOf iv).toNat)
  case atStart => exact ⟨0, Nat.zero_le _, rfl, Lib.hid (fun j _ h => absurd h (by omega)), Below.refl _ _⟩
  case round =>
    obtain ⟨k, hk, rfl, HO, hbw⟩ := hrel
    have Hbw := Lib.hid hbw
    have hsw := hbw.size
    clear hbw
    by_cases hkn : k < n
    · have hkn' : (k : Int) < (n : Int) := by omega
      have hkl : k < r.length := by omega
      have hk0 : (0 : Int) ≤ (k : Int) := by omega
      have hw1 : IntKind.i64.wrap ((k : Int) + 1) = (k : Int) + 1 := IntWalk.i64_in _ (by omega)
      obtain ⟨b, off, e1, hb, p0, p1⟩ := (HA.out.below Hbw.out).at k hkl
      subst e1
      have HB : Hid (ptOk r[k] = false → R = 2) := Lib.hid (HR2.out k hkl)
      have HOk : Hid (ptOk r[k] = true → ∀ j (h : j < r.length), j < k + 1 → ptOk r[j] = true) := Lib.hid (fun hp j h hj => by
        rcases Nat.lt_or_ge j k with h1 | h1
        · exact HO.out j h h1
        · have : j = k := by omega
          subst this
          exact hp)
      generalize r[k] = p at *
      obtain ⟨px, py⟩ := p
      dsimp only at *
      by_cases h1 : px < 0
      · have hR2 : R = 2 := HB.out (by simp [ptOk]; omega)
        subst hR2
        go_wp2
        go_ret
        exact ⟨rfl, Hbw.out.alloc hsw _⟩
      by_cases h2 : 16384 < px
      · have hR2 : R = 2 := HB.out (by simp [ptOk]; omega)
        subst hR2
        go_wp2
        go_ret
        exact ⟨rfl, Hbw.out.alloc hsw _⟩
      by_cases h3 : py < 0
      · have hR2 : R = 2 := HB.out (by simp [ptOk]; omega)
        subst hR2
        go_wp2
        go_ret
        exact ⟨rfl, Hbw.out.alloc hsw _⟩
      by_cases h4 : 16384 < py
      · have hR2 : R = 2 := HB.out (by simp [ptOk]; omega)
        subst hR2
        go_wp2
        go_ret
        exact ⟨rfl, Hbw.out.alloc hsw _⟩
      have HO2 := Lib.hid (HOk.out (by simp [ptOk]; omega))
      go_wp2
      go_roundw
      case rel => exact ⟨k + 1, by omega, by go_num, HO2, Hbw.out.alloc hsw _⟩
      case measure => simp [intOf]; omega
    · obtain rfl : k = n := by omega
      have hkn' : ¬ (k : Int) < (k : Int) := by omega
      have hRn := HRn.out (fun j h => HO.out j h (by omega))
      clear HO HR2 HRn
      have hrem2 : (k : Int).tmod 2 = ((k % 2 : Nat) : Int) := (Int.ofNat_tmod k 2).symm
      by_cases he : k % 2 ≠ 0
      · have he1 : k % 2 = 1 := by omega
        rw [if_pos he] at hRn
        rw [he1] at hrem2
        have hrem3 : (k : Int).tmod 2 = 1 := hrem2
        subst hRn
        go_wp2
        go_ret
        exact ⟨rfl, Hbw.out⟩
      have he1 : k % 2 = 0 := by omega
      rw [if_neg he] at hRn
      rw [he1] at hrem2
      have hrem3 : (k : Int).tmod 2 = 0 := hrem2
      have HR0 : Hid ((∀ j, j < k → badR r j = false) → R = 0) := Lib.hid fun h => by
        rw [hRn, if_pos]
        rw [List.all_eq_true]
        intro j hj
        rw [h j (List.mem_range.1 hj)]
        rfl
      have HR8 : Hid (∀ j, j < k → badR r j = true → R = 8) := Lib.hid fun j hj h => by
        rw [hRn, if_neg]
        intro e
        have := List.all_eq_true.1 e j (List.mem_range.2 hj)
        rw [h] at this
        cases this
      clear hRn he hrem2
      have HN := Lib.hid hn
      obtain ⟨wo, hwo⟩ : ∃ wo : World, wo = wr := ⟨_, rfl⟩
      rw [← hwo] at Hbw hsw ⊢
      clear hwo
      have HAo := Lib.hid (HA.out.below Hbw.out)
      go_upto_region 14 with fail
      go_wp2
      go_loopw [47] (fun iv wr => ∃ i : Nat, i ≤ k ∧ iv = .int .i64 (i : Int) ∧ Hid (∀ j, j < i → badR r j = false) ∧ Below wo.heap.size wo wr) (fun iv _ => k - (intOf iv).toNat)
      case atStart => exact ⟨0, Nat.zero_le _, rfl, Lib.hid (fun j h => absurd h (by omega)), Below.refl _ _⟩
      case round =>
        obtain ⟨i, hi, rfl, HG, hbk⟩ := hrel
        have Hbk := Lib.hid hbk
        have hsk := hbk.size
        clear hbk
        by_cases hik : i < k
        · have hkM' : (i : Int) < (k : Int) := by omega
          have hkl : i < r.length := by omega
          have hM0 : 0 < k := by omega
          obtain ⟨x, hx⟩ : ∃ x, (i + 1) % k = x := ⟨_, rfl⟩
          have hxM : x < k := by rw [← hx]; exact Nat.mod_lt _ hM0
          have hxl : x < r.length := by omega
          have hrem := rem_succ i k
          rw [hx] at hrem
          have hw1 : IntKind.i64.wrap ((i : Int) + 1) = (i : Int) + 1 := IntWalk.i64_in _ (by omega)
          have hxM' : (x : Int) < (k : Int) := by omega
          have hnz : ¬ (k : Int) = 0 := by omega
          have hnz' : ¬ k = 0 := by omega
          have hwx : IntKind.i64.wrap (x : Int) = (x : Int) := IntWalk.i64_in _ (by omega)
          have hwr : IntKind.i64.wrap (((i : Int) + 1).tmod (k : Int)) = (x : Int) := by rw [hrem]; exact hwx
          have hx0 : (0 : Int) ≤ (x : Int) := by omega
          have hk0 : (0 : Int) ≤ (i : Int) := by omega
          obtain ⟨pb, po, e1, hb0, p0, p1⟩ := (HAo.out.below Hbk.out).at i hkl
          obtain ⟨_, _, e2, -, q0, q1⟩ := (HAo.out.below Hbk.out).at x hxl
          obtain ⟨_, _, e3, -, z0, z1⟩ := (HAo.out.below Hbk.out).at 0 (by omega)
          obtain ⟨_, _, e4, -, y0, y1⟩ := (HAo.out.below Hbk.out).at 1 (by omega)
          subst e1
          injection e2 with e2
          injection e2 with e2 e2'
          subst e2 e2'
          injection e3 with e3
          injection e3 with e3 e3'
          subst e3 e3'
          injection e4 with e4
          injection e4 with e4 e4'
          subst e4 e4'
          have HBad : Hid (badR r i = badB (decide (i % 2 = 0)) (decide ((r[0]'(by omega)).2 = (r[1]'(by omega)).2)) (lvlR r[i] r[x]) (uprR r[i] r[x])) := Lib.hid (by
            have g1 : at0 r i = r[i] := at0_lt r hkl
            have g2 : at0 r (i + 1) = r[x] := by rw [← at0_mod, HN.out, hx, at0_lt r hxl]
            have g3 : at0 r 0 = r[0]'(by omega) := at0_lt r (by omega)
            have g4 : at0 r 1 = r[1]'(by omega) := at0_lt r (by omega)
            unfold badR
            rw [g1, g2, g3, g4]
            rfl)
          generalize r[i] = pk at *
          generalize r[x] = px at *
          generalize r[0]'(by omega) = pz at *
          generalize r[1]'(by omega) = py at *
          obtain ⟨ax, ay⟩ := pk
          obtain ⟨bx, by'⟩ := px
          obtain ⟨zx, zy⟩ := pz
          obtain ⟨yx, yy⟩ := py
          dsimp only at *
          clear hx z0 y0
          have hbr : pb < wr.heap.size := by omega
          have HZ : Hid (∀ wy, Below wr.heap.size wr wy → wy.cell? ⟨pb, po + 0 * 2 + 1, none⟩ = some (.int .i64 zy) ∧ wy.cell? ⟨pb, po + 1 * 2 + 1, none⟩ = some (.int .i64 yy)) := Lib.hid (fun wy hy => ⟨(hy.cell (p := ⟨pb, po + 0 * 2 + 1, none⟩) hbr).trans z1, (hy.cell (p := ⟨pb, po + 1 * 2 + 1, none⟩) hbr).trans y1⟩)
          clear z1 y1
          have HRf := Lib.hid hrem3
          clear hrem3
          go_upto_region 16 with fail
          go_cut [6, 7] (fun s17 s18 wx => ∃ b1 b2 : Nat, s17 = .pointer (some ⟨b1, 0, none⟩) ∧ s18 = .pointer (some ⟨b2, 0, none⟩) ∧ wx.heap[b1]? = some (.cells #[.int .i64 ax, .int .i64 ay] 43 (0, 0)) ∧ wx.heap[b2]? = some (.cells #[.int .i64 bx, .int .i64 by'] 43 (0, 0)) ∧ Below wr.heap.size wr wx)
          case first =>
            have HSb : Hid (∀ wy, Below wr.heap.size wr wy → (fun wy => wy.cell? ⟨pb, po + i * 2, none⟩ = some (.int .i64 ax) ∧ wy.cell? ⟨pb, po + i * 2 + 1, none⟩ = some (.int .i64 ay) ∧ wy.cell? ⟨pb, po + x * 2, none⟩ = some (.int .i64 bx) ∧ wy.cell? ⟨pb, po + x * 2 + 1, none⟩ = some (.int .i64 by')) wy) := Lib.hid (fun wy hy => ⟨(hy.cell (p := ⟨pb, po + i * 2, none⟩) hbr).trans p0, (hy.cell (p := ⟨pb, po + i * 2 + 1, none⟩) hbr).trans p1, (hy.cell (p := ⟨pb, po + x * 2, none⟩) hbr).trans q0, (hy.cell (p := ⟨pb, po + x * 2 + 1, none⟩) hbr).trans q1⟩)
            clear p0 p1 q0 q1
            refine wp_region_noPanic ?_
            refine wp_region_held_drew (S := fun wy => wy.cell? ⟨pb, po + i * 2, none⟩ = some (.int .i64 ax) ∧ wy.cell? ⟨pb, po + i * 2 + 1, none⟩ = some (.int .i64 ay) ∧ wy.cell? ⟨pb, po + x * 2, none⟩ = some (.int .i64 bx) ∧ wy.cell? ⟨pb, po + x * 2 + 1, none⟩ = some (.int .i64 by')) (by kernel_rfl) (HSb.out _ (by repeat' (first | with_reducible exact Below.refl _ _ | with_reducible refine below_drewN ?_ _ | with_reducible refine Below.drew ?_ | with_reducible refine Below.alloc ?_ ?_ _ | with_reducible refine Below.setCell ?_ ?_ _ | with_reducible refine Below.trans ?_ (Below.mono (by with_reducible assumption) ?_) | (simp; done) | (simp; omega) | omega))) (fun hHeld => ?_)
            refine wpAnyH_take (i := 0) (v := ?vva0) rfl (by kernel_rfl) (by kernel_rfl) (by kernel_rfl) (fun _ _ _ h => h) (Or.inl ⟨by rfl, ?hya0⟩) hHeld ?resta0; (case hya0 => (intro w hSw; (try dsimp only at hSw); go_simp; all_goals (with_reducible rfl))); simp only [Act.put, List.setIfInBounds_toArray, List.set_cons_zero, List.set_cons_succ]
            refine wpAnyH_take (i := 1) (v := ?vva1) rfl (by kernel_rfl) (by kernel_rfl) (by kernel_rfl) (fun _ _ _ h => h) (Or.inl ⟨by rfl, ?hya1⟩) hHeld ?resta1; (case hya1 => (intro w hSw; (try dsimp only at hSw); go_simp; all_goals (with_reducible rfl))); simp only [Act.put, List.setIfInBounds_toArray, List.set_cons_zero, List.set_cons_succ]
            refine wpAnyH_take (i := 2) (v := ?vva2) rfl (by kernel_rfl) (by kernel_rfl) (by kernel_rfl) (fun _ _ _ h => h) (Or.inl ⟨by rfl, ?hya2⟩) hHeld ?resta2; (case hya2 => (intro w hSw; (try dsimp only at hSw); go_simp; all_goals (with_reducible rfl))); simp only [Act.put, List.setIfInBounds_toArray, List.set_cons_zero, List.set_cons_succ]
            refine wpAnyH_take (i := 3) (v := ?vva3) rfl (by kernel_rfl) (by kernel_rfl) (by kernel_rfl) (fun _ _ _ h => h) (Or.inl ⟨by rfl, ?hya3⟩) hHeld ?resta3; (case hya3 => (intro w hSw; (try dsimp only at hSw); go_simp; all_goals (with_reducible rfl))); simp only [Act.put, List.setIfInBounds_toArray, List.set_cons_zero, List.set_cons_succ]
            refine wpAnyH_take (i := 4) (v := ?vva4) rfl (by kernel_rfl) (by kernel_rfl) (by kernel_rfl) (fun _ _ _ h => h) (Or.inl ⟨by rfl, ?hya4⟩) hHeld ?resta4; (case hya4 => (intro w hSw; (try dsimp only at hSw); go_simp; all_goals (with_reducible rfl))); simp only [Act.put, List.setIfInBounds_toArray, List.set_cons_zero, List.set_cons_succ]
            refine wpAnyH_take (i := 5) (v := ?vva5) rfl (by kernel_rfl) (by kernel_rfl) (by kernel_rfl) (fun _ _ _ h => h) (Or.inl ⟨by rfl, ?hya5⟩) hHeld ?resta5; (case hya5 => (intro w hSw; (try dsimp only at hSw); go_simp; all_goals (with_reducible rfl))); simp only [Act.put, List.setIfInBounds_toArray, List.set_cons_zero, List.set_cons_succ]
            refine wpAnyH_take (i := 6) (v := ?vva6) rfl (by kernel_rfl) (by kernel_rfl) (by kernel_rfl) (fun _ _ _ h => h) (Or.inl ⟨by rfl, ?hya6⟩) hHeld ?resta6; (case hya6 => (intro w hSw; (try dsimp only at hSw); go_simp; all_goals (with_reducible rfl))); simp only [Act.put, List.setIfInBounds_toArray, List.set_cons_zero, List.set_cons_succ]
            refine wpAnyH_take (i := 7) (v := ?vva7) rfl (by kernel_rfl) (by kernel_rfl) (by kernel_rfl) (fun _ _ _ h => h) (Or.inl ⟨by rfl, ?hya7⟩) hHeld ?resta7; (case hya7 => (intro w hSw; (try dsimp only at hSw); go_simp; all_goals (with_reducible rfl))); simp only [Act.put, List.setIfInBounds_toArray, List.set_cons_zero, List.set_cons_succ]
            refine wpAnyH_take (i := 8) (v := ?vva8) rfl (by kernel_rfl) (by kernel_rfl) (by kernel_rfl) (fun _ _ _ h => h) (Or.inl ⟨by rfl, ?hya8⟩) hHeld ?resta8; (case hya8 => (intro w hSw; (try dsimp only at hSw); go_simp; all_goals (with_reducible rfl))); simp only [Act.put, List.setIfInBounds_toArray, List.set_cons_zero, List.set_cons_succ]
            refine wpAnyH_take (i := 9) (v := ?vva9) rfl (by kernel_rfl) (by kernel_rfl) (by kernel_rfl) (fun _ _ _ h => h) (Or.inl ⟨by rfl, ?hya9⟩) hHeld ?resta9; (case hya9 => (intro w hSw; (try dsimp only at hSw); go_simp; all_goals (with_reducible rfl))); simp only [Act.put, List.setIfInBounds_toArray, List.set_cons_zero, List.set_cons_succ]
            refine wpAnyH_take (i := 10) (v := ?vva10) rfl (by kernel_rfl) (by kernel_rfl) (by kernel_rfl) (fun _ _ _ h => h) (Or.inl ⟨by rfl, ?hya10⟩) hHeld ?resta10; (case hya10 => (intro w hSw; (try dsimp only at hSw); go_simp; all_goals (with_reducible rfl))); simp only [Act.put, List.setIfInBounds_toArray, List.set_cons_zero, List.set_cons_succ]
            refine wpAnyH_take (i := 11) (v := ?vva11) rfl (by kernel_rfl) (by kernel_rfl) (by kernel_rfl) (fun _ _ _ h => h) (Or.inl ⟨by rfl, ?hya11⟩) hHeld ?resta11; (case hya11 => (intro w hSw; (try dsimp only at hSw); go_simp; all_goals (with_reducible rfl))); simp only [Act.put, List.setIfInBounds_toArray, List.set_cons_zero, List.set_cons_succ]
            refine allocs_any2 (.cells #[.int .i64 0, .int .i64 0] 43) wr.drew [(12, 6), (13, 7)] 2 _ _ (by decide) (by decide) ?hop (by kernel_rfl) (fun wy hy => ?hsk) hHeld ?hrest
            case hop =>
              intro it hit K a0 wy hK
              simp only [List.mem_cons, List.not_mem_nil, or_false] at hit
              rcases hit with rfl | rfl
              all_goals
                refine wpOp_step rfl (fun K' hK' => ?_)
                go_simp
                exact hK' _ _ hK
            case hsk =>
              obtain ⟨h1, h2, h3, h4⟩ := hy
              exact ⟨(World.cell?_alloc_some _ _ _ (by rw [h1]; rfl)).trans h1, (World.cell?_alloc_some _ _ _ (by rw [h2]; rfl)).trans h2, (World.cell?_alloc_some _ _ _ (by rw [h3]; rfl)).trans h3, (World.cell?_alloc_some _ _ _ (by rw [h4]; rfl)).trans h4⟩
            case hrest =>
              intro β wy hby hβ hinj hHeld
              have f1 : wr.heap.size ≤ β 12 ∧ _ := hβ (12, 6) (by simp)
              have f2 : wr.heap.size ≤ β 13 ∧ _ := hβ (13, 7) (by simp)
              obtain ⟨f1, p1⟩ := f1
              obtain ⟨f2, p2⟩ := f2
              have n12 : β 12 ≠ β 13 := fun e => by have := hinj (12, 6) (by simp) (13, 7) (by simp) e; simp at this
              have Hbx : Hid (Below wr.heap.size wr wy) := Lib.hid ((Below.refl _ wr).drew.trans hby)
              clear hβ hinj hby
              simp only [List.map_cons, List.map_nil, setAll, putAll, List.foldl_cons, List.foldl_nil, Act.put, List.setIfInBounds_toArray, List.set_cons_zero, List.set_cons_succ]
              simp only at p1 p2
              have P1 := Lib.hid p1
              have P2 := Lib.hid p2
              have m12 := n12.symm
              have a10 := cell_of_row wy (β 12) 0 _ _ _ p1
              have z10 := frozen_of_row wy (β 12) 0 _ _ p1
              have a11 := cell_of_row wy (β 12) 1 _ _ _ p1
              have z11 := frozen_of_row wy (β 12) 1 _ _ p1
              have a20 := cell_of_row wy (β 13) 0 _ _ _ p2
              have z20 := frozen_of_row wy (β 13) 0 _ _ p2
              have a21 := cell_of_row wy (β 13) 1 _ _ _ p2
              have z21 := frozen_of_row wy (β 13) 1 _ _ p2
              clear p1 p2
              refine wpAnyH_ready (rs := [14]) (by kernel_rfl) (by simp) ?_; refine AllReadyH.cons rfl (fun K hK => ?_) AllReadyH.nil
              go_simp
              refine hK.out _ _ (HSb.out _ (by have hbx := Hbx.out; repeat' (first | with_reducible exact hbx | with_reducible refine Below.setCell ?_ ?_ _ | with_reducible assumption))) (fun hHeld => ?_)
              clear hK K
              (try simp only [Act.put, List.setIfInBounds_toArray, List.set_cons_zero, List.set_cons_succ])
              refine wpAnyH_ready (rs := [15]) (by kernel_rfl) (by simp) ?_; refine AllReadyH.cons rfl (fun K hK => ?_) AllReadyH.nil
              go_simp
              refine hK.out _ _ (HSb.out _ (by have hbx := Hbx.out; repeat' (first | with_reducible exact hbx | with_reducible refine Below.setCell ?_ ?_ _ | with_reducible assumption))) (fun hHeld => ?_)
              clear hK K
              (try simp only [Act.put, List.setIfInBounds_toArray, List.set_cons_zero, List.set_cons_succ])
              refine wpAnyH_done (by kernel_rfl) ?_ _
              refine NoPanic.normal ?_
              go_wp2
              go_meet
              case rel =>
                obtain ⟨q1, q2⟩ := fill2_at (x := .int .i64 ax) (x' := .int .i64 bx) (y := .int .i64 ay) (y' := .int .i64 by') n12 P1.out P2.out
                exact ⟨β 12, β 13, rfl, rfl, q1, q2, ((((Hbx.out.setCell f1 _).setCell f1 _).setCell f2 _).setCell f2 _)⟩
          case rest =>
            obtain ⟨wx, rfl⟩ : ∃ wx : World, wx = wc := ⟨_, rfl⟩
            obtain ⟨b1, b2, rfl, rfl, g1, g2, hbx⟩ := hcut
            have Hbx : Hid (Below wo.heap.size wo wx) := Lib.hid (Hbk.out.trans (hbx.mono hsk))
            have a10 := cell_of_row wx b1 0 _ _ _ g1
            have a11 := cell_of_row wx b1 1 _ _ _ g1
            have a20 := cell_of_row wx b2 0 _ _ _ g2
            have a21 := cell_of_row wx b2 1 _ _ _ g2
            obtain ⟨z1, y1⟩ := HZ.out _ hbx
            rw [Nat.zero_mul, Nat.add_zero] at z1
            rw [Nat.one_mul] at y1
            clear g1 g2 hbx p0 p1 q0 q1 HZ
            have h0k : (0 : Int) < (k : Int) := by omega
            have h0k' : 0 < k := by omega
            have h1k : (1 : Int) < (k : Int) := by omega
            have h1k' : 1 < k := by omega
            have HG2 : Hid (badR r i = false → ∀ j, j < i + 1 → badR r j = false) := Lib.hid (fun h j hj => by
              rcases Nat.lt_or_ge j i with h1 | h1
              · exact HG.out j h1
              · have : j = i := by omega
                subst this
                exact h)
            have HE8 : Hid (badR r i = true → R = 8) := Lib.hid (HR8.out i hik)
            have hri : (i : Int).tmod 2 = ((i % 2 : Nat) : Int) := (Int.ofNat_tmod i 2).symm
            have hwi : IntKind.i64.wrap (0 : Int) = 0 := rfl
            have hwj : IntKind.i64.wrap (1 : Int) = 1 := rfl
            have Hw1 := Lib.hid hw1
            clear hrem hwr hwx hnz hnz' hx0 hw1
            rcases Nat.mod_two_eq_zero_or_one i with hp | hp
            all_goals
              rw [hp] at hri HBad
              first
                | have hrj : (i : Int).tmod 2 = 0 := hri
                | have hrj : (i : Int).tmod 2 = 1 := hri
              clear hri
              by_cases hY : ay = by'
              all_goals
                first
                  | have hYn : (ay != by') = false := by simp [hY]
                  | have hYn : (ay != by') = true := by simp [hY]
                by_cases hX : ax = bx
                all_goals
                  first
                    | have hXn : (ax != bx) = false := by simp [hX]
                    | have hXn : (ax != bx) = true := by simp [hX]
                  by_cases hD : zy = yy
                  all_goals
                    cases hbd : badR r i
                    all_goals try (exfalso; rw [HBad.out] at hbd; simp [badB, lvlR, uprR, hY, hX, hD] at hbd; done)
            all_goals clear HBad
            all_goals try have hDn : (zy == yy) = false := by simp [hD]
            all_goals go_upto_region 19 with fail
            all_goals clear a10 a11 a20 a21
            all_goals go_quiet (fail)
            all_goals first
              | (have HG3 := Lib.hid (HG2.out hbd)
                 have hw1 := Hw1.out
                 go_wp2
                 go_roundw
                 case rel => exact ⟨i + 1, by omega, by go_num, HG3, below_drewN Hbx.out _⟩
                 case measure => simp [intOf]; omega)
              | (have hR8 := HE8.out hbd
                 subst hR8
                 go_wp2
                 go_ret
                 exact ⟨rfl, below_drewN (Hbw.out.trans (Hbx.out.mono hsw)) _⟩)
        · obtain rfl : i = k := by omega
          have hik' : ¬ (i : Int) < (i : Int) := by omega
          have hR0 : R = 0 := HR0.out HG.out
          subst hR0
          go_wp2
          go_ret
          exact ⟨rfl, Hbw.out.trans (Hbk.out.mono hsw)⟩
end Go.Proofs.YtpcfhcdbibklcaaGreat
namespace Go.Proofs.YtpcfhcdbibklcaaGreat
open Go.RowKit Go.Shelf
set_option linter.unusedVariables false
set_option linter.unusedSimpArgs false

set_option maxHeartbeats 4000000 in
set_option maxRecDepth 100000 in
theorem signedR_of (HRing : ∀ (A : Option Addr) (n c : Nat) (r : List Pt) (w : World), SlPt w A n c r → Calls Tryz.prog 23 #[.slice A n c] w fun e w' => e = .returned (.int .i64 (ringP r)) ∧ Below w.heap.size w w') (A : Option Addr) (n c : Nat) (r : List Pt) (w : World) (hA : SlPt w A n c r) :
    Calls Tryz.prog 22 #[.slice A n c] w fun e w' => e = .returned (.tuple #[.int .i64 (signedV r).1, .int .i64 (signedV r).2]) ∧ Below w.heap.size w w' := by
  have hn := hA.len
  have HA := Lib.hid hA
  have HR := Lib.hid (fun W (h : SlPt W A n c r) => HRing A n c r W h)
  clear hA HRing
  by_cases h0 : ringP r = 0
  · have Hv : Hid (signedV r = ((cycP phS r).tdiv 2, 0)) := Lib.hid (if_pos h0)
    obtain ⟨g4, g400, gpt, _⟩ := ringP_zero h0
    rw [h0] at HR
    have Hbd := Lib.hid (fun k => sumTo_bd gpt (by omega) k)
    have Hpt := Lib.hid (fun i (hi : i < r.length) => gpt _ (List.getElem_mem hi))
    have Hend : Hid (sumTo phS r n = cycP phS r) := Lib.hid (by rw [← hn]; exact cyc_range phS r)
    have Hn := Lib.hid hn
    have hn4 : 4 ≤ n := by omega
    have hn400 : n ≤ 400 := by omega
    rw [Hv.out]
    clear h0 gpt g4 g400 hn Hv
    generalize cycP phS r = S at *
    have hSb : -(268435456 * (n : Int)) ≤ S ∧ S ≤ 268435456 * (n : Int) := by have := Hbd.out n; rw [Hend.out] at this; exact this
    obtain ⟨V, hV⟩ : ∃ V, S.tdiv 2 = V := ⟨_, rfl⟩
    have Hq : Hid (wrap64 (S.tdiv 2) = V) := Lib.hid (by
      rw [← hV]
      have h1 := Int.tmod_add_mul_tdiv S 2
      have h2 := Int.lt_tmod_of_pos S (show (0 : Int) < 2 by omega)
      have h3 := Int.tmod_lt_of_pos S (show (0 : Int) < 2 by omega)
      unfold wrap64
      omega)
    rw [hV]
    have HV := Lib.hid hV
    clear hV
    go_enter Tryz.func22, Tryz.ntmps22
    go_upto_region 5 with (first
      | (go_at_call 23
         refine (HR.out _ (HA.out.below (by repeat' (first | with_reducible exact Below.refl _ _ | with_reducible refine below_drewN ?_ _ | with_reducible refine Below.drew ?_ | with_reducible refine Below.alloc ?_ ?_ _ | with_reducible refine Below.setCell ?_ ?_ _ | with_reducible refine Below.trans ?_ (Below.mono (by with_reducible assumption) ?_) | (simp; done) | (simp; omega) | omega)))).mono ?_
         rintro e w1 ⟨rfl, hb1⟩
         have Hb1 : Hid (Below w.heap.size w w1) := Lib.hid (by have hbq := hb1; exact (by repeat' (first | with_reducible exact Below.refl _ _ | with_reducible assumption | with_reducible refine below_drewN ?_ _ | with_reducible refine Below.drew ?_ | with_reducible refine Below.alloc ?_ ?_ _ | with_reducible refine Below.setCell ?_ ?_ _ | with_reducible refine Below.trans ?_ (Below.mono (by with_reducible assumption) ?_) | with_reducible refine below_only ?_ (by with_reducible assumption) ?_ ?_ | (simp; done) | (simp; omega) | omega)))
         clear hb1)
      | fail)
    have HA1 := Lib.hid (HA.out.below Hb1.out)
    have hs1 := Hb1.out.size
    clear HR
    go_wp2
    go_loopw [5, 16] (fun sv iv wr => ∃ (k : Nat) (Z : Int), k ≤ n ∧ iv = .int .i64 (k : Int) ∧ sv = .int .i64 Z ∧ Hid (Z = sumTo phS r k) ∧ Below w.heap.size w wr) (fun _ iv _ => n - (intOf iv).toNat)
    case atStart => exact ⟨0, 0, Nat.zero_le _, rfl, rfl, Lib.hid rfl, Hb1.out⟩
    case round =>
      obtain ⟨k, Z, hk, rfl, rfl, HZ, hbw⟩ := hrel
      have Hbw := Lib.hid hbw
      have hsw := hbw.size
      clear hbw
      by_cases hkn : k < n
      · have hkn' : (k : Int) < (n : Int) := by omega
        have hkl : k < r.length := by have := Hn.out; omega
        have hn0 : 0 < n := by omega
        obtain ⟨x, hx⟩ : ∃ x, (k + 1) % n = x := ⟨_, rfl⟩
        have hxn : x < n := by rw [← hx]; exact Nat.mod_lt _ hn0
        have hxl : x < r.length := by have := Hn.out; omega
        have hrem := rem_succ k n
        rw [hx] at hrem
        have hw1 : IntKind.i64.wrap ((k : Int) + 1) = (k : Int) + 1 := IntWalk.i64_in _ (by omega)
        have hxn' : (x : Int) < (n : Int) := by omega
        have hnz : ¬ (n : Int) = 0 := by omega
        obtain ⟨b, off, e1, hb0, p0, p1⟩ := (HA.out.below Hbw.out).at k hkl
        obtain ⟨_, _, e2, -, q0, q1⟩ := (HA.out.below Hbw.out).at x hxl
        subst e1
        injection e2 with e2
        injection e2 with e2 e2'
        subst e2 e2'
        have hpb := Hpt.out k hkl
        have hqb := Hpt.out x hxl
        have Hst : Hid (sumTo phS r (k + 1) = Z + (r[k].1 * r[x].2 - r[k].2 * r[x].1)) := Lib.hid (by
          have e1 : at0 r k = r[k] := at0_lt r hkl
          have e2 : at0 r (k + 1) = r[x] := by rw [← at0_mod, Hn.out, hx, at0_lt r hxl]
          rw [sumTo_succ, HZ.out, e1, e2]
          rfl)
        have hZb := Hbd.out k
        rw [← HZ.out] at hZb
        generalize r[k] = p at *
        generalize r[x] = q at *
        obtain ⟨px, py⟩ := p
        obtain ⟨qx, qy⟩ := q
        dsimp only at *
        have b1 := prod_bd ⟨hpb.1, hpb.2.1⟩ ⟨hqb.2.2.1, hqb.2.2.2⟩
        have b2 := prod_bd ⟨hpb.2.2.1, hpb.2.2.2⟩ ⟨hqb.1, hqb.2.1⟩
        obtain ⟨u, hu⟩ : ∃ u, px * qy = u := ⟨_, rfl⟩
        obtain ⟨v, hv⟩ : ∃ v, py * qx = v := ⟨_, rfl⟩
        have wu : IntKind.i64.wrap (px * qy) = u := by rw [hu]; rw [hu] at b1; exact IntWalk.i64_in _ (by omega)
        have wv : IntKind.i64.wrap (py * qx) = v := by rw [hv]; rw [hv] at b2; exact IntWalk.i64_in _ (by omega)
        rw [hu, hv] at Hst
        rw [hu] at b1
        rw [hv] at b2
        clear hu hv hpb hqb hx
        have wd : IntKind.i64.wrap (u - v) = u - v := IntWalk.i64_in _ (by omega)
        obtain ⟨Z2, hZ2⟩ : ∃ Z2, Z + (u - v) = Z2 := ⟨_, rfl⟩
        have ws : IntKind.i64.wrap (Z + (u - v)) = Z2 := by rw [← hZ2]; exact IntWalk.i64_in _ (by omega)
        rw [hZ2] at Hst
        clear hZ2 hZb b1 b2
        have hbr : b < wr.heap.size := by omega
        have WD := Lib.hid wd
        clear wd
        have hwx : IntKind.i64.wrap (x : Int) = (x : Int) := IntWalk.i64_in _ (by omega)
        have hwr : IntKind.i64.wrap (((k : Int) + 1).tmod (n : Int)) = (x : Int) := by rw [hrem]; exact hwx
        have hnz' : ¬ n = 0 := by omega
        have hx0 : (0 : Int) ≤ (x : Int) := by omega
        have hk0 : (0 : Int) ≤ (k : Int) := by omega
        go_upto_region 8 with fail
        go_cut [7, 8] (fun s17 s18 wx => ∃ b1 b2 : Nat, s17 = .pointer (some ⟨b1, 0, none⟩) ∧ s18 = .pointer (some ⟨b2, 0, none⟩) ∧ wx.heap[b1]? = some (.cells #[.int .i64 px, .int .i64 py] 43 (0, 0)) ∧ wx.heap[b2]? = some (.cells #[.int .i64 qx, .int .i64 qy] 43 (0, 0)) ∧ Below wr.heap.size wr wx)
        case first =>
          have HSb : Hid (∀ wy, Below wr.heap.size wr wy → (fun wy => wy.cell? ⟨b, off + k * 2, none⟩ = some (.int .i64 px) ∧ wy.cell? ⟨b, off + k * 2 + 1, none⟩ = some (.int .i64 py) ∧ wy.cell? ⟨b, off + x * 2, none⟩ = some (.int .i64 qx) ∧ wy.cell? ⟨b, off + x * 2 + 1, none⟩ = some (.int .i64 qy)) wy) := Lib.hid (fun wy hy => ⟨(hy.cell (p := ⟨b, off + k * 2, none⟩) hbr).trans p0, (hy.cell (p := ⟨b, off + k * 2 + 1, none⟩) hbr).trans p1, (hy.cell (p := ⟨b, off + x * 2, none⟩) hbr).trans q0, (hy.cell (p := ⟨b, off + x * 2 + 1, none⟩) hbr).trans q1⟩)
          clear p0 p1 q0 q1
          refine wp_region_noPanic ?_
          refine wp_region_held_drew (S := fun wy => wy.cell? ⟨b, off + k * 2, none⟩ = some (.int .i64 px) ∧ wy.cell? ⟨b, off + k * 2 + 1, none⟩ = some (.int .i64 py) ∧ wy.cell? ⟨b, off + x * 2, none⟩ = some (.int .i64 qx) ∧ wy.cell? ⟨b, off + x * 2 + 1, none⟩ = some (.int .i64 qy)) (by kernel_rfl) (HSb.out _ (by repeat' (first | with_reducible exact Below.refl _ _ | with_reducible refine below_drewN ?_ _ | with_reducible refine Below.drew ?_ | with_reducible refine Below.alloc ?_ ?_ _ | with_reducible refine Below.setCell ?_ ?_ _ | with_reducible refine Below.trans ?_ (Below.mono (by with_reducible assumption) ?_) | (simp; done) | (simp; omega) | omega))) (fun hHeld => ?_)
          refine wpAnyH_take (i := 0) (v := ?vva0) rfl (by kernel_rfl) (by kernel_rfl) (by kernel_rfl) (fun _ _ _ h => h) (Or.inl ⟨by rfl, ?hya0⟩) hHeld ?resta0; (case hya0 => (intro w hSw; (try dsimp only at hSw); go_simp; all_goals (with_reducible rfl))); simp only [Act.put, List.setIfInBounds_toArray, List.set_cons_zero, List.set_cons_succ]
          refine wpAnyH_take (i := 1) (v := ?vva1) rfl (by kernel_rfl) (by kernel_rfl) (by kernel_rfl) (fun _ _ _ h => h) (Or.inl ⟨by rfl, ?hya1⟩) hHeld ?resta1; (case hya1 => (intro w hSw; (try dsimp only at hSw); go_simp; all_goals (with_reducible rfl))); simp only [Act.put, List.setIfInBounds_toArray, List.set_cons_zero, List.set_cons_succ]
          refine wpAnyH_take (i := 2) (v := ?vva2) rfl (by kernel_rfl) (by kernel_rfl) (by kernel_rfl) (fun _ _ _ h => h) (Or.inl ⟨by rfl, ?hya2⟩) hHeld ?resta2; (case hya2 => (intro w hSw; (try dsimp only at hSw); go_simp; all_goals (with_reducible rfl))); simp only [Act.put, List.setIfInBounds_toArray, List.set_cons_zero, List.set_cons_succ]
          refine wpAnyH_take (i := 3) (v := ?vva3) rfl (by kernel_rfl) (by kernel_rfl) (by kernel_rfl) (fun _ _ _ h => h) (Or.inl ⟨by rfl, ?hya3⟩) hHeld ?resta3; (case hya3 => (intro w hSw; (try dsimp only at hSw); go_simp; all_goals (with_reducible rfl))); simp only [Act.put, List.setIfInBounds_toArray, List.set_cons_zero, List.set_cons_succ]
          refine wpAnyH_take (i := 4) (v := ?vva4) rfl (by kernel_rfl) (by kernel_rfl) (by kernel_rfl) (fun _ _ _ h => h) (Or.inl ⟨by rfl, ?hya4⟩) hHeld ?resta4; (case hya4 => (intro w hSw; (try dsimp only at hSw); go_simp; all_goals (with_reducible rfl))); simp only [Act.put, List.setIfInBounds_toArray, List.set_cons_zero, List.set_cons_succ]
          refine wpAnyH_take (i := 5) (v := ?vva5) rfl (by kernel_rfl) (by kernel_rfl) (by kernel_rfl) (fun _ _ _ h => h) (Or.inl ⟨by rfl, ?hya5⟩) hHeld ?resta5; (case hya5 => (intro w hSw; (try dsimp only at hSw); go_simp; all_goals (with_reducible rfl))); simp only [Act.put, List.setIfInBounds_toArray, List.set_cons_zero, List.set_cons_succ]
          refine wpAnyH_take (i := 6) (v := ?vva6) rfl (by kernel_rfl) (by kernel_rfl) (by kernel_rfl) (fun _ _ _ h => h) (Or.inl ⟨by rfl, ?hya6⟩) hHeld ?resta6; (case hya6 => (intro w hSw; (try dsimp only at hSw); go_simp; all_goals (with_reducible rfl))); simp only [Act.put, List.setIfInBounds_toArray, List.set_cons_zero, List.set_cons_succ]
          refine wpAnyH_take (i := 7) (v := ?vva7) rfl (by kernel_rfl) (by kernel_rfl) (by kernel_rfl) (fun _ _ _ h => h) (Or.inl ⟨by rfl, ?hya7⟩) hHeld ?resta7; (case hya7 => (intro w hSw; (try dsimp only at hSw); go_simp; all_goals (with_reducible rfl))); simp only [Act.put, List.setIfInBounds_toArray, List.set_cons_zero, List.set_cons_succ]
          refine wpAnyH_take (i := 8) (v := ?vva8) rfl (by kernel_rfl) (by kernel_rfl) (by kernel_rfl) (fun _ _ _ h => h) (Or.inl ⟨by rfl, ?hya8⟩) hHeld ?resta8; (case hya8 => (intro w hSw; (try dsimp only at hSw); go_simp; all_goals (with_reducible rfl))); simp only [Act.put, List.setIfInBounds_toArray, List.set_cons_zero, List.set_cons_succ]
          refine wpAnyH_take (i := 9) (v := ?vva9) rfl (by kernel_rfl) (by kernel_rfl) (by kernel_rfl) (fun _ _ _ h => h) (Or.inl ⟨by rfl, ?hya9⟩) hHeld ?resta9; (case hya9 => (intro w hSw; (try dsimp only at hSw); go_simp; all_goals (with_reducible rfl))); simp only [Act.put, List.setIfInBounds_toArray, List.set_cons_zero, List.set_cons_succ]
          refine wpAnyH_take (i := 10) (v := ?vva10) rfl (by kernel_rfl) (by kernel_rfl) (by kernel_rfl) (fun _ _ _ h => h) (Or.inl ⟨by rfl, ?hya10⟩) hHeld ?resta10; (case hya10 => (intro w hSw; (try dsimp only at hSw); go_simp; all_goals (with_reducible rfl))); simp only [Act.put, List.setIfInBounds_toArray, List.set_cons_zero, List.set_cons_succ]
          refine wpAnyH_take (i := 11) (v := ?vva11) rfl (by kernel_rfl) (by kernel_rfl) (by kernel_rfl) (fun _ _ _ h => h) (Or.inl ⟨by rfl, ?hya11⟩) hHeld ?resta11; (case hya11 => (intro w hSw; (try dsimp only at hSw); go_simp; all_goals (with_reducible rfl))); simp only [Act.put, List.setIfInBounds_toArray, List.set_cons_zero, List.set_cons_succ]
          refine allocs_any2 (.cells #[.int .i64 0, .int .i64 0] 43) wr.drew [(12, 7), (13, 8)] 2 _ _ (by decide) (by decide) ?hop (by kernel_rfl) (fun wy hy => ?hsk) hHeld ?hrest
          case hop =>
            intro it hit K a0 wy hK
            simp only [List.mem_cons, List.not_mem_nil, or_false] at hit
            rcases hit with rfl | rfl
            all_goals
              refine wpOp_step rfl (fun K' hK' => ?_)
              go_simp
              exact hK' _ _ hK
          case hsk =>
            obtain ⟨h1, h2, h3, h4⟩ := hy
            exact ⟨(World.cell?_alloc_some _ _ _ (by rw [h1]; rfl)).trans h1, (World.cell?_alloc_some _ _ _ (by rw [h2]; rfl)).trans h2, (World.cell?_alloc_some _ _ _ (by rw [h3]; rfl)).trans h3, (World.cell?_alloc_some _ _ _ (by rw [h4]; rfl)).trans h4⟩
          case hrest =>
            intro β wy hby hβ hinj hHeld
            have f1 : wr.heap.size ≤ β 12 ∧ _ := hβ (12, 7) (by simp)
            have f2 : wr.heap.size ≤ β 13 ∧ _ := hβ (13, 8) (by simp)
            obtain ⟨f1, p1⟩ := f1
            obtain ⟨f2, p2⟩ := f2
            have n12 : β 12 ≠ β 13 := fun e => by have := hinj (12, 7) (by simp) (13, 8) (by simp) e; simp at this
            have Hbx : Hid (Below wr.heap.size wr wy) := Lib.hid ((Below.refl _ wr).drew.trans hby)
            clear hβ hinj hby
            simp only [List.map_cons, List.map_nil, setAll, putAll, List.foldl_cons, List.foldl_nil, Act.put, List.setIfInBounds_toArray, List.set_cons_zero, List.set_cons_succ]
            simp only at p1 p2
            have P1 := Lib.hid p1
            have P2 := Lib.hid p2
            have m12 := n12.symm
            have a10 := cell_of_row wy (β 12) 0 _ _ _ p1
            have z10 := frozen_of_row wy (β 12) 0 _ _ p1
            have a11 := cell_of_row wy (β 12) 1 _ _ _ p1
            have z11 := frozen_of_row wy (β 12) 1 _ _ p1
            have a20 := cell_of_row wy (β 13) 0 _ _ _ p2
            have z20 := frozen_of_row wy (β 13) 0 _ _ p2
            have a21 := cell_of_row wy (β 13) 1 _ _ _ p2
            have z21 := frozen_of_row wy (β 13) 1 _ _ p2
            clear p1 p2
            refine wpAnyH_ready (rs := [14]) (by kernel_rfl) (by simp) ?_; refine AllReadyH.cons rfl (fun K hK => ?_) AllReadyH.nil
            go_simp
            refine hK.out _ _ (HSb.out _ (by have hbx := Hbx.out; repeat' (first | with_reducible exact hbx | with_reducible refine Below.setCell ?_ ?_ _ | with_reducible assumption))) (fun hHeld => ?_)
            clear hK K
            (try simp only [Act.put, List.setIfInBounds_toArray, List.set_cons_zero, List.set_cons_succ])
            refine wpAnyH_ready (rs := [15]) (by kernel_rfl) (by simp) ?_; refine AllReadyH.cons rfl (fun K hK => ?_) AllReadyH.nil
            go_simp
            refine hK.out _ _ (HSb.out _ (by have hbx := Hbx.out; repeat' (first | with_reducible exact hbx | with_reducible refine Below.setCell ?_ ?_ _ | with_reducible assumption))) (fun hHeld => ?_)
            clear hK K
            (try simp only [Act.put, List.setIfInBounds_toArray, List.set_cons_zero, List.set_cons_succ])
            refine wpAnyH_done (by kernel_rfl) ?_ _
            refine NoPanic.normal ?_
            go_wp2
            go_meet
            case rel =>
              obtain ⟨q1, q2⟩ := fill2_at (x := .int .i64 px) (x' := .int .i64 qx) (y := .int .i64 py) (y' := .int .i64 qy) n12 P1.out P2.out
              exact ⟨β 12, β 13, rfl, rfl, q1, q2, ((((Hbx.out.setCell f1 _).setCell f1 _).setCell f2 _).setCell f2 _)⟩
        case rest =>
          obtain ⟨wx, rfl⟩ : ∃ wx : World, wx = wc := ⟨_, rfl⟩
          obtain ⟨b1, b2, rfl, rfl, g1, g2, hbx⟩ := hcut
          have Hbx : Hid (Below w.heap.size w wx) := Lib.hid (Hbw.out.trans (hbx.mono hsw))
          have a10 := cell_of_row wx b1 0 _ _ _ g1
          have a11 := cell_of_row wx b1 1 _ _ _ g1
          have a20 := cell_of_row wx b2 0 _ _ _ g2
          have a21 := cell_of_row wx b2 1 _ _ _ g2
          clear g1 g2 hbx p0 p1 q0 q1
          have wd := WD.out
          go_wp2
          go_roundw
          case rel => exact ⟨k + 1, Z2, by omega, by go_num, rfl, Lib.hid Hst.out.symm, Hbx.out⟩
          case measure => simp [intOf]; omega
      · obtain rfl : k = n := by omega
        have hkn' : ¬ (k : Int) < (k : Int) := by omega
        have hZS : Z = S := HZ.out.trans Hend.out
        subst hZS
        have hq := Hq.out
        go_wp2
        have hv2 := HV.out
        refine bodyPost_ret (v := .tuple #[.int .i64 V, .int .i64 0]) (by simp [results, Tryz.results22, go_sem, *]) rfl ?_
        exact ⟨rfl, Hbw.out⟩
  · have Hv : Hid (signedV r = (0, ringP r)) := Lib.hid (if_neg h0)
    rw [Hv.out]
    obtain ⟨e0, he0⟩ : ∃ e0, ringP r = e0 := ⟨_, rfl⟩
    rw [he0] at HR h0 ⊢
    clear he0 Hv
    go_enter Tryz.func22, Tryz.ntmps22
    go_wp2_with (first
      | (go_at_call 23
         refine (HR.out _ (HA.out.below (by repeat' (first | with_reducible exact Below.refl _ _ | with_reducible refine below_drewN ?_ _ | with_reducible refine Below.drew ?_ | with_reducible refine Below.alloc ?_ ?_ _ | with_reducible refine Below.setCell ?_ ?_ _ | with_reducible refine Below.trans ?_ (Below.mono (by with_reducible assumption) ?_) | (simp; done) | (simp; omega) | omega)))).mono ?_
         rintro e w1 ⟨rfl, hb1⟩
         have Hb1 : Hid (Below w.heap.size w w1) := Lib.hid (by have hbq := hb1; exact (by repeat' (first | with_reducible exact Below.refl _ _ | with_reducible assumption | with_reducible refine below_drewN ?_ _ | with_reducible refine Below.drew ?_ | with_reducible refine Below.alloc ?_ ?_ _ | with_reducible refine Below.setCell ?_ ?_ _ | with_reducible refine Below.trans ?_ (Below.mono (by with_reducible assumption) ?_) | with_reducible refine below_only ?_ (by with_reducible assumption) ?_ ?_ | (simp; done) | (simp; omega) | omega)))
         clear hb1)
      | fail)
    refine bodyPost_ret (v := .tuple #[.int .i64 0, .int .i64 e0]) (by simp [results, Tryz.results22, go_sem, *]) rfl ?_
    exact ⟨rfl, Hb1.out⟩
end Go.Proofs.YtpcfhcdbibklcaaGreat
namespace Go.Proofs.YtpcfhcdbibklcaaGreat
open Go.RowKit Go.Shelf
set_option linter.unusedVariables false
set_option linter.unusedSimpArgs false

/-- Few corners, where all rings are right. -/
def FewPts (rs : List (List Pt)) : Prop := (∀ r ∈ rs, ringP r = 0) → (rs.map List.length).sum ≤ 300
theorem sum_take_le : ∀ (l : List Nat) (i : Nat) (h : i < l.length), (l.take i).sum + l[i] ≤ l.sum
  | a :: t, 0, _ => by simp
  | a :: t, i + 1, h => by
    have := sum_take_le t i (by simpa using h)
    simp
    omega
theorem pt_take {rs : List (List Pt)} {i : Nat} (h : i < rs.length) : ptX (rs.take (i + 1)) = ptX (rs.take i) ++ (rs[i].map (·.1)) ∧ ptY (rs.take (i + 1)) = ptY (rs.take i) ++ (rs[i].map (·.2)) := by
  unfold ptX ptY
  rw [List.take_succ_eq_append_getElem h, List.flatMap_append, List.flatMap_append]
  simp
theorem pt_len : ∀ (rs : List (List Pt)), (ptX rs).length = (rs.map List.length).sum ∧ (ptY rs).length = (rs.map List.length).sum
  | [] => by simp [ptX, ptY]
  | r :: t => by
    obtain ⟨h1, h2⟩ := pt_len t
    unfold ptX ptY at *
    rw [List.flatMap_cons, List.flatMap_cons, List.length_append, List.length_append, h1, h2]
    simp
/-- The cuts of the corners of some rings, and of some corners of the next one. -/
def cutsTo (f : Pt → Int) (pre : List Int) (r : List Pt) (j : Nat) : List Int := (pre ++ (r.take j).map f).foldl putL []
theorem cutsTo_succ (f : Pt → Int) (pre : List Int) (r : List Pt) (j : Nat) (h : j < r.length) : cutsTo f pre r (j + 1) = putL (cutsTo f pre r j) (f r[j]) := by
  unfold cutsTo
  rw [List.take_succ_eq_append_getElem h, List.map_append, ← List.append_assoc, List.foldl_append]
  rfl
theorem cutsTo_len (f : Pt → Int) (pre : List Int) (r : List Pt) (j : Nat) : (cutsTo f pre r j).length ≤ pre.length + r.length := by
  have h1 := puts_len (pre ++ (r.take j).map f) []
  have h2 : ((r.take j).map f).length ≤ r.length := by rw [List.length_map, List.length_take]; exact Nat.min_le_right _ _
  unfold cutsTo
  rw [List.length_append, List.length_nil] at h1
  omega
theorem SlP.at {w : World} {v : Value} {l : List Int} (h : SlP w v l) : ∃ A c, v = .slice A l.length c ∧ SlI w A l.length c l := by
  obtain ⟨A, c, h1, h2, _⟩ := h
  exact ⟨A, c, h1, h2⟩
set_option maxHeartbeats 8000000 in
set_option maxRecDepth 100000 in
theorem fillR_any (A : Option Addr) (n c : Nat) (l : RgL) (w : World) (hA : SlRg w A n c l) (ht : FewPts (rgPts l)) :
    Calls Tryz.prog 19 #[.slice A n c] w (RegPost w (fillV (rgPts l))) := by
  obtain ⟨i1, hj, hy0, hy1, hy2⟩ := info_parts Tryz.infoRect
  have hn := hA.len
  have HA := Lib.hid hA
  have hnr := rgPts_len l
  clear hA
  by_cases hbig : 60 < n
  · have hb' : (60 : Int) < (n : Int) := by omega
    have e0 : fillV (rgPts l) = ([], 1) := by unfold fillV; rw [if_pos (by omega)]
    rw [e0]
    clear e0 ht
    go_enter Tryz.func19, Tryz.ntmps19
    go_wp2
    refine bodyPost_ret (v := .tuple #[.agg #[.slice none 0 0], .int .i64 1]) (by simp [results, Tryz.results19, go_sem, *]) rfl ?_
    exact ⟨_, rfl, World.ownsRow_nil _ _ _ _, (by repeat' (first | with_reducible exact Below.refl _ _ | with_reducible refine below_drewN ?_ _ | with_reducible refine Below.drew ?_ | with_reducible refine Below.alloc ?_ ?_ _ | with_reducible refine Below.setCell ?_ ?_ _ | with_reducible refine Below.trans ?_ (Below.mono (by with_reducible assumption) ?_) | (simp; done) | (simp; omega) | omega))⟩
  · have hb' : ¬ (60 : Int) < (n : Int) := by omega
    have HRg := Lib.hid (fun W (h : SlRg W A n c l) (i : Nat) (hi : i < l.length) => ringR_any l[i].2.a l[i].1.length l[i].2.c l[i].1 W (h.fits _ (List.getElem_mem hi)))
    have Hbad : Hid (∀ i (hi : i < l.length), (∀ j (hj : j < l.length), j < i → ringP l[j].1 = 0) → ringP l[i].1 ≠ 0 → fillV (rgPts l) = ([], ringP l[i].1)) := Lib.hid fun i hi h1 h2 => by
      have e1 : fErr (rgPts l) = ringP l[i].1 := by
        have hi' : i < (rgPts l).length := by rw [hnr]; exact hi
        have g : (rgPts l)[i] = l[i].1 := by simp [rgPts]
        rw [← g]
        refine fErr_at hi' (fun j hj hji => ?_) (by rw [g]; exact h2)
        have := h1 j (by rw [← hnr]; exact hj) hji
        simpa [rgPts] using this
      unfold fillV
      rw [if_neg (by omega), if_pos (by rw [e1]; exact h2), e1]
    have Hgood : Hid ((∀ j (hj : j < l.length), ringP l[j].1 = 0) → (∀ r ∈ rgPts l, ringP r = 0) ∧ fillV (rgPts l) = (if 120 < (fillR (wallsL (rgPts l))).length then ([], 1) else (fillR (wallsL (rgPts l)), 0))) := Lib.hid fun h => by
      have hall : ∀ r ∈ rgPts l, ringP r = 0 := fun r hr => by
        obtain ⟨x, hx, rfl⟩ := List.mem_map.1 hr
        obtain ⟨j, hj, e⟩ := List.getElem_of_mem hx
        rw [← e]
        exact h j hj
      refine ⟨hall, ?_⟩
      unfold fillV
      rw [if_neg (by omega), if_neg (by rw [fErr_zero.2 hall]; simp)]
    have Ht := Lib.hid ht
    obtain ⟨x0, hx0⟩ : ∃ x0, fillV (rgPts l) = x0 := ⟨_, rfl⟩
    rw [hx0] at Hbad Hgood ⊢
    clear ht hx0 hbig
    go_enter Tryz.func19, Tryz.ntmps19
    go_upto_region 3 with fail
    obtain ⟨w0, hw0⟩ : ∃ w0 : World, w0 = w.alloc (.cells #[.slice none 0 0] 25) := ⟨_, rfl⟩
    rw [← hw0]
    have hr0 : w0.heap[w.heap.size]? = some (.cells #[.slice none 0 0] 25 (0, 0)) := by rw [hw0]; exact heap_alloc_new w _
    have HR0 := Lib.hid hr0
    have HA0 : Hid (SlRg w0 A n c l) := Lib.hid (by rw [hw0]; exact HA.out.below (by repeat' (first | with_reducible exact Below.refl _ _ | with_reducible refine below_drewN ?_ _ | with_reducible refine Below.drew ?_ | with_reducible refine Below.alloc ?_ ?_ _ | with_reducible refine Below.setCell ?_ ?_ _ | with_reducible refine Below.trans ?_ (Below.mono (by with_reducible assumption) ?_) | (simp; done) | (simp; omega) | omega)))
    have Hb0 : Hid (Below w.heap.size w w0) := Lib.hid (by rw [hw0]; exact (by repeat' (first | with_reducible exact Below.refl _ _ | with_reducible refine below_drewN ?_ _ | with_reducible refine Below.drew ?_ | with_reducible refine Below.alloc ?_ ?_ _ | with_reducible refine Below.setCell ?_ ?_ _ | with_reducible refine Below.trans ?_ (Below.mono (by with_reducible assumption) ?_) | (simp; done) | (simp; omega) | omega)))
    have hs0 : w.heap.size < w0.heap.size := by rw [hw0]; simp
    clear hw0 hr0 HA
    go_wp2
    go_loopw [28] (fun iv wr => ∃ i : Nat, i ≤ n ∧ iv = .int .i64 (i : Int) ∧ Hid (∀ j (hj : j < l.length), j < i → ringP l[j].1 = 0) ∧ Below w0.heap.size w0 wr) (fun iv _ => n - (intOf iv).toNat)
    case atStart => exact ⟨0, Nat.zero_le _, rfl, Lib.hid (fun j _ h => by omega), Below.refl _ _⟩
    case round =>
      obtain ⟨i, hin, rfl, Hpre, hbr⟩ := hrel
      have hrr := (hbr.block _ hs0).trans HR0.out
      have hsr := hbr.size
      have Hbr := Lib.hid hbr
      clear hbr
      by_cases hiN : i < n
      · have hiN' : (i : Int) < (n : Int) := by omega
        have hil : i < l.length := by omega
        obtain ⟨b, off, rfl, hb, r0, -⟩ := (HA0.out.below Hbr.out).at i hil
        have HRi := Lib.hid (HRg.out _ (HA0.out.below Hbr.out) i hil)
        have Hb1 := Lib.hid (Hbad.out i hil Hpre.out)
        have Hnx : Hid (ringP l[i].1 = 0 → ∀ j (hj : j < l.length), j < i + 1 → ringP l[j].1 = 0) := Lib.hid fun h j hj hji => by
          rcases Nat.lt_or_ge j i with h1 | h1
          · exact Hpre.out j hj h1
          · have : j = i := by omega
            subst this
            exact h
        have hrc := ringP_cases l[i].1
        generalize l[i] = x at *
        obtain ⟨p, hv⟩ := x
        dsimp only at *
        obtain ⟨ev, hev⟩ : ∃ ev, ringP p = ev := ⟨_, rfl⟩
        rw [hev] at HRi Hb1 Hnx hrc
        clear hev HRg Hgood Hbad
        by_cases hev0 : ev = 0
        · subst hev0
          have Hnx2 := Lib.hid (Hnx.out rfl)
          go_wp2_with (first
            | (go_at_call 23
               refine HRi.out.mono ?_
               rintro e w1 ⟨rfl, hb1⟩
               have Hb2 : Hid (Below w0.heap.size w0 w1) := Lib.hid (Hbr.out.trans (hb1.mono hsr))
               clear hb1)
            | fail)
          go_roundw
          case rel => exact ⟨i + 1, by omega, by go_num, Hnx2, Hb2.out⟩
          case measure => simp [intOf]; omega
        · have Hx := Lib.hid (Hb1.out hev0)
          go_wp2_with (first
            | (go_at_call 23
               refine HRi.out.mono ?_
               rintro e w1 ⟨rfl, hb1⟩
               have Hb2 : Hid (Below w.heap.size w w1) := Lib.hid (Hb0.out.trans ((Hbr.out.trans (hb1.mono hsr)).mono (by omega)))
               have hr1 : w1.heap[w.heap.size]? = some (.cells #[.slice none 0 0] 25 (0, 0)) := (hb1.block _ (by omega)).trans hrr
               have cr1 := cell_of_row w1 w.heap.size 0 _ _ _ hr1
               have fr1 := frozen_of_row w1 w.heap.size 0 _ _ hr1
               have csame : (w1.setCell ⟨w.heap.size, 0, none⟩ (.slice none 0 0)).cell? ⟨w.heap.size, 0, none⟩ = some (.slice none 0 0) := (by rw [cell_of_row _ w.heap.size 0 _ _ _ (heap_setCell_same w1 w.heap.size 0 _ _ _ hr1)]; simp)
               clear hb1 hr1)
            | fail)
          refine bodyPost_ret (v := .tuple #[.agg #[.slice none 0 0], .int .i64 ev]) (by simp [results, Tryz.results19, go_sem, *]) rfl ?_
          rw [Hx.out]
          exact ⟨_, rfl, World.ownsRow_nil _ _ _ _, Hb2.out.setCell (Nat.le_refl _) _⟩
      · obtain rfl : i = n := by omega
        have hiN' : ¬ (i : Int) < (i : Int) := by omega
        obtain ⟨hgd, hx0⟩ := Hgood.out (fun j hj => Hpre.out j hj (by omega))
        have Hgd := Lib.hid hgd
        have Hx0 := Lib.hid hx0
        obtain ⟨rs, hrs⟩ : ∃ rs, rgPts l = rs := ⟨_, rfl⟩
        have Ht := Lib.hid (Ht.out hgd)
        rw [hrs] at Ht Hgd Hx0
        have Hrl : Hid (∀ t (h : t < l.length), ∃ h2 : t < rs.length, rs[t] = l[t].1) := Lib.hid fun t h => by
          subst hrs
          exact ⟨by rw [rgPts_len]; exact h, by simp [rgPts]⟩
        have Hrn : Hid (rs.length = i) := Lib.hid (by rw [← hrs, rgPts_len]; omega)
        clear hgd hx0 hrs Hbad Hgood HRg Hpre
        have Hbw : Hid (Below w.heap.size w wr) := Lib.hid (Hb0.out.trans (Hbr.out.mono (by omega)))
        have HA1 := Lib.hid (HA0.out.below Hbr.out)
        have hr1 := hrr
        have Hr1 := Lib.hid hr1
        have hs1 : w.heap.size < wr.heap.size := by omega
        obtain ⟨w1, hw1⟩ : ∃ w1 : World, w1 = wr := ⟨_, rfl⟩
        rw [← hw1] at HA1 Hbw Hr1 hs1 ⊢
        clear hw1 hrr hr1 HA0 Hbr hsr hs0 Hb0
        go_upto_region 12 with fail
        go_loopw [7, 8, 41] (fun xv yv tv wq => ∃ t : Nat, t ≤ i ∧ tv = .int .i64 (t : Int) ∧ SlP wq xv ((ptX (rs.take t)).foldl putL []) ∧ SlP wq yv ((ptY (rs.take t)).foldl putL []) ∧ Below w1.heap.size w1 wq) (fun _ _ tv _ => i - (intOf tv).toNat)
        case atStart => exact ⟨0, Nat.zero_le _, rfl, ⟨none, 0, rfl, SlI.nil _, fun _ => ⟨rfl, rfl⟩⟩, ⟨none, 0, rfl, SlI.nil _, fun _ => ⟨rfl, rfl⟩⟩, Below.refl _ _⟩
        case round =>
          obtain ⟨t, hti, rfl, hsx, hsy, hbq⟩ := hrel
          have Hsx := Lib.hid hsx
          have Hsy := Lib.hid hsy
          have Hbq := Lib.hid hbq
          have hsq := hbq.size
          clear hsx hsy hbq
          by_cases htn : t < i
          · have htn' : (t : Int) < (i : Int) := by omega
            have htl : t < l.length := by have := Hrn.out; have := HA1.out.len; omega
            obtain ⟨htr, hrt⟩ := Hrl.out t htl
            obtain ⟨b, off, rfl, hb, r0, hfit⟩ := (HA1.out.below Hbq.out).at t htl
            obtain ⟨hp1, hp2⟩ := pt_take htr
            have hpl := pt_len (rs.take t)
            have hst := sum_take_le (rs.map List.length) t (by rw [List.length_map]; exact htr)
            have ht3 := Ht.out
            rw [List.getElem_map, ← List.map_take] at hst
            rw [hrt] at hp1 hp2 hst
            have Hpx : Hid ((ptX (rs.take (t + 1))).foldl putL [] = cutsTo (·.1) (ptX (rs.take t)) l[t].1 l[t].1.length) := Lib.hid (by rw [hp1]; unfold cutsTo; rw [List.take_length])
            have Hpy : Hid ((ptY (rs.take (t + 1))).foldl putL [] = cutsTo (·.2) (ptY (rs.take t)) l[t].1 l[t].1.length) := Lib.hid (by rw [hp2]; unfold cutsTo; rw [List.take_length])
            have HX0 : Hid (SlP wr u7 (cutsTo (·.1) (ptX (rs.take t)) l[t].1 0)) := Lib.hid (by unfold cutsTo; simpa using Hsx.out)
            have HY0 : Hid (SlP wr u8 (cutsTo (·.2) (ptY (rs.take t)) l[t].1 0)) := Lib.hid (by unfold cutsTo; simpa using Hsy.out)
            have hlx : (ptX (rs.take t)).length + l[t].1.length ≤ 300 := by rw [hpl.1]; omega
            have hly : (ptY (rs.take t)).length + l[t].1.length ≤ 300 := by rw [hpl.2]; omega
            have Hfit : Hid (SlPt wr l[t].2.a l[t].1.length l[t].2.c l[t].1) := Lib.hid ((HA1.out.below Hbq.out).fits _ (List.getElem_mem htl))
            clear hp1 hp2 hpl hst hrt Hsx Hsy ht3
            generalize ptX (rs.take t) = prX at *
            generalize ptY (rs.take t) = prY at *
            generalize l[t] = lt at *
            obtain ⟨r, RA, rc⟩ := lt
            dsimp only at *
            obtain ⟨rn, hrn⟩ : ∃ rn, r.length = rn := ⟨_, rfl⟩
            rw [hrn] at Hfit hlx hly Hpx Hpy r0
            have Hrr := Lib.hid hrn
            clear hrn
            obtain ⟨wo, hwo⟩ : ∃ wo : World, wo = wr := ⟨_, rfl⟩
            rw [← hwo] at HX0 HY0 Hfit Hbq hsq r0 hb ⊢
            clear hwo
            go_upto_region 15 with fail
            go_loopw [7, 8, 47] (fun xv yv jv wq => ∃ j : Nat, j ≤ rn ∧ jv = .int .i64 (j : Int) ∧ SlP wq xv (cutsTo (·.1) prX r j) ∧ SlP wq yv (cutsTo (·.2) prY r j) ∧ Below wo.heap.size wo wq) (fun _ _ jv _ => rn - (intOf jv).toNat)
            case atStart => exact ⟨0, Nat.zero_le _, rfl, HX0.out, HY0.out, Below.refl _ _⟩
            case round =>
              obtain ⟨j, hj, rfl, hsx, hsy, hbj⟩ := hrel
              have HX2 := Lib.hid hsx
              have HY2 := Lib.hid hsy
              have Hbj := Lib.hid hbj
              have hsj := hbj.size
              clear hsx hsy hbj HX0 HY0
              by_cases hjn : j < rn
              · have hjn' : (j : Int) < (rn : Int) := by omega
                have hjl : j < r.length := by have := Hrr.out; omega
                obtain ⟨pb, po, rfl, hpb, p0, p1⟩ := (Hfit.out.below Hbj.out).at j hjl
                have Hxn := Lib.hid (cutsTo_succ (·.1) prX r j hjl)
                have Hyn := Lib.hid (cutsTo_succ (·.2) prY r j hjl)
                have hxl := cutsTo_len (·.1) prX r j
                have hyl := cutsTo_len (·.2) prY r j
                rw [Hrr.out] at hxl hyl
                generalize r[j] = p at *
                obtain ⟨px, py⟩ := p
                dsimp only at *
                generalize cutsTo (·.1) prX r j = xs at *
                generalize cutsTo (·.2) prY r j = ys at *
                go_upto_region 17 with fail
                obtain ⟨wb, hwb⟩ : ∃ wb : World, wb = wr.alloc (.cells #[.int .i64 px, .int .i64 py] 43) := ⟨_, rfl⟩
                rw [← hwb]
                have hq : wb.heap[wr.heap.size]? = some (.cells #[.int .i64 px, .int .i64 py] 43 (0, 0)) := by rw [hwb]; exact heap_alloc_new wr _
                have q0 : wb.cell? ⟨wr.heap.size, 0, none⟩ = some (.int .i64 px) := cell_of_row wb _ 0 _ _ _ hq
                have q1 : wb.cell? ⟨wr.heap.size, 1, none⟩ = some (.int .i64 py) := cell_of_row wb _ 1 _ _ _ hq
                have hsb : wr.heap.size < wb.heap.size := by rw [hwb]; simp
                have Hbb : Hid (Below wr.heap.size wr wb) := Lib.hid (by rw [hwb]; exact (by repeat' (first | with_reducible exact Below.refl _ _ | with_reducible refine below_drewN ?_ _ | with_reducible refine Below.drew ?_ | with_reducible refine Below.alloc ?_ ?_ _ | with_reducible refine Below.setCell ?_ ?_ _ | with_reducible refine Below.trans ?_ (Below.mono (by with_reducible assumption) ?_) | (simp; done) | (simp; omega) | omega)))
                have HX3 : Hid (SlP wb u7 xs) := Lib.hid (HX2.out.below Hbb.out)
                have HY3 : Hid (SlP wb u8 ys) := Lib.hid (HY2.out.below Hbb.out)
                have Hq := Lib.hid hq
                clear hwb hq p0 p1
                go_region_held3 (fun w' => w'.cell? ⟨wr.heap.size, 0, none⟩ = some (.int .i64 px) ∧ w'.cell? ⟨wr.heap.size, 1, none⟩ = some (.int .i64 py))
                  (first | go_keep | ((repeat' apply And.intro) <;> go_keep))
                  (first
                    | (go_at_call_of 57 u7; refine (put_slp u7 xs px _ (HX3.out.below (by exact (by repeat' (first | with_reducible exact Below.refl _ _ | with_reducible assumption | with_reducible refine below_drewN ?_ _ | with_reducible refine Below.drew ?_ | with_reducible refine Below.alloc ?_ ?_ _ | with_reducible refine Below.setCell ?_ ?_ _ | with_reducible refine Below.trans ?_ (Below.mono (by with_reducible assumption) ?_) | with_reducible refine below_only ?_ (by with_reducible assumption) ?_ ?_ | (simp; done) | (simp; omega) | omega)))) (by omega)).mono ?_; rintro e w3 ⟨v3, rfl, hv3, hb3⟩; have Hv3 := Lib.hid hv3; have Hk3 : Hid (Below wb.heap.size wb w3) := Lib.hid (show Below wb.heap.size wb w3 from (by have hbq := hb3; exact (by repeat' (first | with_reducible exact Below.refl _ _ | with_reducible assumption | with_reducible refine below_drewN ?_ _ | with_reducible refine Below.drew ?_ | with_reducible refine Below.alloc ?_ ?_ _ | with_reducible refine Below.setCell ?_ ?_ _ | with_reducible refine Below.trans ?_ (Below.mono (by with_reducible assumption) ?_) | with_reducible refine below_only ?_ (by with_reducible assumption) ?_ ?_ | (simp; done) | (simp; omega) | omega)))); have Hs3 : Hid (wb.heap.size ≤ w3.heap.size) := Hk3.out.size; have p03 := cell_of_row w3 wr.heap.size 0 _ _ _ ((Hk3.out.block _ hsb).trans Hq.out); have p13 := cell_of_row w3 wr.heap.size 1 _ _ _ ((Hk3.out.block _ hsb).trans Hq.out); clear hv3 hb3)
                    | (go_at_call_of 57 u8; refine (put_slp u8 ys py _ (HY3.out.below (by have hp := Hk3.out; have hs := Hs3.out; exact (by repeat' (first | with_reducible exact Below.refl _ _ | with_reducible assumption | with_reducible refine below_drewN ?_ _ | with_reducible refine Below.drew ?_ | with_reducible refine Below.alloc ?_ ?_ _ | with_reducible refine Below.setCell ?_ ?_ _ | with_reducible refine Below.trans ?_ (Below.mono (by with_reducible assumption) ?_) | with_reducible refine below_only ?_ (by with_reducible assumption) ?_ ?_ | (simp; done) | (simp; omega) | omega)))) (by omega)).mono ?_; rintro e w4 ⟨v4, rfl, hv4, hb4⟩; have Hv4 := Lib.hid hv4; have Hn4 := Lib.hid hb4; have Hk4 : Hid (Below wb.heap.size wb w4) := Lib.hid (show Below wb.heap.size wb w4 from (by have hbq := hb4; have hp := Hk3.out; have hs := Hs3.out; exact (by repeat' (first | with_reducible exact Below.refl _ _ | with_reducible assumption | with_reducible refine below_drewN ?_ _ | with_reducible refine Below.drew ?_ | with_reducible refine Below.alloc ?_ ?_ _ | with_reducible refine Below.setCell ?_ ?_ _ | with_reducible refine Below.trans ?_ (Below.mono (by with_reducible assumption) ?_) | with_reducible refine below_only ?_ (by with_reducible assumption) ?_ ?_ | (simp; done) | (simp; omega) | omega)))); have Hs4 : Hid (wb.heap.size ≤ w4.heap.size) := Hk4.out.size; have p04 := cell_of_row w4 wr.heap.size 0 _ _ _ ((Hk4.out.block _ hsb).trans Hq.out); have p14 := cell_of_row w4 wr.heap.size 1 _ _ _ ((Hk4.out.block _ hsb).trans Hq.out); clear hv4 hb4)
                    | fail)
                all_goals
                  go_wp2
                  go_roundw
                  case rel =>
                    have hk4 := Hk4.out
                    refine ⟨j + 1, by omega, by go_num, ?_, ?_, ?_⟩
                    · rw [Hxn.out]; exact Hv3.out.below Hn4.out
                    · rw [Hyn.out]; exact Hv4.out
                    · exact Hbj.out.trans ((Hbb.out.trans (hk4.mono (by omega))).mono hsj)
                  case measure => simp [intOf]; omega
              · obtain rfl : j = rn := by omega
                have hjn' : ¬ (j : Int) < (j : Int) := by omega
                go_wp2
                go_roundw
                case rel => exact ⟨t + 1, by omega, by go_num, by rw [Hpx.out]; exact HX2.out, by rw [Hpy.out]; exact HY2.out, Hbq.out.trans (Hbj.out.mono hsq)⟩
                case measure => simp [intOf]; omega
          · obtain rfl : t = i := by omega
            have htn' : ¬ (t : Int) < (t : Int) := by omega
            have hxe : (ptX (rs.take t)).foldl putL [] = cutX rs := by rw [List.take_of_length_le (by have := Hrn.out; omega)]; rfl
            have hye : (ptY (rs.take t)).foldl putL [] = cutY rs := by rw [List.take_of_length_le (by have := Hrn.out; omega)]; rfl
            rw [hxe] at Hsx
            rw [hye] at Hsy
            have hcl := cut_len rs
            have ht3 := Ht.out
            have Hfe := Lib.hid (fillF_eq Hgd.out)
            obtain ⟨ws, hws⟩ : ∃ ws, wallsL rs = ws := ⟨_, rfl⟩
            rw [hws] at Hfe Hx0
            have Hws := Lib.hid hws
            obtain ⟨xs, hxs⟩ : ∃ xs, cutX rs = xs := ⟨_, rfl⟩
            obtain ⟨ys, hys⟩ : ∃ ys, cutY rs = ys := ⟨_, rfl⟩
            rw [hxs] at Hsx hcl Hfe
            rw [hys] at Hsy hcl Hfe
            have Hpos : Hid (∀ q ∈ allF xs ys ws (ys.length - 1), q.l < q.r) := Lib.hid (by have := allF_pos (cut_hold Hgd.out); rwa [hxs, hys, hws] at this)
            clear hxe hye hws hxs hys Hgd
            have Hb2 : Hid (Below w.heap.size w wr) := Lib.hid (Hbw.out.trans (Hbq.out.mono (by omega)))
            have Hr2 := Lib.hid ((Hbq.out.block _ hs1).trans Hr1.out)
            have HA2 := Lib.hid (HA1.out.below Hbq.out)
            have hs2 : w.heap.size < wr.heap.size := by omega
            obtain ⟨X, xc, rfl, hX⟩ := Hsx.out.at
            obtain ⟨Y, yc, rfl, hY⟩ := Hsy.out.at
            have HX := Lib.hid hX
            have HY := Lib.hid hY
            obtain ⟨xn, hxn⟩ : ∃ xn, xs.length = xn := ⟨_, rfl⟩
            obtain ⟨yn, hyn⟩ : ∃ yn, ys.length = yn := ⟨_, rfl⟩
            rw [hxn] at hcl HX ⊢
            rw [hyn] at hcl HY Hfe Hpos ⊢
            have HXn := Lib.hid hxn
            have HYn := Lib.hid hyn
            have hxb : xn ≤ 300 := by omega
            have hyb : yn ≤ 300 := by omega
            clear hX hY Hsx Hsy hcl ht3 hxn hyn
            obtain ⟨w2, hw2⟩ : ∃ w2 : World, w2 = wr := ⟨_, rfl⟩
            rw [← hw2] at HX HY HA2 Hb2 Hr2 hs2 ⊢
            clear hw2 HA1 Hbq hsq Hr1 Hbw hs1
            go_upto_region 22 with fail
            go_loopw [13, 14] (fun lv iv wq => ∃ a : Nat, iv = .int .i64 (a : Int) ∧ (a = 0 ∨ a + 1 ≤ yn) ∧ wq.ownsRow w2.heap.size 58 4 lv (allF xs ys ws a).length (rCells (allF xs ys ws a)) ∧ Below w2.heap.size w2 wq) (fun _ iv _ => yn - (intOf iv).toNat)
            case atStart => exact ⟨0, rfl, .inl rfl, World.ownsRow_nil _ _ _ _, Below.refl _ _⟩
            case round =>
              obtain ⟨a, rfl, ha, hown, hbq⟩ := hrel
              have Hown := Lib.hid hown
              have Hbq := Lib.hid hbq
              have hsq := hbq.size
              clear hown hbq
              have ha0 : (0 : Int) ≤ (a : Int) := by omega
              have hwa : IntKind.i64.wrap ((a : Int) + 1) = (a : Int) + 1 := IntWalk.i64_in _ (by omega)
              by_cases han : a + 1 < yn
              · have han' : (a : Int) + 1 < (yn : Int) := by omega
                have hal := allF_len xs ys ws a
                have hal2 : (allF xs ys ws a).length ≤ 90000 := by
                  have := Nat.mul_le_mul (show a ≤ 300 by omega) (show xs.length - 1 ≤ 300 by have := HXn.out; omega)
                  omega
                have Hsucc := Lib.hid (allF_succ xs ys ws a)
                have Hrl2 := Lib.hid (fun k => rowF_len xs ys ws a k)
                rw [HXn.out] at Hsucc
                generalize allF xs ys ws a = al at *
                obtain ⟨w3, hw3⟩ : ∃ w3 : World, w3 = wr := ⟨_, rfl⟩
                rw [← hw3] at Hown Hbq hsq ⊢
                clear hw3
                have hyl : a < ys.length := by have := HYn.out; omega
                have hyl2 : a + 1 < ys.length := by have := HYn.out; omega
                have Hy0 : Hid (ys.getD a 0 = ys[a]) := Lib.hid (getD_at hyl)
                have Hy1 : Hid (ys.getD (a + 1) 0 = ys[a + 1]) := Lib.hid (getD_at hyl2)
                go_upto_region 26 with fail
                go_loopw [13, 15, 16] (fun lv bv kv wq => ∃ k : Nat, kv = .int .i64 (k : Int) ∧ (k = 0 ∨ k + 1 ≤ xn) ∧ bv = .bool (colIn xs (ys.getD a 0) ws k) ∧ wq.ownsRow w2.heap.size 58 4 lv (al ++ rowF xs ys ws a k).length (rCells (al ++ rowF xs ys ws a k)) ∧ Below w2.heap.size w2 wq) (fun _ _ kv _ => xn - (intOf kv).toNat)
                case atStart => exact ⟨0, rfl, .inl rfl, rfl, by simpa [rowF] using Hown.out, Hbq.out⟩
                case round =>
                  obtain ⟨k, rfl, hk, rfl, hown2, hbk⟩ := hrel
                  have Hown2 := Lib.hid hown2
                  have Hbk := Lib.hid hbk
                  have hsk := hbk.size
                  clear hown2 hbk Hown
                  have hk0 : (0 : Int) ≤ (k : Int) := by omega
                  have hwk : IntKind.i64.wrap ((k : Int) + 1) = (k : Int) + 1 := IntWalk.i64_in _ (by omega)
                  by_cases hkn : k + 1 < xn
                  · have hkn' : (k : Int) + 1 < (xn : Int) := by omega
                    have hxl : k < xs.length := by have := HXn.out; omega
                    have hxl2 : k + 1 < xs.length := by have := HXn.out; omega
                    have Hx0' : Hid (xs.getD k 0 = xs[k]) := Lib.hid (getD_at hxl)
                    have Hx1' : Hid (xs.getD (k + 1) 0 = xs[k + 1]) := Lib.hid (getD_at hxl2)
                    have hrl := Hrl2.out k
                    have Hrs2 : Hid (rowF xs ys ws a (k + 1) = rowF xs ys ws a k ++ (if colIn xs (ys.getD a 0) ws (k + 1) then [⟨xs.getD k 0, ys.getD a 0, xs.getD (k + 1) 0, ys.getD (a + 1) 0⟩] else [])) := Lib.hid (rowF_succ xs ys ws a k)
                    have Hcol : Hid (colIn xs (ys.getD a 0) ws (k + 1) = (colIn xs (ys.getD a 0) ws k != oddH (xs.getD k 0) (ys.getD a 0) ws)) := Lib.hid rfl
                    rw [Hx0'.out, Hx1'.out, Hy1.out] at Hrs2
                    rw [Hx0'.out] at Hcol
                    rw [Hy0.out]
                    obtain ⟨ci2, hci2⟩ : ∃ z, colIn xs ys[a] ws (k + 1) = z := ⟨_, rfl⟩
                    have Hci2 := Lib.hid hci2
                    rw [Hy0.out, hci2] at Hrs2 Hcol
                    clear hci2
                    generalize colIn xs ys[a] ws k = ci at *
                    generalize rowF xs ys ws a k = rw1 at *
                    obtain ⟨xb, xo, hXe, hxbl, cx0⟩ := HX.out.at k hxl
                    obtain ⟨_, _, e2, -, cx1⟩ := HX.out.at (k + 1) hxl2
                    obtain ⟨yb, yo, hYe, hybl, cy0⟩ := HY.out.at a hyl
                    obtain ⟨_, _, e3, -, cy1⟩ := HY.out.at (a + 1) hyl2
                    subst hXe hYe
                    injection e2 with e2
                    injection e2 with e2 e2'
                    subst e2 e2'
                    injection e3 with e3
                    injection e3 with e3 e3'
                    subst e3 e3'
                    generalize xs[k] = x0 at *
                    generalize xs[k + 1] = x1 at *
                    generalize ys[a] = y0 at *
                    generalize ys[a + 1] = y1 at *
                    have Hcs : Hid (∀ W, Below w2.heap.size w2 W → W.cell? ⟨xb, xo + k, none⟩ = some (.int .i64 x0) ∧ W.cell? ⟨xb, xo + (k + 1), none⟩ = some (.int .i64 x1) ∧ W.cell? ⟨yb, yo + a, none⟩ = some (.int .i64 y0) ∧ W.cell? ⟨yb, yo + (a + 1), none⟩ = some (.int .i64 y1)) := Lib.hid (fun W hW => ⟨(hW.cell (p := ⟨xb, xo + k, none⟩) hxbl).trans cx0, (hW.cell (p := ⟨xb, xo + (k + 1), none⟩) hxbl).trans cx1, (hW.cell (p := ⟨yb, yo + a, none⟩) hybl).trans cy0, (hW.cell (p := ⟨yb, yo + (a + 1), none⟩) hybl).trans cy1⟩)
                    clear cx0 cx1 cy0 cy1
                    obtain ⟨w4, hw4⟩ : ∃ w4 : World, w4 = wr := ⟨_, rfl⟩
                    rw [← hw4] at Hown2 Hbk hsk ⊢
                    clear hw4
                    go_upto_region 29 with fail
                    go_loopw [15, 77] (fun bv tv wq => ∃ t2 : Nat, t2 ≤ t ∧ tv = .int .i64 (t2 : Int) ∧ bv = .bool (ci != oddH x0 y0 (wallsL (rs.take t2))) ∧ Below w4.heap.size w4 wq) (fun _ tv _ => t - (intOf tv).toNat)
                    case atStart => exact ⟨0, Nat.zero_le _, rfl, by simp [wallsL, oddH], Below.refl _ _⟩
                    case round =>
                      obtain ⟨t2, ht2, rfl, rfl, hbt⟩ := hrel
                      have Hbt := Lib.hid hbt
                      have hst := hbt.size
                      clear hbt
                      have Hb2t : Hid (Below w2.heap.size w2 wr) := Lib.hid (Hbk.out.trans (Hbt.out.mono hsk))
                      by_cases htn : t2 < t
                      · have htn' : (t2 : Int) < (t : Int) := by omega
                        have htl : t2 < l.length := by have := Hrn.out; have := HA2.out.len; omega
                        obtain ⟨htr, hrt⟩ := Hrl.out t2 htl
                        obtain ⟨b, off, rfl, hb, r0, hfit⟩ := (HA2.out.below Hb2t.out).at t2 htl
                        have Hwl : Hid (wallsL (rs.take (t2 + 1)) = wallsL (rs.take t2) ++ wallsTo l[t2].1 l[t2].1.length) := Lib.hid (by rw [wallsL_take htr, hrt]; rfl)
                        have Hfit : Hid (SlPt wr l[t2].2.a l[t2].1.length l[t2].2.c l[t2].1) := Lib.hid ((HA2.out.below Hb2t.out).fits _ (List.getElem_mem htl))
                        have hst2 := sum_take_le (rs.map List.length) t2 (by rw [List.length_map]; exact htr)
                        rw [List.getElem_map, hrt] at hst2
                        have hrb : l[t2].1.length ≤ 300 := by have := Ht.out; omega
                        clear hrt hst2
                        generalize wallsL (rs.take t2) = wl at *
                        generalize l[t2] = lt at *
                        obtain ⟨r, RA, rc⟩ := lt
                        dsimp only at *
                        obtain ⟨rn, hrn⟩ : ∃ rn, r.length = rn := ⟨_, rfl⟩
                        rw [hrn] at Hfit Hwl r0 hrb
                        have Hrr := Lib.hid hrn
                        clear hrn
                        obtain ⟨wo, hwo⟩ : ∃ wo : World, wo = wr := ⟨_, rfl⟩
                        rw [← hwo] at Hfit Hbt Hb2t hst r0 hb ⊢
                        clear hwo
                        have h24 : w2.heap.size ≤ wo.heap.size := Hb2t.out.size
                        go_upto_region 32 with fail
                        go_loopw [15, 83] (fun bv jv wq => ∃ j : Nat, j ≤ rn ∧ jv = .int .i64 (j : Int) ∧ bv = .bool (ci != oddH x0 y0 (wl ++ wallsTo r j)) ∧ Below wo.heap.size wo wq) (fun _ jv _ => rn - (intOf jv).toNat)
                        case atStart => exact ⟨0, Nat.zero_le _, rfl, by simp [wallsTo], Below.refl _ _⟩
                        case round =>
                          obtain ⟨j, hj, rfl, rfl, hbj⟩ := hrel
                          have Hbj := Lib.hid hbj
                          have hsj := hbj.size
                          clear hbj
                          by_cases hjn : j < rn
                          · have hkn' : (j : Int) < (rn : Int) := by omega
                            have hkl : j < r.length := by have := Hrr.out; omega
                            have hn0 : 0 < rn := by omega
                            obtain ⟨x, hx⟩ : ∃ x, (j + 1) % rn = x := ⟨_, rfl⟩
                            have hxn : x < rn := by rw [← hx]; exact Nat.mod_lt _ hn0
                            have hxl' : x < r.length := by have := Hrr.out; omega
                            have hrem := rem_succ j rn
                            rw [hx] at hrem
                            have hw1 : IntKind.i64.wrap ((j : Int) + 1) = (j : Int) + 1 := IntWalk.i64_in _ (by omega)
                            have hxn' : (x : Int) < (rn : Int) := by omega
                            have hnz : ¬ (rn : Int) = 0 := by omega
                            obtain ⟨b, off, e1, hb0, p0, p1⟩ := (Hfit.out.below Hbj.out).at j hkl
                            obtain ⟨_, _, e2, -, q0, q1⟩ := (Hfit.out.below Hbj.out).at x hxl'
                            subst e1
                            injection e2 with e2
                            injection e2 with e2 e2'
                            subst e2 e2'
                            have Hst : Hid (oddH x0 y0 (wl ++ wallsTo r (j + 1)) = (oddH x0 y0 (wl ++ wallsTo r j) != (decide (r[j].1 = r[x].1) && decide (r[j].1 = x0) && (decide (min r[j].2 r[x].2 ≤ y0) && decide (y0 < max r[j].2 r[x].2))))) := Lib.hid (by
                              have e1 : at0 r j = r[j] := at0_lt r hkl
                              have e2 : at0 r (j + 1) = r[x] := by rw [← at0_mod, Hrr.out, hx, at0_lt r hxl']
                              rw [wallsTo_succ, ← List.append_assoc, oddH_app, oddH_at, e1, e2])
                            obtain ⟨o2, ho2⟩ : ∃ z, oddH x0 y0 (wl ++ wallsTo r (j + 1)) = z := ⟨_, rfl⟩
                            have Ho2 := Lib.hid ho2
                            rw [ho2] at Hst
                            clear ho2
                            generalize oddH x0 y0 (wl ++ wallsTo r j) = o1 at *
                            generalize r[j] = p at *
                            generalize r[x] = q at *
                            obtain ⟨px, py⟩ := p
                            obtain ⟨qx, qy⟩ := q
                            dsimp only at *
                            have hbr : b < wr.heap.size := by omega
                            have hwx : IntKind.i64.wrap (x : Int) = (x : Int) := IntWalk.i64_in _ (by omega)
                            have hwr : IntKind.i64.wrap (((j : Int) + 1).tmod (rn : Int)) = (x : Int) := by rw [hrem]; exact hwx
                            have hnz' : ¬ rn = 0 := by omega
                            have hx0 : (0 : Int) ≤ (x : Int) := by omega
                            have hj0 : (0 : Int) ≤ (j : Int) := by omega
                            clear hx
                            go_upto_region 34 with fail
                            go_cut [20, 21] (fun s17 s18 wx => ∃ b1 b2 : Nat, s17 = .pointer (some ⟨b1, 0, none⟩) ∧ s18 = .pointer (some ⟨b2, 0, none⟩) ∧ wx.heap[b1]? = some (.cells #[.int .i64 px, .int .i64 py] 43 (0, 0)) ∧ wx.heap[b2]? = some (.cells #[.int .i64 qx, .int .i64 qy] 43 (0, 0)) ∧ Below wr.heap.size wr wx)
                            case first =>
                              have HSb : Hid (∀ wy, Below wr.heap.size wr wy → (fun wy => wy.cell? ⟨b, off + j * 2, none⟩ = some (.int .i64 px) ∧ wy.cell? ⟨b, off + j * 2 + 1, none⟩ = some (.int .i64 py) ∧ wy.cell? ⟨b, off + x * 2, none⟩ = some (.int .i64 qx) ∧ wy.cell? ⟨b, off + x * 2 + 1, none⟩ = some (.int .i64 qy)) wy) := Lib.hid (fun wy hy => ⟨(hy.cell (p := ⟨b, off + j * 2, none⟩) hbr).trans p0, (hy.cell (p := ⟨b, off + j * 2 + 1, none⟩) hbr).trans p1, (hy.cell (p := ⟨b, off + x * 2, none⟩) hbr).trans q0, (hy.cell (p := ⟨b, off + x * 2 + 1, none⟩) hbr).trans q1⟩)
                              clear p0 p1 q0 q1
                              refine wp_region_noPanic ?_
                              refine wp_region_held_drew (S := fun wy => wy.cell? ⟨b, off + j * 2, none⟩ = some (.int .i64 px) ∧ wy.cell? ⟨b, off + j * 2 + 1, none⟩ = some (.int .i64 py) ∧ wy.cell? ⟨b, off + x * 2, none⟩ = some (.int .i64 qx) ∧ wy.cell? ⟨b, off + x * 2 + 1, none⟩ = some (.int .i64 qy)) (by kernel_rfl) (HSb.out _ (by repeat' (first | with_reducible exact Below.refl _ _ | with_reducible refine below_drewN ?_ _ | with_reducible refine Below.drew ?_ | with_reducible refine Below.alloc ?_ ?_ _ | with_reducible refine Below.setCell ?_ ?_ _ | with_reducible refine Below.trans ?_ (Below.mono (by with_reducible assumption) ?_) | (simp; done) | (simp; omega) | omega))) (fun hHeld => ?_)
                              refine wpAnyH_take (i := 0) (v := ?vva0) rfl (by kernel_rfl) (by kernel_rfl) (by kernel_rfl) (fun _ _ _ h => h) (Or.inl ⟨by rfl, ?hya0⟩) hHeld ?resta0; (case hya0 => (intro w hSw; (try dsimp only at hSw); go_simp; all_goals (with_reducible rfl))); simp only [Act.put, List.setIfInBounds_toArray, List.set_cons_zero, List.set_cons_succ]
                              refine wpAnyH_take (i := 1) (v := ?vva1) rfl (by kernel_rfl) (by kernel_rfl) (by kernel_rfl) (fun _ _ _ h => h) (Or.inl ⟨by rfl, ?hya1⟩) hHeld ?resta1; (case hya1 => (intro w hSw; (try dsimp only at hSw); go_simp; all_goals (with_reducible rfl))); simp only [Act.put, List.setIfInBounds_toArray, List.set_cons_zero, List.set_cons_succ]
                              refine wpAnyH_take (i := 2) (v := ?vva2) rfl (by kernel_rfl) (by kernel_rfl) (by kernel_rfl) (fun _ _ _ h => h) (Or.inl ⟨by rfl, ?hya2⟩) hHeld ?resta2; (case hya2 => (intro w hSw; (try dsimp only at hSw); go_simp; all_goals (with_reducible rfl))); simp only [Act.put, List.setIfInBounds_toArray, List.set_cons_zero, List.set_cons_succ]
                              refine wpAnyH_take (i := 3) (v := ?vva3) rfl (by kernel_rfl) (by kernel_rfl) (by kernel_rfl) (fun _ _ _ h => h) (Or.inl ⟨by rfl, ?hya3⟩) hHeld ?resta3; (case hya3 => (intro w hSw; (try dsimp only at hSw); go_simp; all_goals (with_reducible rfl))); simp only [Act.put, List.setIfInBounds_toArray, List.set_cons_zero, List.set_cons_succ]
                              refine wpAnyH_take (i := 4) (v := ?vva4) rfl (by kernel_rfl) (by kernel_rfl) (by kernel_rfl) (fun _ _ _ h => h) (Or.inl ⟨by rfl, ?hya4⟩) hHeld ?resta4; (case hya4 => (intro w hSw; (try dsimp only at hSw); go_simp; all_goals (with_reducible rfl))); simp only [Act.put, List.setIfInBounds_toArray, List.set_cons_zero, List.set_cons_succ]
                              refine wpAnyH_take (i := 5) (v := ?vva5) rfl (by kernel_rfl) (by kernel_rfl) (by kernel_rfl) (fun _ _ _ h => h) (Or.inl ⟨by rfl, ?hya5⟩) hHeld ?resta5; (case hya5 => (intro w hSw; (try dsimp only at hSw); go_simp; all_goals (with_reducible rfl))); simp only [Act.put, List.setIfInBounds_toArray, List.set_cons_zero, List.set_cons_succ]
                              refine wpAnyH_take (i := 6) (v := ?vva6) rfl (by kernel_rfl) (by kernel_rfl) (by kernel_rfl) (fun _ _ _ h => h) (Or.inl ⟨by rfl, ?hya6⟩) hHeld ?resta6; (case hya6 => (intro w hSw; (try dsimp only at hSw); go_simp; all_goals (with_reducible rfl))); simp only [Act.put, List.setIfInBounds_toArray, List.set_cons_zero, List.set_cons_succ]
                              refine wpAnyH_take (i := 7) (v := ?vva7) rfl (by kernel_rfl) (by kernel_rfl) (by kernel_rfl) (fun _ _ _ h => h) (Or.inl ⟨by rfl, ?hya7⟩) hHeld ?resta7; (case hya7 => (intro w hSw; (try dsimp only at hSw); go_simp; all_goals (with_reducible rfl))); simp only [Act.put, List.setIfInBounds_toArray, List.set_cons_zero, List.set_cons_succ]
                              refine wpAnyH_take (i := 8) (v := ?vva8) rfl (by kernel_rfl) (by kernel_rfl) (by kernel_rfl) (fun _ _ _ h => h) (Or.inl ⟨by rfl, ?hya8⟩) hHeld ?resta8; (case hya8 => (intro w hSw; (try dsimp only at hSw); go_simp; all_goals (with_reducible rfl))); simp only [Act.put, List.setIfInBounds_toArray, List.set_cons_zero, List.set_cons_succ]
                              refine wpAnyH_take (i := 9) (v := ?vva9) rfl (by kernel_rfl) (by kernel_rfl) (by kernel_rfl) (fun _ _ _ h => h) (Or.inl ⟨by rfl, ?hya9⟩) hHeld ?resta9; (case hya9 => (intro w hSw; (try dsimp only at hSw); go_simp; all_goals (with_reducible rfl))); simp only [Act.put, List.setIfInBounds_toArray, List.set_cons_zero, List.set_cons_succ]
                              refine wpAnyH_take (i := 10) (v := ?vva10) rfl (by kernel_rfl) (by kernel_rfl) (by kernel_rfl) (fun _ _ _ h => h) (Or.inl ⟨by rfl, ?hya10⟩) hHeld ?resta10; (case hya10 => (intro w hSw; (try dsimp only at hSw); go_simp; all_goals (with_reducible rfl))); simp only [Act.put, List.setIfInBounds_toArray, List.set_cons_zero, List.set_cons_succ]
                              refine wpAnyH_take (i := 11) (v := ?vva11) rfl (by kernel_rfl) (by kernel_rfl) (by kernel_rfl) (fun _ _ _ h => h) (Or.inl ⟨by rfl, ?hya11⟩) hHeld ?resta11; (case hya11 => (intro w hSw; (try dsimp only at hSw); go_simp; all_goals (with_reducible rfl))); simp only [Act.put, List.setIfInBounds_toArray, List.set_cons_zero, List.set_cons_succ]
                              refine allocs_any2 (.cells #[.int .i64 0, .int .i64 0] 43) wr.drew [(12, 20), (13, 21)] 2 _ _ (by decide) (by decide) ?hop (by kernel_rfl) (fun wy hy => ?hsk) hHeld ?hrest
                              case hop =>
                                intro it hit K a0 wy hK
                                simp only [List.mem_cons, List.not_mem_nil, or_false] at hit
                                rcases hit with rfl | rfl
                                all_goals
                                  refine wpOp_step rfl (fun K' hK' => ?_)
                                  go_simp
                                  exact hK' _ _ hK
                              case hsk =>
                                obtain ⟨h1, h2, h3, h4⟩ := hy
                                exact ⟨(World.cell?_alloc_some _ _ _ (by rw [h1]; rfl)).trans h1, (World.cell?_alloc_some _ _ _ (by rw [h2]; rfl)).trans h2, (World.cell?_alloc_some _ _ _ (by rw [h3]; rfl)).trans h3, (World.cell?_alloc_some _ _ _ (by rw [h4]; rfl)).trans h4⟩
                              case hrest =>
                                intro β wy hby hβ hinj hHeld
                                have f1 : wr.heap.size ≤ β 12 ∧ _ := hβ (12, 20) (by simp)
                                have f2 : wr.heap.size ≤ β 13 ∧ _ := hβ (13, 21) (by simp)
                                obtain ⟨f1, p1⟩ := f1
                                obtain ⟨f2, p2⟩ := f2
                                have n12 : β 12 ≠ β 13 := fun e => by have := hinj (12, 20) (by simp) (13, 21) (by simp) e; simp at this
                                have Hbx : Hid (Below wr.heap.size wr wy) := Lib.hid ((Below.refl _ wr).drew.trans hby)
                                clear hβ hinj hby
                                simp only [List.map_cons, List.map_nil, setAll, putAll, List.foldl_cons, List.foldl_nil, Act.put, List.setIfInBounds_toArray, List.set_cons_zero, List.set_cons_succ]
                                simp only at p1 p2
                                have P1 := Lib.hid p1
                                have P2 := Lib.hid p2
                                have m12 := n12.symm
                                have a10 := cell_of_row wy (β 12) 0 _ _ _ p1
                                have z10 := frozen_of_row wy (β 12) 0 _ _ p1
                                have a11 := cell_of_row wy (β 12) 1 _ _ _ p1
                                have z11 := frozen_of_row wy (β 12) 1 _ _ p1
                                have a20 := cell_of_row wy (β 13) 0 _ _ _ p2
                                have z20 := frozen_of_row wy (β 13) 0 _ _ p2
                                have a21 := cell_of_row wy (β 13) 1 _ _ _ p2
                                have z21 := frozen_of_row wy (β 13) 1 _ _ p2
                                clear p1 p2
                                refine wpAnyH_ready (rs := [14]) (by kernel_rfl) (by simp) ?_; refine AllReadyH.cons rfl (fun K hK => ?_) AllReadyH.nil
                                go_simp
                                refine hK.out _ _ (HSb.out _ (by have hbx := Hbx.out; repeat' (first | with_reducible exact hbx | with_reducible refine Below.setCell ?_ ?_ _ | with_reducible assumption))) (fun hHeld => ?_)
                                clear hK K
                                (try simp only [Act.put, List.setIfInBounds_toArray, List.set_cons_zero, List.set_cons_succ])
                                refine wpAnyH_ready (rs := [15]) (by kernel_rfl) (by simp) ?_; refine AllReadyH.cons rfl (fun K hK => ?_) AllReadyH.nil
                                go_simp
                                refine hK.out _ _ (HSb.out _ (by have hbx := Hbx.out; repeat' (first | with_reducible exact hbx | with_reducible refine Below.setCell ?_ ?_ _ | with_reducible assumption))) (fun hHeld => ?_)
                                clear hK K
                                (try simp only [Act.put, List.setIfInBounds_toArray, List.set_cons_zero, List.set_cons_succ])
                                refine wpAnyH_done (by kernel_rfl) ?_ _
                                refine NoPanic.normal ?_
                                go_wp2
                                go_meet
                                case rel =>
                                  obtain ⟨q1, q2⟩ := fill2_at (x := .int .i64 px) (x' := .int .i64 qx) (y := .int .i64 py) (y' := .int .i64 qy) n12 P1.out P2.out
                                  exact ⟨β 12, β 13, rfl, rfl, q1, q2, ((((Hbx.out.setCell f1 _).setCell f1 _).setCell f2 _).setCell f2 _)⟩
                            case rest =>
                              obtain ⟨wx, rfl⟩ : ∃ wx : World, wx = wc := ⟨_, rfl⟩
                              obtain ⟨b1, b2, rfl, rfl, g1, g2, hbx⟩ := hcut
                              have Hbx : Hid (Below wo.heap.size wo wx) := Lib.hid (Hbj.out.trans (hbx.mono hsj))
                              have a10 := cell_of_row wx b1 0 _ _ _ g1
                              have a11 := cell_of_row wx b1 1 _ _ _ g1
                              have a20 := cell_of_row wx b2 0 _ _ _ g2
                              have a21 := cell_of_row wx b2 1 _ _ _ g2
                              obtain ⟨cx0, -, cy0, -⟩ := Hcs.out wx (Hb2t.out.trans (Hbx.out.mono h24))
                              have hkx' : (k : Int) < (xn : Int) := by omega
                              have hay' : (a : Int) < (yn : Int) := by omega
                              clear g1 g2 hbx p0 p1 q0 q1
                              go_upto_region 35 with fail
                              by_cases g1 : px = qx
                              · subst g1
                                by_cases g2 : px = x0
                                · subst g2
                                  by_cases g3 : min py qy ≤ y0
                                  · have e3 : decide (min py qy ≤ y0) = true := decide_eq_true g3
                                    by_cases g4 : y0 < max py qy
                                    · have e4 : decide (y0 < max py qy) = true := decide_eq_true g4
                                      have Hn2 : Hid (o2 = !o1) := Lib.hid (by rw [Hst.out, e3, e4]; simp)
                                      clear Hst
                                      go_quiet (fail)
                                      go_wp2
                                      go_roundw
                                      case rel => exact ⟨j + 1, by omega, by go_num, by rw [Ho2.out, Hn2.out]; cases ci <;> cases o1 <;> rfl, below_drewN Hbx.out _⟩
                                      case measure => simp [intOf]; omega
                                    · have e4 : decide (y0 < max py qy) = false := decide_eq_false g4
                                      have Hn2 : Hid (o2 = o1) := Lib.hid (by rw [Hst.out, e4]; simp)
                                      clear Hst
                                      go_quiet (fail)
                                      go_wp2
                                      go_roundw
                                      case rel => exact ⟨j + 1, by omega, by go_num, by rw [Ho2.out, Hn2.out], below_drewN Hbx.out _⟩
                                      case measure => simp [intOf]; omega
                                  · have e3 : decide (min py qy ≤ y0) = false := decide_eq_false g3
                                    have Hn2 : Hid (o2 = o1) := Lib.hid (by rw [Hst.out, e3]; simp)
                                    clear Hst
                                    go_quiet (fail)
                                    go_wp2
                                    go_roundw
                                    case rel => exact ⟨j + 1, by omega, by go_num, by rw [Ho2.out, Hn2.out], below_drewN Hbx.out _⟩
                                    case measure => simp [intOf]; omega
                                · have g2' : (px == x0) = false := by simpa using g2
                                  have Hn2 : Hid (o2 = o1) := Lib.hid (by rw [Hst.out, decide_eq_false g2]; simp)
                                  clear Hst
                                  go_quiet (fail)
                                  go_wp2
                                  go_roundw
                                  case rel => exact ⟨j + 1, by omega, by go_num, by rw [Ho2.out, Hn2.out], below_drewN Hbx.out _⟩
                                  case measure => simp [intOf]; omega
                              · have g1' : (px == qx) = false := by simpa using g1
                                have Hn2 : Hid (o2 = o1) := Lib.hid (by rw [Hst.out, decide_eq_false g1]; simp)
                                clear Hst
                                go_quiet (fail)
                                go_wp2
                                go_roundw
                                case rel => exact ⟨j + 1, by omega, by go_num, by rw [Ho2.out, Hn2.out], below_drewN Hbx.out _⟩
                                case measure => simp [intOf]; omega
                          · obtain rfl : j = rn := by omega
                            have hjn' : ¬ (j : Int) < (j : Int) := by omega
                            go_wp2
                            go_roundw
                            case rel => exact ⟨t2 + 1, by omega, by go_num, by rw [Hwl.out], Hbt.out.trans (Hbj.out.mono hst)⟩
                            case measure => simp [intOf]; omega
                      · obtain rfl : t2 = t := by omega
                        have htn' : ¬ (t2 : Int) < (t2 : Int) := by omega
                        have hwe : wallsL (rs.take t2) = ws := by rw [List.take_of_length_le (by have := Hrn.out; omega)]; exact Hws.out
                        rw [hwe, ← Hcol.out]
                        have Hown3 := Lib.hid (ownsRow_below Hown2.out Hbt.out)
                        have h24 : w2.heap.size ≤ wr.heap.size := Hb2t.out.size
                        clear hwe Hcol
                        cases ci2 with
                        | false =>
                          have Hrs3 : Hid (rowF xs ys ws a (k + 1) = rw1) := Lib.hid (by rw [Hrs2.out]; simp)
                          go_wp2
                          go_roundw
                          case rel => exact ⟨k + 1, by go_num, .inr (by omega), by rw [Hci2.out], by rw [Hrs3.out]; exact Hown3.out, Hb2t.out⟩
                          case measure => simp [intOf]; omega
                        | true =>
                          have Hrs3 : Hid (rowF xs ys ws a (k + 1) = rw1 ++ [⟨x0, y0, x1, y1⟩]) := Lib.hid (by rw [Hrs2.out]; simp)
                          clear Hrs2
                          have hln : (al ++ rw1).length ≤ 100000 := by rw [List.length_append]; omega
                          obtain ⟨ar, har⟩ : ∃ ar, al ++ rw1 = ar := ⟨_, rfl⟩
                          rw [har] at Hown3 hln
                          have Har : Hid (al ++ rowF xs ys ws a (k + 1) = ar ++ [⟨x0, y0, x1, y1⟩]) := Lib.hid (by rw [Hrs3.out, ← List.append_assoc, har])
                          clear har
                          have hkx' : (k : Int) < (xn : Int) := by omega
                          have hay' : (a : Int) < (yn : Int) := by omega
                          have hk1' : (0 : Int) ≤ (k : Int) + 1 := by omega
                          have ha1' : (0 : Int) ≤ (a : Int) + 1 := by omega
                          go_wp2_with fail
                          obtain ⟨cx0, cx1, cy0, cy1⟩ := Hcs.out wr Hb2t.out
                          go_region_held3 (fun w' => w'.cell? ⟨xb, xo + k, none⟩ = some (.int .i64 x0) ∧ w'.cell? ⟨xb, xo + (k + 1), none⟩ = some (.int .i64 x1) ∧ w'.cell? ⟨yb, yo + a, none⟩ = some (.int .i64 y0) ∧ w'.cell? ⟨yb, yo + (a + 1), none⟩ = some (.int .i64 y1))
                            (first
                              | go_keep
                              | (exact Hcs.out _ Hb5.out)
                              | ((repeat' apply And.intro) <;> go_keep))
                            (first
                              | (go_loud (refine step_append_any _ rfl (.tmp 141) (.tmp 161) 23 rfl w2.heap.size 58 i1 _ 4 32 Tryz.underlying23 hj hy0 hy1 hy2 rfl (by omega) _ ar.length (rCells ar) rfl (Hown3.out.drew.alloc _) (wr.heap.size + 1) _ 1 1 [.int .i64 x0, .int .i64 y0, .int .i64 x1, .int .i64 y1] rfl ⟨rfl, fun _ => ⟨_, rfl, Nat.lt_succ_self _, fun j u hu => (by exact World.news_of_block (heap_alloc_new wr.drew (.cells #[.int .i64 x0, .int .i64 y0, .int .i64 x1, .int .i64 y1] 58)) j u hu)⟩⟩ (by simp [Value.oneCell']) (by simp only [maxLen]; omega) (by omega) (by first | (simp; done) | (simp; omega) | omega) ?_)
                                 intro v5 w5 hown5 hg5 hat5
                                 have Hown5 := Lib.hid hown5
                                 have Hb5 : Hid (Below w2.heap.size w2 w5) := Lib.hid (Below.grown ((Hb2t.out.drew).alloc (by simpa using h24) _) hg5 (by rw [World.size_alloc]; simp; omega) (own_base Hown3.out))
                                 clear hown5 hg5 hat5)
                              | fail)
                          all_goals go_wp2
                          all_goals go_roundw
                          all_goals (first
                            | (case rel => exact ⟨k + 1, by go_num, .inr (by omega), by rw [Hci2.out], by rw [Har.out, List.length_append, rCells_app]; exact Hown5.out, Hb5.out⟩)
                            | skip)
                          all_goals (simp [intOf]; omega)
                  · have hkx : xn = 0 ∨ k + 1 = xn := by omega
                    have hkn' : ¬ (k : Int) + 1 < (xn : Int) := by omega
                    have hke : k = xn - 1 := by omega
                    subst hke
                    go_wp2
                    go_roundw
                    case rel => exact ⟨a + 1, by go_num, .inr (by omega), by rw [Hsucc.out]; exact Hown2.out, Hbk.out⟩
                    case measure => simp [intOf]; omega
              · have hay : yn = 0 ∨ a + 1 = yn := by omega
                have han' : ¬ (a : Int) + 1 < (yn : Int) := by omega
                have hae : a = yn - 1 := by omega
                subst hae
                have hal := allF_len xs ys ws (yn - 1)
                have hal2 : (allF xs ys ws (yn - 1)).length ≤ 90000 := by
                  have := Nat.mul_le_mul (show yn - 1 ≤ 300 by omega) (show xs.length - 1 ≤ 300 by have := HXn.out; omega)
                  omega
                generalize allF xs ys ws (yn - 1) = al at *
                obtain ⟨L, lc, rfl, hL⟩ := SlR.of_own Hown.out
                have HL := Lib.hid hL
                have Hr3 := Lib.hid ((Hbq.out.block _ hs2).trans Hr2.out)
                have Hb3 : Hid (Below w.heap.size w wr) := Lib.hid (Hb2.out.trans (Hbq.out.mono (by omega)))
                have HC := Lib.hid (combineR_any L none al.length lc 0 0 al [] 1 wr HL.out (SlR.nil _) (by omega))
                rw [Hfe.out] at HC
                have hs3 : w.heap.size < wr.heap.size := by omega
                obtain ⟨cl, hcl⟩ : ∃ cl, fillR ws = cl := ⟨_, rfl⟩
                rw [hcl] at HC Hx0
                clear hL hcl
                by_cases hbg : 120 < cl.length
                · rw [if_pos hbg] at Hx0
                  go_wp2_with (first
                    | (go_at_call 59
                       refine HC.out.mono ?_
                       rintro e w4 ⟨v4, rfl, hown4, hb4⟩
                       obtain ⟨D, dc, rfl, _⟩ := SlR.of_own hown4
                       have Hb4 : Hid (Below w.heap.size w w4) := Lib.hid (Hb3.out.trans (hb4.mono (by omega)))
                       have Hr4 := Lib.hid ((hb4.block _ hs3).trans Hr3.out)
                       have hs4 := hb4.size
                       clear hown4 hb4)
                    | (go_at_call 58
                       refine (boundR_big D cl.length dc _ hbg).mono ?_
                       rintro e w6 ⟨rfl, hb6⟩
                       have hr6 : w6.heap[w.heap.size]? = some (.cells #[.slice none 0 0] 25 (0, 0)) := (hb6.block _ (by omega)).trans Hr4.out
                       have cr6 := cell_of_row w6 w.heap.size 0 _ _ _ hr6
                       have fr6 := frozen_of_row w6 w.heap.size 0 _ _ hr6
                       have csame : (w6.setCell ⟨w.heap.size, 0, none⟩ (.slice none 0 0)).cell? ⟨w.heap.size, 0, none⟩ = some (.slice none 0 0) := (by rw [cell_of_row _ w.heap.size 0 _ _ _ (heap_setCell_same w6 w.heap.size 0 _ _ _ hr6)]; simp)
                       have Hb6 : Hid (Below w.heap.size w w6) := Lib.hid (Hb4.out.trans (hb6.mono (by omega)))
                       clear hb6 hr6)
                    | fail)
                  refine bodyPost_ret (v := .tuple #[.agg #[.slice none 0 0], .int .i64 1]) (by simp [results, Tryz.results19, go_sem, *]) rfl ?_
                  rw [Hx0.out]
                  exact ⟨_, rfl, World.ownsRow_nil _ _ _ _, Hb6.out.setCell (Nat.le_refl _) _⟩
                · rw [if_neg hbg] at Hx0
                  have hbg' : cl.length ≤ 120 := by omega
                  go_wp2_with (first
                    | (go_at_call 59
                       refine HC.out.mono ?_
                       rintro e w4 ⟨v4, rfl, hown4, hb4⟩
                       obtain ⟨D, dc, rfl, _⟩ := SlR.of_own hown4
                       have Hown4 := Lib.hid hown4
                       have Hb4 : Hid (Below w.heap.size w w4) := Lib.hid (Hb3.out.trans (hb4.mono (by omega)))
                       have Hr4 := Lib.hid ((hb4.block _ hs3).trans Hr3.out)
                       have hs4 := hb4.size
                       clear hown4 hb4)
                    | (go_at_call 58
                       refine (boundR_ok D cl.length dc _ hbg').mono ?_
                       rintro e w6 ⟨rfl, hb6⟩
                       have hr6 : w6.heap[w.heap.size]? = some (.cells #[.slice none 0 0] 25 (0, 0)) := (hb6.block _ (by omega)).trans Hr4.out
                       have cr6 := cell_of_row w6 w.heap.size 0 _ _ _ hr6
                       have fr6 := frozen_of_row w6 w.heap.size 0 _ _ hr6
                       have csame : (w6.setCell ⟨w.heap.size, 0, none⟩ (.slice D cl.length dc)).cell? ⟨w.heap.size, 0, none⟩ = some (.slice D cl.length dc) := (by rw [cell_of_row _ w.heap.size 0 _ _ _ (heap_setCell_same w6 w.heap.size 0 _ _ _ hr6)]; simp)
                       have Hown6 := Lib.hid (ownsRow_below Hown4.out hb6)
                       have Hb6 : Hid (Below w.heap.size w w6) := Lib.hid (Hb4.out.trans (hb6.mono (by omega)))
                       clear hb6 hr6)
                    | fail)
                  refine bodyPost_ret (v := .tuple #[.agg #[.slice D cl.length dc], .int .i64 0]) (by simp [results, Tryz.results19, go_sem, *]) rfl ?_
                  rw [Hx0.out]
                  have hlow := own_base Hown6.out
                  refine ⟨_, rfl, ?_, Hb6.out.setCell (Nat.le_refl _) _⟩
                  exact own_other (own_rebase Hown6.out (by omega)) (only_setCell (g := w.heap.size) (World.grownBy.refl _ _) (.inl rfl) _) (fun j hj e => by injection e with e; have := hlow j hj; omega)
end Go.Proofs.YtpcfhcdbibklcaaGreat
