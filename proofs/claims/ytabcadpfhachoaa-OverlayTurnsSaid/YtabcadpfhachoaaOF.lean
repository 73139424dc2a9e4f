/- OverlayTurns: the walk. -/
import Derived.Test.YtabcadpfhachoaaOC
namespace Go.Proofs.Ytabcadpfhachoaa
open Go.RowKit
set_option linter.unusedVariables false
set_option linter.unusedSimpArgs false

set_option maxHeartbeats 16000000 in
set_option maxRecDepth 100000 in
theorem turns07 (A : Option Addr) (n c : Nat) (zs : List Int) (p q : Int) (w : World) (hn : zs.length = n) (hc : n ≤ c) (hm : c ≤ maxLen) (hw : ∀ z ∈ zs, (Lit.int .i64 z).wf = true) (hA : Lies w A n (zs.map (.int .i64))) (hp : 0 ≤ p ∧ p ≤ 255) (hq : 0 ≤ q ∧ q ≤ 255) :
    Calls Try.prog 4 #[.slice A n c, .int .u8 p, .int .u8 q] w fun e w' => e = .returned (.bool true) ∧ Below w.heap.size w w' := by
  have HN := Lib.hid (new_any A n c zs w hn hc hm hw hA)
  clear hn hw hA hc hm
  go_enter Try.func4, Try.ntmps4
  go_wp2_with fail
  refine HN.out.mono ?_
  rintro e w0 ⟨g, rfl, hg, ht, hb0⟩
  generalize zs.take 400 = r at *
  have hlt := ht.lt
  go_wp2_with fail
  refine (range_any g r 2 4 _ ht (by omega) (by omega) (by omega)).mono ?_
  rintro e w1 ⟨rfl, ht1, hg1⟩
  have hnb := nx_bd r 3 (by omega)
  rw [show ((4 : Int) - 2 + 1) = 3 from by decide]
  obtain ⟨k0, hk0⟩ := Int.eq_ofNat_of_zero_le hnb.1
  rw [hk0] at hnb ⊢
  obtain ⟨N, hN⟩ : ∃ N : Nat, N = 2 + k0 := ⟨_, rfl⟩
  rw [show ((2 : Int) + (k0 : Int)) = ((N : Nat) : Int) from by omega]
  have hN1 : 2 ≤ N := by omega
  have hN4 : N ≤ 4 := by omega
  have Hb1 : Hid (Below w.heap.size w w1) := Lib.hid (below_only hb0 hg1 hg hb0.size)
  have hlt1 := ht1.lt
  clear hk0 hnb hg1 ht hN hb0 hlt
  go_wp2_with fail
  refine (regions_any g N r.tail 8 2 _ ht1 (by omega) (by omega) (by omega)).mono ?_
  rintro e w2 ⟨v2, L, rfl, hR2, hL2, ht2, hg2⟩
  have Hms : Hid (∀ a ∈ rgs L, Reg 8 6 a) := Lib.hid (by rw [hL2]; exact mkRegs_ok N r.tail 8 (by omega) (by omega))
  have hLn : L.length = N := by have := congrArg List.length hL2; rw [rgs_len, mkRegs_len] at this; exact this
  have Hb2 : Hid (Below w.heap.size w w2) := Lib.hid (below_only Hb1.out hg2 hg Hb1.out.size)
  have hlow := Hb1.out.size
  generalize tapeK r.tail 8 2 N = r2 at *
  obtain ⟨A2, c2, rfl, _, _, _⟩ := own_slice hR2.o
  have HR2 := Lib.hid hR2
  have HLn := Lib.hid hLn
  have Ht2 := Lib.hid ht2
  have hlt2 := ht2.lt
  rw [hLn] at HR2 ⊢
  have HG2 : Hid (SlG w2 A2 N c2 L) := Lib.hid (by have := HR2.out; rw [← hLn] at this; have := this.slg; rw [hLn] at this; exact this)
  obtain ⟨F, hF, hok⟩ := (regs_faces (s := 8) (by omega) (by rw [rgs_len, hLn]; omega) Hms.out).2
  have Hfl := Lib.hid (regs_faces (s := 8) (m := rgs L) (by omega) (by rw [rgs_len, hLn]; omega) Hms.out).1
  have HF := Lib.hid hF
  have Hok := Lib.hid hok
  have hFn : F.length ≤ 15 := by
    have h1 := faces_len hok
    rw [rgs_len, hLn] at h1
    have h2 : 2 ^ N ≤ 2 ^ 4 := Nat.pow_le_pow_right (by omega) (by omega)
    omega
  clear hL2 hLn hR2 ht2 hg2 Hb1 ht1 hF hok HN hlow
  have hpw : IntKind.i64.wrap p = p := IntWalk.i64_in _ (by omega)
  have hqw : IntKind.i64.wrap q = q := IntWalk.i64_in _ (by omega)
  have hN0 : ¬ (N : Int) = 0 := by omega
  have hN00 : ((N : Int) == 0) = false := by simpa using hN0
  obtain ⟨i0, hi, hz0, hz1, hz2⟩ := info_parts Try.infoRegion
  go_upto_region 3 with fail
  go_quiet (fail)
  obtain ⟨a, ha⟩ := Int.eq_ofNat_of_zero_le (Int.emod_nonneg p hN0)
  obtain ⟨b, hb⟩ := Int.eq_ofNat_of_zero_le (Int.emod_nonneg q hN0)
  have haN : a < N := by have := Int.emod_lt_of_pos p (show 0 < (N : Int) by omega); omega
  have hbN : b < N := by have := Int.emod_lt_of_pos q (show 0 < (N : Int) by omega); omega
  rw [ha, hb]
  clear ha hb hpw hqw hp hq hN0 hN00
  obtain ⟨w3, hw3⟩ : ∃ w3 : World, w3 = w2.drewN nq := ⟨_, rfl⟩
  rw [← hw3]
  have Hb23 : Hid (Below w2.heap.size w2 w3) := Lib.hid (by rw [hw3]; exact below_drewN (Below.refl _ _) _)
  have HG3 : Hid (SlG w3 A2 N c2 L) := Lib.hid (HG2.out.below Hb23.out)
  have Hb3 : Hid (Below w.heap.size w w3) := Lib.hid (Hb2.out.trans (Hb23.out.mono Hb2.out.size))
  have hs3 := Hb3.out.size
  have hrd : Hid (Reads w3 w3.heap.size 1 A2 N (rgCells L)) := Lib.hid (HG3.out.lies.reads (by simp [rgCells]; exact HLn.out))
  clear hw3 Hb23 HG2 HR2 Ht2 hlt2 Hb2 hlt1
  go_upto_region 5 with (first
    | (at_builtin
       refine wpList_append_any _ rfl (.tmp 38) (.tmp 39) _ rfl w3.heap.size 34 i0 _ 1 24 Try.underlying25 hi hz0 hz1 hz2 rfl (by omega) (.slice (some ⟨w3.heap.size, 0, none⟩) 0 0) 0 [] rfl (own_lit w3 34 1 0 #[] [] rfl (by simp) (Nat.zero_le _)) _ A2 N _ (rgCells L) rfl (hrd.out.below ((Below.refl _ _).alloc (Nat.le_refl _) _)) (rgCells_one L) (by simp only [maxLen]; omega) (by omega) (by simp) ?_
       intro v4 w4 hown4 hg4 hat4
       rw [List.nil_append, Nat.zero_add] at hown4
       have hb4 : Below w3.heap.size w3 w4 := ((Below.refl _ _).alloc (Nat.le_refl _) _).grown hg4 (by simp) (fun x hx => by simp [Value.ownBlock] at hx; omega)
       obtain ⟨A4, c4, rfl, _, _, _⟩ := own_slice hown4
       have Hown4 := Lib.hid hown4
       have Hb4 := Lib.hid hb4
       have hs4 := hb4.size
       clear hown4 hg4 hat4 hb4)
    | fail)
  obtain ⟨gB, capB, eB, hgB, hgL, -, -, hcB, hfB⟩ := own_at Hown4.out (by omega)
  injection eB with e1 e2 e3
  subst e1 e3
  have haL : a < L.length := by rw [HLn.out]; exact haN
  have hbL : b < L.length := by rw [HLn.out]; exact hbN
  have c0 := hcB a _ (by rw [rgCells, List.getElem?_map, List.getElem?_eq_getElem haL]; rfl)
  have d0 := hcB b _ (by rw [rgCells, List.getElem?_map, List.getElem?_eq_getElem hbL]; rfl)
  obtain ⟨va, hva⟩ : ∃ va, va = rgC L[a] := ⟨_, rfl⟩
  obtain ⟨vb, hvb⟩ : ∃ vb, vb = rgC L[b] := ⟨_, rfl⟩
  have Hva := Lib.hid hva
  have Hvb := Lib.hid hvb
  unfold rgC at c0 d0 hva hvb
  obtain ⟨Da, hDa⟩ : ∃ x, L[a].2.a = x := ⟨_, rfl⟩
  obtain ⟨qa, hqa⟩ : ∃ x, L[a].1.length = x := ⟨_, rfl⟩
  obtain ⟨da, hda⟩ : ∃ x, L[a].2.c = x := ⟨_, rfl⟩
  obtain ⟨Db, hDb⟩ : ∃ x, L[b].2.a = x := ⟨_, rfl⟩
  obtain ⟨qb, hqb⟩ : ∃ x, L[b].1.length = x := ⟨_, rfl⟩
  obtain ⟨db, hdb⟩ : ∃ x, L[b].2.c = x := ⟨_, rfl⟩
  rw [hDa, hqa, hda] at c0 hva
  rw [hDb, hqb, hdb] at d0 hvb
  have Hva' := Lib.hid hva
  have Hvb' := Lib.hid hvb
  clear hDa hqa hda hDb hqb hdb hva hvb
  have fa := hfB a
  have fb := hfB b
  have Hown5 : Hid ((w4.setCell ⟨gB, a, none⟩ vb).ownsRow w3.heap.size 34 1 (.slice (some ⟨gB, 0, none⟩) N c4) N ((rgCells L).set a vb)) := Lib.hid (own_setN Hown4.out a vb)
  obtain ⟨old, ho⟩ : ∃ old, ((rgCells L).set a vb)[b]? = some old := ⟨_, List.getElem?_eq_getElem (by simp [rgCells]; exact hbL)⟩
  have hb5 : (w4.setCell ⟨gB, a, none⟩ (.slice Db qb db)).cell? ⟨gB, b, none⟩ = some old := by
    rw [← Hvb'.out]
    obtain ⟨g', cap', e', _, _, _, _, hc', _⟩ := own_at Hown5.out (by omega)
    injection e' with e1 _ _
    injection e1 with e1
    injection e1 with e1
    subst e1
    exact hc' b old ho
  have fb5 : (w4.setCell ⟨gB, a, none⟩ (.slice Db qb db)).frozen? ⟨gB, b, none⟩ = false := by rw [World.frozen?_setCell]; exact fb
  obtain ⟨wd, hwd⟩ : ∃ wd : World, wd = w4.drew := ⟨_, rfl⟩
  have c0' : wd.cell? ⟨gB, a, none⟩ = some (.slice Da qa da) := by rw [hwd]; exact c0
  have d0' : wd.cell? ⟨gB, b, none⟩ = some (.slice Db qb db) := by rw [hwd]; exact d0
  have fa' : wd.frozen? ⟨gB, a, none⟩ = false := by rw [hwd]; exact fa
  have hb5' : (wd.setCell ⟨gB, a, none⟩ (.slice Db qb db)).cell? ⟨gB, b, none⟩ = some old := by rw [hwd]; exact hb5
  have fb5' : (wd.setCell ⟨gB, a, none⟩ (.slice Db qb db)).frozen? ⟨gB, b, none⟩ = false := by rw [hwd]; exact fb5
  have Hown6 : Hid (((wd.setCell ⟨gB, a, none⟩ (.slice Db qb db)).setCell ⟨gB, b, none⟩ (.slice Da qa da)).ownsRow w3.heap.size 34 1 (.slice (some ⟨gB, 0, none⟩) N c4) N (((rgCells L).set a vb).set b va)) := Lib.hid (by rw [hwd, ← Hvb'.out, ← Hva'.out]; exact own_setN (own_setN Hown4.out a vb) b va)
  have hb3d : Below w3.heap.size w3 ((wd.setCell ⟨gB, a, none⟩ (.slice Db qb db)).setCell ⟨gB, b, none⟩ (.slice Da qa da)) := by rw [hwd]; exact (((Hb4.out).drew).setCell (by exact hgB) _).setCell (by exact hgB) _
  have Hb3d := Lib.hid hb3d
  clear hcB hfB ho hb5 fb5 c0 d0 fa fb hb3d Hown5 Hown4
  have hai : (a : Int) < (N : Int) := by omega
  have hbi : (b : Int) < (N : Int) := by omega
  have ha0 : 0 ≤ (a : Int) := by omega
  have hb0 : 0 ≤ (b : Int) := by omega
  refine wp_region_held (S := fun _ => True) (by kernel_rfl) ?_
  change wpAnyH _ _ _ _ _ 16 #[false, false, false, false, false, false, false, false, false, false, false, false, false, false, false, false] _ w4.drew
  rw [← hwd]
  clear hwd
  have hHeld : (fun _ : World => True) wd := trivial
  refine wpAnyH_take (i := 0) (v := ?vva0) rfl (by kernel_rfl) (by kernel_rfl) (by kernel_rfl) (fun _ _ _ h => h) (Or.inl ⟨by rfl, ?hya0⟩) hHeld ?resta0; (case hya0 => (intro w hSw; (try dsimp only at hSw); go_simp; all_goals (with_reducible rfl))); simp only [Act.put, List.getElem_toArray, List.getElem_cons_zero, List.getElem_cons_succ, List.setIfInBounds_toArray, List.set_cons_zero, List.set_cons_succ]
  refine wpAnyH_take (i := 1) (v := ?vva1) rfl (by kernel_rfl) (by kernel_rfl) (by kernel_rfl) (fun _ _ _ h => h) (Or.inl ⟨by rfl, ?hya1⟩) hHeld ?resta1; (case hya1 => (intro w hSw; (try dsimp only at hSw); go_simp; all_goals (with_reducible rfl))); simp only [Act.put, List.getElem_toArray, List.getElem_cons_zero, List.getElem_cons_succ, List.setIfInBounds_toArray, List.set_cons_zero, List.set_cons_succ]
  refine wpAnyH_take (i := 2) (v := ?vva2) rfl (by kernel_rfl) (by kernel_rfl) (by kernel_rfl) (fun _ _ _ h => h) (Or.inl ⟨by rfl, ?hya2⟩) hHeld ?resta2; (case hya2 => (intro w hSw; (try dsimp only at hSw); go_simp; all_goals (with_reducible rfl))); simp only [Act.put, List.getElem_toArray, List.getElem_cons_zero, List.getElem_cons_succ, List.setIfInBounds_toArray, List.set_cons_zero, List.set_cons_succ]
  refine wpAnyH_take (i := 3) (v := ?vva3) rfl (by kernel_rfl) (by kernel_rfl) (by kernel_rfl) (fun _ _ _ h => h) (Or.inl ⟨by rfl, ?hya3⟩) hHeld ?resta3; (case hya3 => (intro w hSw; (try dsimp only at hSw); go_simp; all_goals (with_reducible rfl))); simp only [Act.put, List.getElem_toArray, List.getElem_cons_zero, List.getElem_cons_succ, List.setIfInBounds_toArray, List.set_cons_zero, List.set_cons_succ]
  refine wpAnyH_take (i := 4) (v := ?vva4) rfl (by kernel_rfl) (by kernel_rfl) (by kernel_rfl) (fun _ _ _ h => h) (Or.inl ⟨by rfl, ?hya4⟩) hHeld ?resta4; (case hya4 => (intro w hSw; (try dsimp only at hSw); go_simp; all_goals (with_reducible rfl))); simp only [Act.put, List.getElem_toArray, List.getElem_cons_zero, List.getElem_cons_succ, List.setIfInBounds_toArray, List.set_cons_zero, List.set_cons_succ]
  refine wpAnyH_take (i := 5) (v := ?vva5) rfl (by kernel_rfl) (by kernel_rfl) (by kernel_rfl) (fun _ _ _ h => h) (Or.inl ⟨by rfl, ?hya5⟩) hHeld ?resta5; (case hya5 => (intro w hSw; (try dsimp only at hSw); go_simp; all_goals (with_reducible rfl))); simp only [Act.put, List.getElem_toArray, List.getElem_cons_zero, List.getElem_cons_succ, List.setIfInBounds_toArray, List.set_cons_zero, List.set_cons_succ]
  refine wpAnyH_take (i := 6) (v := ?vva6) rfl (by kernel_rfl) (by kernel_rfl) (by kernel_rfl) (fun _ _ _ h => h) (Or.inl ⟨by rfl, ?hya6⟩) hHeld ?resta6; (case hya6 => (intro w hSw; (try dsimp only at hSw); go_simp; all_goals (with_reducible rfl))); simp only [Act.put, List.getElem_toArray, List.getElem_cons_zero, List.getElem_cons_succ, List.setIfInBounds_toArray, List.set_cons_zero, List.set_cons_succ]
  refine wpAnyH_take (i := 8) (v := ?vva8) rfl (by kernel_rfl) (by kernel_rfl) (by kernel_rfl) (fun _ _ _ h => h) (Or.inl ⟨by rfl, ?hya8⟩) hHeld ?resta8; (case hya8 => (intro w hSw; (try dsimp only at hSw); go_simp; all_goals (with_reducible rfl))); simp only [Act.put, List.getElem_toArray, List.getElem_cons_zero, List.getElem_cons_succ, List.setIfInBounds_toArray, List.set_cons_zero, List.set_cons_succ]
  refine wpAnyH_take (i := 9) (v := ?vva9) rfl (by kernel_rfl) (by kernel_rfl) (by kernel_rfl) (fun _ _ _ h => h) (Or.inl ⟨by rfl, ?hya9⟩) hHeld ?resta9; (case hya9 => (intro w hSw; (try dsimp only at hSw); go_simp; all_goals (with_reducible rfl))); simp only [Act.put, List.getElem_toArray, List.getElem_cons_zero, List.getElem_cons_succ, List.setIfInBounds_toArray, List.set_cons_zero, List.set_cons_succ]
  refine wpAnyH_take (i := 10) (v := ?vva10) rfl (by kernel_rfl) (by kernel_rfl) (by kernel_rfl) (fun _ _ _ h => h) (Or.inl ⟨by rfl, ?hya10⟩) hHeld ?resta10; (case hya10 => (intro w hSw; (try dsimp only at hSw); go_simp; all_goals (with_reducible rfl))); simp only [Act.put, List.getElem_toArray, List.getElem_cons_zero, List.getElem_cons_succ, List.setIfInBounds_toArray, List.set_cons_zero, List.set_cons_succ]
  have hM := hai
  refine wpAnyH_ready (rs := [7, 11]) (by kernel_rfl) (by simp) ?_
  refine AllReadyH.cons rfl (fun K hK => ?_) (AllReadyH.cons rfl (fun K hK => ?_) AllReadyH.nil)
  · go_simp
    refine hK.out _ _ trivial (fun hHeld => ?_)
    clear hK K
    try simp only [Act.put, List.getElem_toArray, List.getElem_cons_zero, List.getElem_cons_succ, List.setIfInBounds_toArray, List.set_cons_zero, List.set_cons_succ]
    refine wpAnyH_ready (rs := [11]) (by kernel_rfl) (by simp) ?_; refine AllReadyH.cons rfl (fun K hK => ?_) AllReadyH.nil
    go_simp
    refine hK.out _ _ trivial (fun hHeld => ?_)
    clear hK K
    try simp only [Act.put, List.getElem_toArray, List.getElem_cons_zero, List.getElem_cons_succ, List.setIfInBounds_toArray, List.set_cons_zero, List.set_cons_succ]
    refine wpAnyH_ready (rs := [12]) (by kernel_rfl) (by simp) ?_; refine AllReadyH.cons rfl (fun K hK => ?_) AllReadyH.nil
    go_simp
    refine hK.out _ _ trivial (fun hHeld => ?_)
    clear hK K
    try simp only [Act.put, List.getElem_toArray, List.getElem_cons_zero, List.getElem_cons_succ, List.setIfInBounds_toArray, List.set_cons_zero, List.set_cons_succ]
    refine wpAnyH_ready (rs := [13]) (by kernel_rfl) (by simp) ?_; refine AllReadyH.cons rfl (fun K hK => ?_) AllReadyH.nil
    go_simp
    refine hK.out _ _ trivial (fun hHeld => ?_)
    clear hK K
    try simp only [Act.put, List.getElem_toArray, List.getElem_cons_zero, List.getElem_cons_succ, List.setIfInBounds_toArray, List.set_cons_zero, List.set_cons_succ]
    refine wpAnyH_ready (rs := [14]) (by kernel_rfl) (by simp) ?_; refine AllReadyH.cons rfl (fun K hK => ?_) AllReadyH.nil
    go_simp
    refine hK.out _ _ trivial (fun hHeld => ?_)
    clear hK K
    try simp only [Act.put, List.getElem_toArray, List.getElem_cons_zero, List.getElem_cons_succ, List.setIfInBounds_toArray, List.set_cons_zero, List.set_cons_succ]
    refine wpAnyH_ready (rs := [15]) (by kernel_rfl) (by simp) ?_; refine AllReadyH.cons rfl (fun K hK => ?_) AllReadyH.nil
    go_simp
    refine hK.out _ _ trivial (fun hHeld => ?_)
    clear hK K
    try simp only [Act.put, List.getElem_toArray, List.getElem_cons_zero, List.getElem_cons_succ, List.setIfInBounds_toArray, List.set_cons_zero, List.set_cons_succ]
    refine wpAnyH_done (by kernel_rfl) ?_ _
    clear hHeld
    obtain ⟨w5, hw5⟩ : ∃ w5 : World, w5 = (wd.setCell ⟨gB, a, none⟩ (.slice Db qb db)).setCell ⟨gB, b, none⟩ (.slice Da qa da) := ⟨_, rfl⟩
    rw [← hw5] at Hown6 Hb3d ⊢
    have hLs : rgCells ((L.set a L[b]).set b L[a]) = ((rgCells L).set a vb).set b va := by rw [Hva.out, Hvb.out]; simp [rgCells, List.map_set]
    have hrg : rgs ((L.set a L[b]).set b L[a]) = swapL (rgs L) a b (by rw [rgs_len]; exact haL) (by rw [rgs_len]; exact hbL) := by simp [rgs, List.map_set, swapL]
    have hmem : ∀ x ∈ (L.set a L[b]).set b L[a], x ∈ L := fun x hx => by
      rcases List.mem_or_eq_of_mem_set hx with h | rfl
      · rcases List.mem_or_eq_of_mem_set h with h | rfl
        · exact h
        · exact List.getElem_mem _
      · exact List.getElem_mem _
    have hlen' : ((L.set a L[b]).set b L[a]).length = N := by simp [HLn.out]
    generalize (L.set a L[b]).set b L[a] = L' at *
    rw [← hLs] at Hown6
    have HG5 := Lib.hid (HG3.out.below Hb3d.out)
    have HG5' : Hid (SlG w5 (some ⟨gB, 0, none⟩) N c4 L') := Lib.hid (by
      obtain ⟨A', c', e', h1, h2, h3⟩ := own_slice Hown6.out
      injection e' with e1 _ e3
      subst e1
      subst e3
      exact ⟨hlen', h2, h3, h1, fun x hx => HG5.out.fits x (hmem x hx)⟩)
    have Hb5 : Hid (Below w.heap.size w w5) := Lib.hid (Hb3.out.trans (Hb3d.out.mono hs3))
    have hs5 := Hb5.out.size
    have hreg' : ∀ a ∈ rgs L', Reg 8 6 a := fun x hx => by
      obtain ⟨y, hy, rfl⟩ := List.mem_map.1 hx
      exact Hms.out _ (List.mem_map.2 ⟨y, hmem y hy, rfl⟩)
    have hf2 := regs_faces (s := 8) (m := rgs L') (by omega) (by rw [rgs_len, hlen']; omega) hreg'
    obtain ⟨G, hG, hokG⟩ := hf2.2
    have Hfl' := Lib.hid hf2.1
    have HGf := Lib.hid hG
    rw [hrg] at hokG
    have Hlaw := Lib.hid (turns_law Hok.out hokG)
    have Hfc := Lib.hid (faces_any A2 N c2 L w5 HG5.out Hfl.out)
    rw [HF.out] at Hfc
    clear hw5 hLs hrg hmem hlen' hreg' hf2 hG hokG Hown6 Hb3d HG3 hb5' fb5' c0' d0' fa' Hva Hvb Hva' Hvb' Hb4 hs4 Hb3 hs3 hM hrd
    go_wp2_with fail
    refine Hfc.out.mono ?_
    intro e w6 h6
    obtain ⟨fl, A6, c6, rfl, hF6, hfl, hb6⟩ := h6.parts
    have hfn : fl.length = F.length := by have := congrArg List.length hfl; simpa [fcs] using this
    have Hfl6 := Lib.hid hfl
    have HF6 : Hid (SlF w6 A6 fl.length c6 fl) := Lib.hid hF6.slf
    obtain ⟨nf, hnf⟩ : ∃ nf, nf = fl.length := ⟨_, rfl⟩
    rw [← hnf] at HF6 ⊢
    have hfn15 : nf ≤ 15 := by omega
    have Hfc2 := Lib.hid (faces_any (some ⟨gB, 0, none⟩) N c4 L' w6 (HG5'.out.below hb6) Hfl'.out)
    rw [HGf.out] at Hfc2
    have Hb6 := Lib.hid (Hb5.out.trans (hb6.mono hs5))
    have hs6 := Hb6.out.size
    have Hfn := Lib.hid (hnf.trans hfn)
    clear h6 hF6 hfl hb6 hfn hnf Hfc
    go_wp2_with fail
    refine Hfc2.out.mono ?_
    intro e w7 h7
    obtain ⟨gl, A7, c7, rfl, hF7, hgl, hb7⟩ := h7.parts
    have hgn : gl.length = G.length := by have := congrArg List.length hgl; simpa [fcs] using this
    have Hgl7 := Lib.hid hgl
    have HF7 : Hid (SlF w7 A7 gl.length c7 gl) := Lib.hid hF7.slf
    have hgf : gl.length = nf := by rw [hgn, ← Hlaw.out.1, Hfn.out]
    rw [hgf] at HF7 ⊢
    have Hf7 := Lib.hid (HF6.out.below hb7)
    have Hb7 := Lib.hid (Hb6.out.trans (hb7.mono hs6))
    have hs7 := Hb7.out.size
    have HgN := Lib.hid hgf
    have HLaw := Lib.hid Hlaw.out.2
    clear h7 hF7 hgl hb7 hgn hgf Hfc2 Hlaw HF6 HG5' HG5 Hb6 hs6 Hb5 hs5
    have HW : Hid (∀ (j k : Nat) (hj : j < fl.length) (hk : k < gl.length) (W : World), Below w7.heap.size w7 W → Calls Try.prog 13 #[.agg #[.slice fl[j].2.a fl[j].1.rg.length fl[j].2.c], .agg #[.slice gl[k].2.a gl[k].1.rg.length gl[k].2.c]] W fun e w' => e = .returned (.bool (decide (fl[j].1.rg = gl[k].1.rg))) ∧ Below W.heap.size W w') :=
      Lib.hid (fun j k hj hk W hW => sameRef_any _ _ _ _ _ _ _ _ W ((Hf7.out.below hW).fits _ (List.getElem_mem hj)) ((HF7.out.below hW).fits _ (List.getElem_mem hk)))
    go_upto_region 11 with fail
    go_loopw [80] (fun iv wr => ∃ k : Nat, iv = .int .i64 (k : Int) ∧ k ≤ nf ∧ Below w7.heap.size w7 wr) (fun iv _ => nf - (intOf iv).toNat)
    case atStart => exact ⟨0, rfl, by omega, Below.refl _ _⟩
    case round =>
      obtain ⟨k, rfl, hkn, hbk⟩ := hrel
      have Hbk := Lib.hid hbk
      have hsk := hbk.size
      clear hbk
      obtain ⟨wo, rfl⟩ : ∃ wo : World, wo = wr := ⟨_, rfl⟩
      by_cases hkl : k < nf
      · have hkl' : (k : Int) < (nf : Int) := by omega
        have hkf : k < fl.length := by have := Hf7.out.len; omega
        obtain ⟨b1, off, rfl, hb1, c0, c1, _⟩ := (Hf7.out.below Hbk.out).at k hkf
        have hmem : fl[k].1 ∈ F := by rw [← Hfl6.out]; exact List.mem_map.2 ⟨_, List.getElem_mem hkf, rfl⟩
        have Hlaw := Lib.hid (HLaw.out _ hmem)
        have hbd := Hok.out.pos _ hmem
        obtain ⟨z, hz⟩ := Int.eq_ofNat_of_zero_le (show 0 ≤ fl[k].1.set by omega)
        have Hwk := Lib.hid (fun j hj W hW => HW.out k j hkf hj W hW)
        rw [hz, Int.toNat_natCast] at Hlaw
        rw [hz] at hbd c0
        have hz16 : z < 16 := by
          have h1 : (2 : Int) ^ (rgs L).length ≤ 16 := by
            have h : 2 ^ (rgs L).length ≤ 2 ^ 4 := Nat.pow_le_pow_right (by omega) (by rw [rgs_len, HLn.out]; exact hN4)
            have := Int.ofNat_le.2 h
            simpa using this
          have h2 := hbd.2
          omega
        obtain ⟨D, hD⟩ : ∃ D, fl[k].2.a = D := ⟨_, rfl⟩
        obtain ⟨q1, hq⟩ : ∃ q, fl[k].1.rg.length = q := ⟨_, rfl⟩
        obtain ⟨d, hd⟩ : ∃ d, fl[k].2.c = d := ⟨_, rfl⟩
        obtain ⟨rx, hrx⟩ : ∃ rx, fl[k].1.rg = rx := ⟨_, rfl⟩
        rw [hD, hq, hd, hrx] at Hwk
        rw [hD, hq, hd] at c1
        rw [hrx] at Hlaw
        clear hD hq hd hrx hz hmem hbd
        go_upto_region 14 with fail
        go_quiet (fail)
        have hA := bit_at z a (by omega)
        have hB := bit_at z b (by omega)
        have hX := xor_at z a b (by omega) (by omega) (by omega)
        obtain ⟨P0, hP0⟩ : ∃ P, wo.heap.size = P := ⟨_, rfl⟩
        have Hrow : Hid ((wo.alloc (.cells #[.int .i64 (z : Int), .slice D q1 d] 37)).heap[P0]? = some (.cells #[.int .i64 (z : Int), .slice D q1 d] 37 (0, 0))) := Lib.hid (by rw [← hP0]; exact heap_alloc_new wo _)
        have Hb8 : Hid (Below w7.heap.size w7 (wo.alloc (.cells #[.int .i64 (z : Int), .slice D q1 d] 37))) := Lib.hid (Hbk.out.alloc hsk _)
        have hs8 : P0 < (wo.alloc (.cells #[.int .i64 (z : Int), .slice D q1 d] 37)).heap.size := by rw [← hP0]; simp
        rw [hP0]
        generalize wo.alloc (.cells #[.int .i64 (z : Int), .slice D q1 d] 37) = w8 at *
        clear hP0
        by_cases hbit : z.testBit a = z.testBit b
        · have hsn : swapN a b z = z := by unfold swapN; rw [if_pos hbit]
          rw [hsn] at Hlaw
          rw [hbit] at hA
          clear hX hsn hbit
          generalize (((z.testBit b).toNat : Nat) : Int) = cb at *
          rw [hA, hB]
          clear hA hB
          obtain ⟨sn, hsn⟩ : ∃ sn, z = sn := ⟨_, rfl⟩
          rw [hsn] at Hlaw ⊢
          have Hsn := Lib.hid hsn
          have hnn : (cb != cb) = false := by simp
          rw [hnn]
          clear hsn hnn
          go_upto_region 18 with fail
          go_loopw [19, 104] (fun fv iv wr => ∃ j : Nat, iv = .int .i64 (j : Int) ∧ j ≤ nf ∧ fv = .bool ((gl.take j).any fun y => decide (y.1.set = (sn : Int)) && decide (rx = y.1.rg)) ∧ Below w8.heap.size w8 wr) (fun _ iv _ => nf - (intOf iv).toNat)
          case atStart => exact ⟨0, rfl, by omega, by simp, (by repeat' (first | with_reducible exact Below.refl _ _ | with_reducible refine below_drewN ?_ _ | with_reducible refine Below.drew ?_ | with_reducible refine Below.alloc ?_ ?_ _ | with_reducible refine Below.setCell ?_ ?_ _ | with_reducible refine Below.trans ?_ (Below.mono (by with_reducible assumption) ?_) | (simp; done) | (simp; omega) | omega))⟩
          case round =>
            obtain ⟨j, rfl, hjn, rfl, hbj⟩ := hrel
            have Hbj := Lib.hid hbj
            have hsj := hbj.size
            have hs78 := Hb8.out.size
            clear hbj
            by_cases hjl : j < nf
            · have hjl' : (j : Int) < (nf : Int) := by omega
              have hjf : j < gl.length := by have := HgN.out; omega
              have Hb7j : Hid (Below w7.heap.size w7 wr) := Lib.hid (Hb8.out.trans (Hbj.out.mono hs78))
              have hs7j := Hb7j.out.size
              obtain ⟨b2, off2, rfl, hb2, d0, d1, _⟩ := (HF7.out.below Hb7j.out).at j hjf
              have Hst : Hid ((gl.take (j + 1)).any (fun y => decide (y.1.set = (sn : Int)) && decide (rx = y.1.rg)) = ((gl.take j).any (fun y => decide (y.1.set = (sn : Int)) && decide (rx = y.1.rg)) || (decide (gl[j].1.set = (sn : Int)) && decide (rx = gl[j].1.rg)))) := Lib.hid (by rw [List.take_succ_eq_append_getElem hjf, List.any_append, List.any_cons, List.any_nil, Bool.or_false])
              have Hwj := Lib.hid (fun W hW => Hwk.out j hjf W hW)
              obtain ⟨z2, hz2'⟩ : ∃ x, gl[j].1.set = x := ⟨_, rfl⟩
              obtain ⟨D2, hD2⟩ : ∃ x, gl[j].2.a = x := ⟨_, rfl⟩
              obtain ⟨q2, hq2⟩ : ∃ x, gl[j].1.rg.length = x := ⟨_, rfl⟩
              obtain ⟨e2, he2⟩ : ∃ x, gl[j].2.c = x := ⟨_, rfl⟩
              obtain ⟨wi, hwi⟩ : ∃ x, decide (rx = gl[j].1.rg) = x := ⟨_, rfl⟩
              rw [hD2, hq2, he2, hwi] at Hwj
              rw [hD2, hq2, he2] at d1
              rw [hz2'] at d0
              rw [hz2', hwi] at Hst
              obtain ⟨fj, hfj⟩ : ∃ x, (gl.take j).any (fun y => decide (y.1.set = (sn : Int)) && decide (rx = y.1.rg)) = x := ⟨_, rfl⟩
              obtain ⟨fj', hfj'⟩ : ∃ x, (gl.take (j + 1)).any (fun y => decide (y.1.set = (sn : Int)) && decide (rx = y.1.rg)) = x := ⟨_, rfl⟩
              rw [hfj, hfj'] at Hst
              rw [hfj]
              have Hfj' := Lib.hid hfj'
              clear hz2' hD2 hq2 he2 hwi hfj hfj'
              have hP0r : P0 < wr.heap.size := by omega
              have hrow1 := (Hbj.out.block _ hs8).trans Hrow.out
              have x0 := cell_of_row _ _ 0 _ _ _ hrow1
              have x1 := cell_of_row _ _ 1 _ _ _ hrow1
              clear hrow1
              cases fj
              · by_cases heq : z2 = (sn : Int)
                · subst heq
                  cases wi
                  · go_wp2_with (first
                      | (go_at_call 13
                         refine (Hwj.out _ (by have hb7j := Hb7j.out; exact (by repeat' (first | with_reducible exact Below.refl _ _ | with_reducible assumption | with_reducible refine below_drewN ?_ _ | with_reducible refine Below.drew ?_ | with_reducible refine Below.alloc ?_ ?_ _ | with_reducible refine Below.setCell ?_ ?_ _ | with_reducible refine Below.trans ?_ (Below.mono (by with_reducible assumption) ?_) | with_reducible refine below_only ?_ (by with_reducible assumption) ?_ ?_ | (simp; done) | (simp; omega) | omega)))).mono ?_
                         rintro e w5 ⟨rfl, hb5⟩
                         have Hb5 : Hid (Below wr.heap.size wr w5) := Lib.hid (show Below wr.heap.size wr w5 from (by have hbq := hb5; exact (by repeat' (first | with_reducible exact Below.refl _ _ | with_reducible assumption | with_reducible refine below_drewN ?_ _ | with_reducible refine Below.drew ?_ | with_reducible refine Below.alloc ?_ ?_ _ | with_reducible refine Below.setCell ?_ ?_ _ | with_reducible refine Below.trans ?_ (Below.mono (by with_reducible assumption) ?_) | with_reducible refine below_only ?_ (by with_reducible assumption) ?_ ?_ | (simp; done) | (simp; omega) | omega))))
                         clear hb5)
                      | fail)
                    go_roundw
                    case rel => exact ⟨j + 1, by go_num, by omega, by rw [Hfj'.out, Hst.out]; simp, Hbj.out.trans (Hb5.out.mono hsj)⟩
                    case measure => simp [intOf]; omega
                  · go_wp2_with (first
                      | (go_at_call 13
                         refine (Hwj.out _ (by have hb7j := Hb7j.out; exact (by repeat' (first | with_reducible exact Below.refl _ _ | with_reducible assumption | with_reducible refine below_drewN ?_ _ | with_reducible refine Below.drew ?_ | with_reducible refine Below.alloc ?_ ?_ _ | with_reducible refine Below.setCell ?_ ?_ _ | with_reducible refine Below.trans ?_ (Below.mono (by with_reducible assumption) ?_) | with_reducible refine below_only ?_ (by with_reducible assumption) ?_ ?_ | (simp; done) | (simp; omega) | omega)))).mono ?_
                         rintro e w5 ⟨rfl, hb5⟩
                         have Hb5 : Hid (Below wr.heap.size wr w5) := Lib.hid (show Below wr.heap.size wr w5 from (by have hbq := hb5; exact (by repeat' (first | with_reducible exact Below.refl _ _ | with_reducible assumption | with_reducible refine below_drewN ?_ _ | with_reducible refine Below.drew ?_ | with_reducible refine Below.alloc ?_ ?_ _ | with_reducible refine Below.setCell ?_ ?_ _ | with_reducible refine Below.trans ?_ (Below.mono (by with_reducible assumption) ?_) | with_reducible refine below_only ?_ (by with_reducible assumption) ?_ ?_ | (simp; done) | (simp; omega) | omega))))
                         clear hb5)
                      | fail)
                    go_roundw
                    case rel => exact ⟨j + 1, by go_num, by omega, by rw [Hfj'.out, Hst.out]; simp, Hbj.out.trans (Hb5.out.mono hsj)⟩
                    case measure => simp [intOf]; omega
                · have hne : (z2 == (sn : Int)) = false := by simpa using heq
                  go_wp2_with fail
                  go_roundw
                  case rel => exact ⟨j + 1, by go_num, by omega, by rw [Hfj'.out, Hst.out]; simp [heq], Hbj.out.alloc hsj _⟩
                  case measure => simp [intOf]; omega
              · go_wp2_with fail
                go_roundw
                case rel => exact ⟨j + 1, by go_num, by omega, by rw [Hfj'.out, Hst.out]; simp, Hbj.out.alloc hsj _⟩
                case measure => simp [intOf]; omega
            · obtain rfl : j = nf := by omega
              have hfound : ((gl.take j).any fun y => decide (y.1.set = (sn : Int)) && decide (rx = y.1.rg)) = true := by
                rw [show gl.take j = gl from List.take_of_length_le (by have := HgN.out; omega)]
                obtain ⟨f, hf, h1, h2⟩ := Hlaw.out
                rw [← Hgl7.out] at hf
                obtain ⟨y, hy, rfl⟩ := List.mem_map.1 hf
                exact List.any_eq_true.2 ⟨y, hy, by simp [h1, h2]⟩
              rw [hfound]
              clear hfound
              go_wp2
              go_roundw
              case rel => exact ⟨k + 1, by go_num, by omega, Hb8.out.trans (Hbj.out.mono hs78)⟩
              case measure => simp [intOf]; omega
        · have hsn : swapN a b z = z ^^^ (2 ^ a ||| 2 ^ b) := by unfold swapN; rw [if_neg hbit]
          rw [hsn] at Hlaw
          obtain ⟨sn, hsn2⟩ : ∃ sn, z ^^^ (2 ^ a ||| 2 ^ b) = sn := ⟨_, rfl⟩
          rw [hsn2] at Hlaw hX
          clear hsn hsn2
          have hne : ((((z.testBit a).toNat : Nat) : Int) != (((z.testBit b).toNat : Nat) : Int)) = true := by
            revert hbit
            cases z.testBit a <;> cases z.testBit b <;> simp
          rw [hA, hB, hne]
          clear hA hB hne hbit
          go_upto_region 15 with fail
          go_quiet (fail)
          go_upto_region 18 with fail
          go_loopw [19, 104] (fun fv iv wr => ∃ j : Nat, iv = .int .i64 (j : Int) ∧ j ≤ nf ∧ fv = .bool ((gl.take j).any fun y => decide (y.1.set = (sn : Int)) && decide (rx = y.1.rg)) ∧ Below w8.heap.size w8 wr) (fun _ iv _ => nf - (intOf iv).toNat)
          case atStart => exact ⟨0, rfl, by omega, by simp, (by repeat' (first | with_reducible exact Below.refl _ _ | with_reducible refine below_drewN ?_ _ | with_reducible refine Below.drew ?_ | with_reducible refine Below.alloc ?_ ?_ _ | with_reducible refine Below.setCell ?_ ?_ _ | with_reducible refine Below.trans ?_ (Below.mono (by with_reducible assumption) ?_) | (simp; done) | (simp; omega) | omega))⟩
          case round =>
            obtain ⟨j, rfl, hjn, rfl, hbj⟩ := hrel
            have Hbj := Lib.hid hbj
            have hsj := hbj.size
            have hs78 := Hb8.out.size
            clear hbj
            by_cases hjl : j < nf
            · have hjl' : (j : Int) < (nf : Int) := by omega
              have hjf : j < gl.length := by have := HgN.out; omega
              have Hb7j : Hid (Below w7.heap.size w7 wr) := Lib.hid (Hb8.out.trans (Hbj.out.mono hs78))
              have hs7j := Hb7j.out.size
              obtain ⟨b2, off2, rfl, hb2, d0, d1, _⟩ := (HF7.out.below Hb7j.out).at j hjf
              have Hst : Hid ((gl.take (j + 1)).any (fun y => decide (y.1.set = (sn : Int)) && decide (rx = y.1.rg)) = ((gl.take j).any (fun y => decide (y.1.set = (sn : Int)) && decide (rx = y.1.rg)) || (decide (gl[j].1.set = (sn : Int)) && decide (rx = gl[j].1.rg)))) := Lib.hid (by rw [List.take_succ_eq_append_getElem hjf, List.any_append, List.any_cons, List.any_nil, Bool.or_false])
              have Hwj := Lib.hid (fun W hW => Hwk.out j hjf W hW)
              obtain ⟨z2, hz2'⟩ : ∃ x, gl[j].1.set = x := ⟨_, rfl⟩
              obtain ⟨D2, hD2⟩ : ∃ x, gl[j].2.a = x := ⟨_, rfl⟩
              obtain ⟨q2, hq2⟩ : ∃ x, gl[j].1.rg.length = x := ⟨_, rfl⟩
              obtain ⟨e2, he2⟩ : ∃ x, gl[j].2.c = x := ⟨_, rfl⟩
              obtain ⟨wi, hwi⟩ : ∃ x, decide (rx = gl[j].1.rg) = x := ⟨_, rfl⟩
              rw [hD2, hq2, he2, hwi] at Hwj
              rw [hD2, hq2, he2] at d1
              rw [hz2'] at d0
              rw [hz2', hwi] at Hst
              obtain ⟨fj, hfj⟩ : ∃ x, (gl.take j).any (fun y => decide (y.1.set = (sn : Int)) && decide (rx = y.1.rg)) = x := ⟨_, rfl⟩
              obtain ⟨fj', hfj'⟩ : ∃ x, (gl.take (j + 1)).any (fun y => decide (y.1.set = (sn : Int)) && decide (rx = y.1.rg)) = x := ⟨_, rfl⟩
              rw [hfj, hfj'] at Hst
              rw [hfj]
              have Hfj' := Lib.hid hfj'
              clear hz2' hD2 hq2 he2 hwi hfj hfj'
              have hP0r : P0 < wr.heap.size := by omega
              have hrow1 := (Hbj.out.block _ hs8).trans Hrow.out
              have x0 := cell_of_row _ _ 0 _ _ _ hrow1
              have x1 := cell_of_row _ _ 1 _ _ _ hrow1
              clear hrow1
              cases fj
              · by_cases heq : z2 = (sn : Int)
                · subst heq
                  cases wi
                  · go_wp2_with (first
                      | (go_at_call 13
                         refine (Hwj.out _ (by have hb7j := Hb7j.out; exact (by repeat' (first | with_reducible exact Below.refl _ _ | with_reducible assumption | with_reducible refine below_drewN ?_ _ | with_reducible refine Below.drew ?_ | with_reducible refine Below.alloc ?_ ?_ _ | with_reducible refine Below.setCell ?_ ?_ _ | with_reducible refine Below.trans ?_ (Below.mono (by with_reducible assumption) ?_) | with_reducible refine below_only ?_ (by with_reducible assumption) ?_ ?_ | (simp; done) | (simp; omega) | omega)))).mono ?_
                         rintro e w5 ⟨rfl, hb5⟩
                         have Hb5 : Hid (Below wr.heap.size wr w5) := Lib.hid (show Below wr.heap.size wr w5 from (by have hbq := hb5; exact (by repeat' (first | with_reducible exact Below.refl _ _ | with_reducible assumption | with_reducible refine below_drewN ?_ _ | with_reducible refine Below.drew ?_ | with_reducible refine Below.alloc ?_ ?_ _ | with_reducible refine Below.setCell ?_ ?_ _ | with_reducible refine Below.trans ?_ (Below.mono (by with_reducible assumption) ?_) | with_reducible refine below_only ?_ (by with_reducible assumption) ?_ ?_ | (simp; done) | (simp; omega) | omega))))
                         clear hb5)
                      | fail)
                    go_roundw
                    case rel => exact ⟨j + 1, by go_num, by omega, by rw [Hfj'.out, Hst.out]; simp, Hbj.out.trans (Hb5.out.mono hsj)⟩
                    case measure => simp [intOf]; omega
                  · go_wp2_with (first
                      | (go_at_call 13
                         refine (Hwj.out _ (by have hb7j := Hb7j.out; exact (by repeat' (first | with_reducible exact Below.refl _ _ | with_reducible assumption | with_reducible refine below_drewN ?_ _ | with_reducible refine Below.drew ?_ | with_reducible refine Below.alloc ?_ ?_ _ | with_reducible refine Below.setCell ?_ ?_ _ | with_reducible refine Below.trans ?_ (Below.mono (by with_reducible assumption) ?_) | with_reducible refine below_only ?_ (by with_reducible assumption) ?_ ?_ | (simp; done) | (simp; omega) | omega)))).mono ?_
                         rintro e w5 ⟨rfl, hb5⟩
                         have Hb5 : Hid (Below wr.heap.size wr w5) := Lib.hid (show Below wr.heap.size wr w5 from (by have hbq := hb5; exact (by repeat' (first | with_reducible exact Below.refl _ _ | with_reducible assumption | with_reducible refine below_drewN ?_ _ | with_reducible refine Below.drew ?_ | with_reducible refine Below.alloc ?_ ?_ _ | with_reducible refine Below.setCell ?_ ?_ _ | with_reducible refine Below.trans ?_ (Below.mono (by with_reducible assumption) ?_) | with_reducible refine below_only ?_ (by with_reducible assumption) ?_ ?_ | (simp; done) | (simp; omega) | omega))))
                         clear hb5)
                      | fail)
                    go_roundw
                    case rel => exact ⟨j + 1, by go_num, by omega, by rw [Hfj'.out, Hst.out]; simp, Hbj.out.trans (Hb5.out.mono hsj)⟩
                    case measure => simp [intOf]; omega
                · have hne : (z2 == (sn : Int)) = false := by simpa using heq
                  go_wp2_with fail
                  go_roundw
                  case rel => exact ⟨j + 1, by go_num, by omega, by rw [Hfj'.out, Hst.out]; simp [heq], Hbj.out.alloc hsj _⟩
                  case measure => simp [intOf]; omega
              · go_wp2_with fail
                go_roundw
                case rel => exact ⟨j + 1, by go_num, by omega, by rw [Hfj'.out, Hst.out]; simp, Hbj.out.alloc hsj _⟩
                case measure => simp [intOf]; omega
            · obtain rfl : j = nf := by omega
              have hfound : ((gl.take j).any fun y => decide (y.1.set = (sn : Int)) && decide (rx = y.1.rg)) = true := by
                rw [show gl.take j = gl from List.take_of_length_le (by have := HgN.out; omega)]
                obtain ⟨f, hf, h1, h2⟩ := Hlaw.out
                rw [← Hgl7.out] at hf
                obtain ⟨y, hy, rfl⟩ := List.mem_map.1 hf
                exact List.any_eq_true.2 ⟨y, hy, by simp [h1, h2]⟩
              rw [hfound]
              clear hfound
              go_wp2
              go_roundw
              case rel => exact ⟨k + 1, by go_num, by omega, Hb8.out.trans (Hbj.out.mono hs78)⟩
              case measure => simp [intOf]; omega
      · obtain rfl : k = nf := by omega
        go_wp2_with fail
        refine (awake07_any _).mono ?_
        rintro e w9 ⟨rfl, hb9⟩
        go_wp2
        go_ret
        exact ⟨rfl, Hb7.out.trans ((Hbk.out.trans (hb9.mono Hbk.out.size)).mono hs7)⟩
  · go_simp
    refine hK.out _ _ trivial (fun hHeld => ?_)
    clear hK K
    try simp only [Act.put, List.getElem_toArray, List.getElem_cons_zero, List.getElem_cons_succ, List.setIfInBounds_toArray, List.set_cons_zero, List.set_cons_succ]
    refine wpAnyH_ready (rs := [7]) (by kernel_rfl) (by simp) ?_; refine AllReadyH.cons rfl (fun K hK => ?_) AllReadyH.nil
    go_simp
    refine hK.out _ _ trivial (fun hHeld => ?_)
    clear hK K
    try simp only [Act.put, List.getElem_toArray, List.getElem_cons_zero, List.getElem_cons_succ, List.setIfInBounds_toArray, List.set_cons_zero, List.set_cons_succ]
    refine wpAnyH_ready (rs := [12]) (by kernel_rfl) (by simp) ?_; refine AllReadyH.cons rfl (fun K hK => ?_) AllReadyH.nil
    go_simp
    refine hK.out _ _ trivial (fun hHeld => ?_)
    clear hK K
    try simp only [Act.put, List.getElem_toArray, List.getElem_cons_zero, List.getElem_cons_succ, List.setIfInBounds_toArray, List.set_cons_zero, List.set_cons_succ]
    refine wpAnyH_ready (rs := [13]) (by kernel_rfl) (by simp) ?_; refine AllReadyH.cons rfl (fun K hK => ?_) AllReadyH.nil
    go_simp
    refine hK.out _ _ trivial (fun hHeld => ?_)
    clear hK K
    try simp only [Act.put, List.getElem_toArray, List.getElem_cons_zero, List.getElem_cons_succ, List.setIfInBounds_toArray, List.set_cons_zero, List.set_cons_succ]
    refine wpAnyH_ready (rs := [14]) (by kernel_rfl) (by simp) ?_; refine AllReadyH.cons rfl (fun K hK => ?_) AllReadyH.nil
    go_simp
    refine hK.out _ _ trivial (fun hHeld => ?_)
    clear hK K
    try simp only [Act.put, List.getElem_toArray, List.getElem_cons_zero, List.getElem_cons_succ, List.setIfInBounds_toArray, List.set_cons_zero, List.set_cons_succ]
    refine wpAnyH_ready (rs := [15]) (by kernel_rfl) (by simp) ?_; refine AllReadyH.cons rfl (fun K hK => ?_) AllReadyH.nil
    go_simp
    refine hK.out _ _ trivial (fun hHeld => ?_)
    clear hK K
    try simp only [Act.put, List.getElem_toArray, List.getElem_cons_zero, List.getElem_cons_succ, List.setIfInBounds_toArray, List.set_cons_zero, List.set_cons_succ]
    refine wpAnyH_done (by kernel_rfl) ?_ _
    clear hHeld
    obtain ⟨w5, hw5⟩ : ∃ w5 : World, w5 = (wd.setCell ⟨gB, a, none⟩ (.slice Db qb db)).setCell ⟨gB, b, none⟩ (.slice Da qa da) := ⟨_, rfl⟩
    rw [← hw5] at Hown6 Hb3d ⊢
    have hLs : rgCells ((L.set a L[b]).set b L[a]) = ((rgCells L).set a vb).set b va := by rw [Hva.out, Hvb.out]; simp [rgCells, List.map_set]
    have hrg : rgs ((L.set a L[b]).set b L[a]) = swapL (rgs L) a b (by rw [rgs_len]; exact haL) (by rw [rgs_len]; exact hbL) := by simp [rgs, List.map_set, swapL]
    have hmem : ∀ x ∈ (L.set a L[b]).set b L[a], x ∈ L := fun x hx => by
      rcases List.mem_or_eq_of_mem_set hx with h | rfl
      · rcases List.mem_or_eq_of_mem_set h with h | rfl
        · exact h
        · exact List.getElem_mem _
      · exact List.getElem_mem _
    have hlen' : ((L.set a L[b]).set b L[a]).length = N := by simp [HLn.out]
    generalize (L.set a L[b]).set b L[a] = L' at *
    rw [← hLs] at Hown6
    have HG5 := Lib.hid (HG3.out.below Hb3d.out)
    have HG5' : Hid (SlG w5 (some ⟨gB, 0, none⟩) N c4 L') := Lib.hid (by
      obtain ⟨A', c', e', h1, h2, h3⟩ := own_slice Hown6.out
      injection e' with e1 _ e3
      subst e1
      subst e3
      exact ⟨hlen', h2, h3, h1, fun x hx => HG5.out.fits x (hmem x hx)⟩)
    have Hb5 : Hid (Below w.heap.size w w5) := Lib.hid (Hb3.out.trans (Hb3d.out.mono hs3))
    have hs5 := Hb5.out.size
    have hreg' : ∀ a ∈ rgs L', Reg 8 6 a := fun x hx => by
      obtain ⟨y, hy, rfl⟩ := List.mem_map.1 hx
      exact Hms.out _ (List.mem_map.2 ⟨y, hmem y hy, rfl⟩)
    have hf2 := regs_faces (s := 8) (m := rgs L') (by omega) (by rw [rgs_len, hlen']; omega) hreg'
    obtain ⟨G, hG, hokG⟩ := hf2.2
    have Hfl' := Lib.hid hf2.1
    have HGf := Lib.hid hG
    rw [hrg] at hokG
    have Hlaw := Lib.hid (turns_law Hok.out hokG)
    have Hfc := Lib.hid (faces_any A2 N c2 L w5 HG5.out Hfl.out)
    rw [HF.out] at Hfc
    clear hw5 hLs hrg hmem hlen' hreg' hf2 hG hokG Hown6 Hb3d HG3 hb5' fb5' c0' d0' fa' Hva Hvb Hva' Hvb' Hb4 hs4 Hb3 hs3 hM hrd
    go_wp2_with fail
    refine Hfc.out.mono ?_
    intro e w6 h6
    obtain ⟨fl, A6, c6, rfl, hF6, hfl, hb6⟩ := h6.parts
    have hfn : fl.length = F.length := by have := congrArg List.length hfl; simpa [fcs] using this
    have Hfl6 := Lib.hid hfl
    have HF6 : Hid (SlF w6 A6 fl.length c6 fl) := Lib.hid hF6.slf
    obtain ⟨nf, hnf⟩ : ∃ nf, nf = fl.length := ⟨_, rfl⟩
    rw [← hnf] at HF6 ⊢
    have hfn15 : nf ≤ 15 := by omega
    have Hfc2 := Lib.hid (faces_any (some ⟨gB, 0, none⟩) N c4 L' w6 (HG5'.out.below hb6) Hfl'.out)
    rw [HGf.out] at Hfc2
    have Hb6 := Lib.hid (Hb5.out.trans (hb6.mono hs5))
    have hs6 := Hb6.out.size
    have Hfn := Lib.hid (hnf.trans hfn)
    clear h6 hF6 hfl hb6 hfn hnf Hfc
    go_wp2_with fail
    refine Hfc2.out.mono ?_
    intro e w7 h7
    obtain ⟨gl, A7, c7, rfl, hF7, hgl, hb7⟩ := h7.parts
    have hgn : gl.length = G.length := by have := congrArg List.length hgl; simpa [fcs] using this
    have Hgl7 := Lib.hid hgl
    have HF7 : Hid (SlF w7 A7 gl.length c7 gl) := Lib.hid hF7.slf
    have hgf : gl.length = nf := by rw [hgn, ← Hlaw.out.1, Hfn.out]
    rw [hgf] at HF7 ⊢
    have Hf7 := Lib.hid (HF6.out.below hb7)
    have Hb7 := Lib.hid (Hb6.out.trans (hb7.mono hs6))
    have hs7 := Hb7.out.size
    have HgN := Lib.hid hgf
    have HLaw := Lib.hid Hlaw.out.2
    clear h7 hF7 hgl hb7 hgn hgf Hfc2 Hlaw HF6 HG5' HG5 Hb6 hs6 Hb5 hs5
    have HW : Hid (∀ (j k : Nat) (hj : j < fl.length) (hk : k < gl.length) (W : World), Below w7.heap.size w7 W → Calls Try.prog 13 #[.agg #[.slice fl[j].2.a fl[j].1.rg.length fl[j].2.c], .agg #[.slice gl[k].2.a gl[k].1.rg.length gl[k].2.c]] W fun e w' => e = .returned (.bool (decide (fl[j].1.rg = gl[k].1.rg))) ∧ Below W.heap.size W w') :=
      Lib.hid (fun j k hj hk W hW => sameRef_any _ _ _ _ _ _ _ _ W ((Hf7.out.below hW).fits _ (List.getElem_mem hj)) ((HF7.out.below hW).fits _ (List.getElem_mem hk)))
    go_upto_region 11 with fail
    go_loopw [80] (fun iv wr => ∃ k : Nat, iv = .int .i64 (k : Int) ∧ k ≤ nf ∧ Below w7.heap.size w7 wr) (fun iv _ => nf - (intOf iv).toNat)
    case atStart => exact ⟨0, rfl, by omega, Below.refl _ _⟩
    case round =>
      obtain ⟨k, rfl, hkn, hbk⟩ := hrel
      have Hbk := Lib.hid hbk
      have hsk := hbk.size
      clear hbk
      obtain ⟨wo, rfl⟩ : ∃ wo : World, wo = wr := ⟨_, rfl⟩
      by_cases hkl : k < nf
      · have hkl' : (k : Int) < (nf : Int) := by omega
        have hkf : k < fl.length := by have := Hf7.out.len; omega
        obtain ⟨b1, off, rfl, hb1, c0, c1, _⟩ := (Hf7.out.below Hbk.out).at k hkf
        have hmem : fl[k].1 ∈ F := by rw [← Hfl6.out]; exact List.mem_map.2 ⟨_, List.getElem_mem hkf, rfl⟩
        have Hlaw := Lib.hid (HLaw.out _ hmem)
        have hbd := Hok.out.pos _ hmem
        obtain ⟨z, hz⟩ := Int.eq_ofNat_of_zero_le (show 0 ≤ fl[k].1.set by omega)
        have Hwk := Lib.hid (fun j hj W hW => HW.out k j hkf hj W hW)
        rw [hz, Int.toNat_natCast] at Hlaw
        rw [hz] at hbd c0
        have hz16 : z < 16 := by
          have h1 : (2 : Int) ^ (rgs L).length ≤ 16 := by
            have h : 2 ^ (rgs L).length ≤ 2 ^ 4 := Nat.pow_le_pow_right (by omega) (by rw [rgs_len, HLn.out]; exact hN4)
            have := Int.ofNat_le.2 h
            simpa using this
          have h2 := hbd.2
          omega
        obtain ⟨D, hD⟩ : ∃ D, fl[k].2.a = D := ⟨_, rfl⟩
        obtain ⟨q1, hq⟩ : ∃ q, fl[k].1.rg.length = q := ⟨_, rfl⟩
        obtain ⟨d, hd⟩ : ∃ d, fl[k].2.c = d := ⟨_, rfl⟩
        obtain ⟨rx, hrx⟩ : ∃ rx, fl[k].1.rg = rx := ⟨_, rfl⟩
        rw [hD, hq, hd, hrx] at Hwk
        rw [hD, hq, hd] at c1
        rw [hrx] at Hlaw
        clear hD hq hd hrx hz hmem hbd
        go_upto_region 14 with fail
        go_quiet (fail)
        have hA := bit_at z a (by omega)
        have hB := bit_at z b (by omega)
        have hX := xor_at z a b (by omega) (by omega) (by omega)
        obtain ⟨P0, hP0⟩ : ∃ P, wo.heap.size = P := ⟨_, rfl⟩
        have Hrow : Hid ((wo.alloc (.cells #[.int .i64 (z : Int), .slice D q1 d] 37)).heap[P0]? = some (.cells #[.int .i64 (z : Int), .slice D q1 d] 37 (0, 0))) := Lib.hid (by rw [← hP0]; exact heap_alloc_new wo _)
        have Hb8 : Hid (Below w7.heap.size w7 (wo.alloc (.cells #[.int .i64 (z : Int), .slice D q1 d] 37))) := Lib.hid (Hbk.out.alloc hsk _)
        have hs8 : P0 < (wo.alloc (.cells #[.int .i64 (z : Int), .slice D q1 d] 37)).heap.size := by rw [← hP0]; simp
        rw [hP0]
        generalize wo.alloc (.cells #[.int .i64 (z : Int), .slice D q1 d] 37) = w8 at *
        clear hP0
        by_cases hbit : z.testBit a = z.testBit b
        · have hsn : swapN a b z = z := by unfold swapN; rw [if_pos hbit]
          rw [hsn] at Hlaw
          rw [hbit] at hA
          clear hX hsn hbit
          generalize (((z.testBit b).toNat : Nat) : Int) = cb at *
          rw [hA, hB]
          clear hA hB
          obtain ⟨sn, hsn⟩ : ∃ sn, z = sn := ⟨_, rfl⟩
          rw [hsn] at Hlaw ⊢
          have Hsn := Lib.hid hsn
          have hnn : (cb != cb) = false := by simp
          rw [hnn]
          clear hsn hnn
          go_upto_region 18 with fail
          go_loopw [19, 104] (fun fv iv wr => ∃ j : Nat, iv = .int .i64 (j : Int) ∧ j ≤ nf ∧ fv = .bool ((gl.take j).any fun y => decide (y.1.set = (sn : Int)) && decide (rx = y.1.rg)) ∧ Below w8.heap.size w8 wr) (fun _ iv _ => nf - (intOf iv).toNat)
          case atStart => exact ⟨0, rfl, by omega, by simp, (by repeat' (first | with_reducible exact Below.refl _ _ | with_reducible refine below_drewN ?_ _ | with_reducible refine Below.drew ?_ | with_reducible refine Below.alloc ?_ ?_ _ | with_reducible refine Below.setCell ?_ ?_ _ | with_reducible refine Below.trans ?_ (Below.mono (by with_reducible assumption) ?_) | (simp; done) | (simp; omega) | omega))⟩
          case round =>
            obtain ⟨j, rfl, hjn, rfl, hbj⟩ := hrel
            have Hbj := Lib.hid hbj
            have hsj := hbj.size
            have hs78 := Hb8.out.size
            clear hbj
            by_cases hjl : j < nf
            · have hjl' : (j : Int) < (nf : Int) := by omega
              have hjf : j < gl.length := by have := HgN.out; omega
              have Hb7j : Hid (Below w7.heap.size w7 wr) := Lib.hid (Hb8.out.trans (Hbj.out.mono hs78))
              have hs7j := Hb7j.out.size
              obtain ⟨b2, off2, rfl, hb2, d0, d1, _⟩ := (HF7.out.below Hb7j.out).at j hjf
              have Hst : Hid ((gl.take (j + 1)).any (fun y => decide (y.1.set = (sn : Int)) && decide (rx = y.1.rg)) = ((gl.take j).any (fun y => decide (y.1.set = (sn : Int)) && decide (rx = y.1.rg)) || (decide (gl[j].1.set = (sn : Int)) && decide (rx = gl[j].1.rg)))) := Lib.hid (by rw [List.take_succ_eq_append_getElem hjf, List.any_append, List.any_cons, List.any_nil, Bool.or_false])
              have Hwj := Lib.hid (fun W hW => Hwk.out j hjf W hW)
              obtain ⟨z2, hz2'⟩ : ∃ x, gl[j].1.set = x := ⟨_, rfl⟩
              obtain ⟨D2, hD2⟩ : ∃ x, gl[j].2.a = x := ⟨_, rfl⟩
              obtain ⟨q2, hq2⟩ : ∃ x, gl[j].1.rg.length = x := ⟨_, rfl⟩
              obtain ⟨e2, he2⟩ : ∃ x, gl[j].2.c = x := ⟨_, rfl⟩
              obtain ⟨wi, hwi⟩ : ∃ x, decide (rx = gl[j].1.rg) = x := ⟨_, rfl⟩
              rw [hD2, hq2, he2, hwi] at Hwj
              rw [hD2, hq2, he2] at d1
              rw [hz2'] at d0
              rw [hz2', hwi] at Hst
              obtain ⟨fj, hfj⟩ : ∃ x, (gl.take j).any (fun y => decide (y.1.set = (sn : Int)) && decide (rx = y.1.rg)) = x := ⟨_, rfl⟩
              obtain ⟨fj', hfj'⟩ : ∃ x, (gl.take (j + 1)).any (fun y => decide (y.1.set = (sn : Int)) && decide (rx = y.1.rg)) = x := ⟨_, rfl⟩
              rw [hfj, hfj'] at Hst
              rw [hfj]
              have Hfj' := Lib.hid hfj'
              clear hz2' hD2 hq2 he2 hwi hfj hfj'
              have hP0r : P0 < wr.heap.size := by omega
              have hrow1 := (Hbj.out.block _ hs8).trans Hrow.out
              have x0 := cell_of_row _ _ 0 _ _ _ hrow1
              have x1 := cell_of_row _ _ 1 _ _ _ hrow1
              clear hrow1
              cases fj
              · by_cases heq : z2 = (sn : Int)
                · subst heq
                  cases wi
                  · go_wp2_with (first
                      | (go_at_call 13
                         refine (Hwj.out _ (by have hb7j := Hb7j.out; exact (by repeat' (first | with_reducible exact Below.refl _ _ | with_reducible assumption | with_reducible refine below_drewN ?_ _ | with_reducible refine Below.drew ?_ | with_reducible refine Below.alloc ?_ ?_ _ | with_reducible refine Below.setCell ?_ ?_ _ | with_reducible refine Below.trans ?_ (Below.mono (by with_reducible assumption) ?_) | with_reducible refine below_only ?_ (by with_reducible assumption) ?_ ?_ | (simp; done) | (simp; omega) | omega)))).mono ?_
                         rintro e w5 ⟨rfl, hb5⟩
                         have Hb5 : Hid (Below wr.heap.size wr w5) := Lib.hid (show Below wr.heap.size wr w5 from (by have hbq := hb5; exact (by repeat' (first | with_reducible exact Below.refl _ _ | with_reducible assumption | with_reducible refine below_drewN ?_ _ | with_reducible refine Below.drew ?_ | with_reducible refine Below.alloc ?_ ?_ _ | with_reducible refine Below.setCell ?_ ?_ _ | with_reducible refine Below.trans ?_ (Below.mono (by with_reducible assumption) ?_) | with_reducible refine below_only ?_ (by with_reducible assumption) ?_ ?_ | (simp; done) | (simp; omega) | omega))))
                         clear hb5)
                      | fail)
                    go_roundw
                    case rel => exact ⟨j + 1, by go_num, by omega, by rw [Hfj'.out, Hst.out]; simp, Hbj.out.trans (Hb5.out.mono hsj)⟩
                    case measure => simp [intOf]; omega
                  · go_wp2_with (first
                      | (go_at_call 13
                         refine (Hwj.out _ (by have hb7j := Hb7j.out; exact (by repeat' (first | with_reducible exact Below.refl _ _ | with_reducible assumption | with_reducible refine below_drewN ?_ _ | with_reducible refine Below.drew ?_ | with_reducible refine Below.alloc ?_ ?_ _ | with_reducible refine Below.setCell ?_ ?_ _ | with_reducible refine Below.trans ?_ (Below.mono (by with_reducible assumption) ?_) | with_reducible refine below_only ?_ (by with_reducible assumption) ?_ ?_ | (simp; done) | (simp; omega) | omega)))).mono ?_
                         rintro e w5 ⟨rfl, hb5⟩
                         have Hb5 : Hid (Below wr.heap.size wr w5) := Lib.hid (show Below wr.heap.size wr w5 from (by have hbq := hb5; exact (by repeat' (first | with_reducible exact Below.refl _ _ | with_reducible assumption | with_reducible refine below_drewN ?_ _ | with_reducible refine Below.drew ?_ | with_reducible refine Below.alloc ?_ ?_ _ | with_reducible refine Below.setCell ?_ ?_ _ | with_reducible refine Below.trans ?_ (Below.mono (by with_reducible assumption) ?_) | with_reducible refine below_only ?_ (by with_reducible assumption) ?_ ?_ | (simp; done) | (simp; omega) | omega))))
                         clear hb5)
                      | fail)
                    go_roundw
                    case rel => exact ⟨j + 1, by go_num, by omega, by rw [Hfj'.out, Hst.out]; simp, Hbj.out.trans (Hb5.out.mono hsj)⟩
                    case measure => simp [intOf]; omega
                · have hne : (z2 == (sn : Int)) = false := by simpa using heq
                  go_wp2_with fail
                  go_roundw
                  case rel => exact ⟨j + 1, by go_num, by omega, by rw [Hfj'.out, Hst.out]; simp [heq], Hbj.out.alloc hsj _⟩
                  case measure => simp [intOf]; omega
              · go_wp2_with fail
                go_roundw
                case rel => exact ⟨j + 1, by go_num, by omega, by rw [Hfj'.out, Hst.out]; simp, Hbj.out.alloc hsj _⟩
                case measure => simp [intOf]; omega
            · obtain rfl : j = nf := by omega
              have hfound : ((gl.take j).any fun y => decide (y.1.set = (sn : Int)) && decide (rx = y.1.rg)) = true := by
                rw [show gl.take j = gl from List.take_of_length_le (by have := HgN.out; omega)]
                obtain ⟨f, hf, h1, h2⟩ := Hlaw.out
                rw [← Hgl7.out] at hf
                obtain ⟨y, hy, rfl⟩ := List.mem_map.1 hf
                exact List.any_eq_true.2 ⟨y, hy, by simp [h1, h2]⟩
              rw [hfound]
              clear hfound
              go_wp2
              go_roundw
              case rel => exact ⟨k + 1, by go_num, by omega, Hb8.out.trans (Hbj.out.mono hs78)⟩
              case measure => simp [intOf]; omega
        · have hsn : swapN a b z = z ^^^ (2 ^ a ||| 2 ^ b) := by unfold swapN; rw [if_neg hbit]
          rw [hsn] at Hlaw
          obtain ⟨sn, hsn2⟩ : ∃ sn, z ^^^ (2 ^ a ||| 2 ^ b) = sn := ⟨_, rfl⟩
          rw [hsn2] at Hlaw hX
          clear hsn hsn2
          have hne : ((((z.testBit a).toNat : Nat) : Int) != (((z.testBit b).toNat : Nat) : Int)) = true := by
            revert hbit
            cases z.testBit a <;> cases z.testBit b <;> simp
          rw [hA, hB, hne]
          clear hA hB hne hbit
          go_upto_region 15 with fail
          go_quiet (fail)
          go_upto_region 18 with fail
          go_loopw [19, 104] (fun fv iv wr => ∃ j : Nat, iv = .int .i64 (j : Int) ∧ j ≤ nf ∧ fv = .bool ((gl.take j).any fun y => decide (y.1.set = (sn : Int)) && decide (rx = y.1.rg)) ∧ Below w8.heap.size w8 wr) (fun _ iv _ => nf - (intOf iv).toNat)
          case atStart => exact ⟨0, rfl, by omega, by simp, (by repeat' (first | with_reducible exact Below.refl _ _ | with_reducible refine below_drewN ?_ _ | with_reducible refine Below.drew ?_ | with_reducible refine Below.alloc ?_ ?_ _ | with_reducible refine Below.setCell ?_ ?_ _ | with_reducible refine Below.trans ?_ (Below.mono (by with_reducible assumption) ?_) | (simp; done) | (simp; omega) | omega))⟩
          case round =>
            obtain ⟨j, rfl, hjn, rfl, hbj⟩ := hrel
            have Hbj := Lib.hid hbj
            have hsj := hbj.size
            have hs78 := Hb8.out.size
            clear hbj
            by_cases hjl : j < nf
            · have hjl' : (j : Int) < (nf : Int) := by omega
              have hjf : j < gl.length := by have := HgN.out; omega
              have Hb7j : Hid (Below w7.heap.size w7 wr) := Lib.hid (Hb8.out.trans (Hbj.out.mono hs78))
              have hs7j := Hb7j.out.size
              obtain ⟨b2, off2, rfl, hb2, d0, d1, _⟩ := (HF7.out.below Hb7j.out).at j hjf
              have Hst : Hid ((gl.take (j + 1)).any (fun y => decide (y.1.set = (sn : Int)) && decide (rx = y.1.rg)) = ((gl.take j).any (fun y => decide (y.1.set = (sn : Int)) && decide (rx = y.1.rg)) || (decide (gl[j].1.set = (sn : Int)) && decide (rx = gl[j].1.rg)))) := Lib.hid (by rw [List.take_succ_eq_append_getElem hjf, List.any_append, List.any_cons, List.any_nil, Bool.or_false])
              have Hwj := Lib.hid (fun W hW => Hwk.out j hjf W hW)
              obtain ⟨z2, hz2'⟩ : ∃ x, gl[j].1.set = x := ⟨_, rfl⟩
              obtain ⟨D2, hD2⟩ : ∃ x, gl[j].2.a = x := ⟨_, rfl⟩
              obtain ⟨q2, hq2⟩ : ∃ x, gl[j].1.rg.length = x := ⟨_, rfl⟩
              obtain ⟨e2, he2⟩ : ∃ x, gl[j].2.c = x := ⟨_, rfl⟩
              obtain ⟨wi, hwi⟩ : ∃ x, decide (rx = gl[j].1.rg) = x := ⟨_, rfl⟩
              rw [hD2, hq2, he2, hwi] at Hwj
              rw [hD2, hq2, he2] at d1
              rw [hz2'] at d0
              rw [hz2', hwi] at Hst
              obtain ⟨fj, hfj⟩ : ∃ x, (gl.take j).any (fun y => decide (y.1.set = (sn : Int)) && decide (rx = y.1.rg)) = x := ⟨_, rfl⟩
              obtain ⟨fj', hfj'⟩ : ∃ x, (gl.take (j + 1)).any (fun y => decide (y.1.set = (sn : Int)) && decide (rx = y.1.rg)) = x := ⟨_, rfl⟩
              rw [hfj, hfj'] at Hst
              rw [hfj]
              have Hfj' := Lib.hid hfj'
              clear hz2' hD2 hq2 he2 hwi hfj hfj'
              have hP0r : P0 < wr.heap.size := by omega
              have hrow1 := (Hbj.out.block _ hs8).trans Hrow.out
              have x0 := cell_of_row _ _ 0 _ _ _ hrow1
              have x1 := cell_of_row _ _ 1 _ _ _ hrow1
              clear hrow1
              cases fj
              · by_cases heq : z2 = (sn : Int)
                · subst heq
                  cases wi
                  · go_wp2_with (first
                      | (go_at_call 13
                         refine (Hwj.out _ (by have hb7j := Hb7j.out; exact (by repeat' (first | with_reducible exact Below.refl _ _ | with_reducible assumption | with_reducible refine below_drewN ?_ _ | with_reducible refine Below.drew ?_ | with_reducible refine Below.alloc ?_ ?_ _ | with_reducible refine Below.setCell ?_ ?_ _ | with_reducible refine Below.trans ?_ (Below.mono (by with_reducible assumption) ?_) | with_reducible refine below_only ?_ (by with_reducible assumption) ?_ ?_ | (simp; done) | (simp; omega) | omega)))).mono ?_
                         rintro e w5 ⟨rfl, hb5⟩
                         have Hb5 : Hid (Below wr.heap.size wr w5) := Lib.hid (show Below wr.heap.size wr w5 from (by have hbq := hb5; exact (by repeat' (first | with_reducible exact Below.refl _ _ | with_reducible assumption | with_reducible refine below_drewN ?_ _ | with_reducible refine Below.drew ?_ | with_reducible refine Below.alloc ?_ ?_ _ | with_reducible refine Below.setCell ?_ ?_ _ | with_reducible refine Below.trans ?_ (Below.mono (by with_reducible assumption) ?_) | with_reducible refine below_only ?_ (by with_reducible assumption) ?_ ?_ | (simp; done) | (simp; omega) | omega))))
                         clear hb5)
                      | fail)
                    go_roundw
                    case rel => exact ⟨j + 1, by go_num, by omega, by rw [Hfj'.out, Hst.out]; simp, Hbj.out.trans (Hb5.out.mono hsj)⟩
                    case measure => simp [intOf]; omega
                  · go_wp2_with (first
                      | (go_at_call 13
                         refine (Hwj.out _ (by have hb7j := Hb7j.out; exact (by repeat' (first | with_reducible exact Below.refl _ _ | with_reducible assumption | with_reducible refine below_drewN ?_ _ | with_reducible refine Below.drew ?_ | with_reducible refine Below.alloc ?_ ?_ _ | with_reducible refine Below.setCell ?_ ?_ _ | with_reducible refine Below.trans ?_ (Below.mono (by with_reducible assumption) ?_) | with_reducible refine below_only ?_ (by with_reducible assumption) ?_ ?_ | (simp; done) | (simp; omega) | omega)))).mono ?_
                         rintro e w5 ⟨rfl, hb5⟩
                         have Hb5 : Hid (Below wr.heap.size wr w5) := Lib.hid (show Below wr.heap.size wr w5 from (by have hbq := hb5; exact (by repeat' (first | with_reducible exact Below.refl _ _ | with_reducible assumption | with_reducible refine below_drewN ?_ _ | with_reducible refine Below.drew ?_ | with_reducible refine Below.alloc ?_ ?_ _ | with_reducible refine Below.setCell ?_ ?_ _ | with_reducible refine Below.trans ?_ (Below.mono (by with_reducible assumption) ?_) | with_reducible refine below_only ?_ (by with_reducible assumption) ?_ ?_ | (simp; done) | (simp; omega) | omega))))
                         clear hb5)
                      | fail)
                    go_roundw
                    case rel => exact ⟨j + 1, by go_num, by omega, by rw [Hfj'.out, Hst.out]; simp, Hbj.out.trans (Hb5.out.mono hsj)⟩
                    case measure => simp [intOf]; omega
                · have hne : (z2 == (sn : Int)) = false := by simpa using heq
                  go_wp2_with fail
                  go_roundw
                  case rel => exact ⟨j + 1, by go_num, by omega, by rw [Hfj'.out, Hst.out]; simp [heq], Hbj.out.alloc hsj _⟩
                  case measure => simp [intOf]; omega
              · go_wp2_with fail
                go_roundw
                case rel => exact ⟨j + 1, by go_num, by omega, by rw [Hfj'.out, Hst.out]; simp, Hbj.out.alloc hsj _⟩
                case measure => simp [intOf]; omega
            · obtain rfl : j = nf := by omega
              have hfound : ((gl.take j).any fun y => decide (y.1.set = (sn : Int)) && decide (rx = y.1.rg)) = true := by
                rw [show gl.take j = gl from List.take_of_length_le (by have := HgN.out; omega)]
                obtain ⟨f, hf, h1, h2⟩ := Hlaw.out
                rw [← Hgl7.out] at hf
                obtain ⟨y, hy, rfl⟩ := List.mem_map.1 hf
                exact List.any_eq_true.2 ⟨y, hy, by simp [h1, h2]⟩
              rw [hfound]
              clear hfound
              go_wp2
              go_roundw
              case rel => exact ⟨k + 1, by go_num, by omega, Hb8.out.trans (Hbj.out.mono hs78)⟩
              case measure => simp [intOf]; omega
      · obtain rfl : k = nf := by omega
        go_wp2_with fail
        refine (awake07_any _).mono ?_
        rintro e w9 ⟨rfl, hb9⟩
        go_wp2
        go_ret
        exact ⟨rfl, Hb7.out.trans ((Hbk.out.trans (hb9.mono Hbk.out.size)).mono hs7)⟩
end Go.Proofs.Ytabcadpfhachoaa
