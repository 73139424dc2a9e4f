/- OverlayMore: the walk. -/
import Derived.Test.YtabcadpfhachoaaOC
import Derived.Test.YtabcadpfhachoaaV3
namespace Go.Proofs.Ytabcadpfhachoaa
open Go.RowKit
set_option linter.unusedVariables false
set_option linter.unusedSimpArgs false

set_option maxHeartbeats 16000000 in
set_option maxRecDepth 100000 in
theorem more07 (A : Option Addr) (n c : Nat) (zs : List Int) (w : World) (hn : zs.length = n) (hc : n ≤ c) (hm : c ≤ maxLen) (hw : ∀ z ∈ zs, (Lit.int .i64 z).wf = true) (hA : Lies w A n (zs.map (.int .i64))) :
    Calls Try.prog 5 #[.slice A n c] w fun e w' => e = .returned (.bool true) ∧ Below w.heap.size w w' := by
  have HN := Lib.hid (new_any A n c zs w hn hc hm hw hA)
  clear hn hw hA hc hm
  go_enter Try.func5, Try.ntmps5
  go_wp2_with fail
  refine HN.out.mono ?_
  rintro e w0 ⟨g, rfl, hg, ht, hb0⟩
  generalize zs.take 400 = r at *
  have hlt := ht.lt
  go_wp2_with fail
  refine (range_any g r 1 3 _ ht (by omega) (by omega) (by omega)).mono ?_
  rintro e w1 ⟨rfl, ht1, hg1⟩
  have hnb := nx_bd r 3 (by omega)
  rw [show ((3 : Int) - 1 + 1) = 3 from by decide]
  obtain ⟨k0, hk0⟩ := Int.eq_ofNat_of_zero_le hnb.1
  rw [hk0] at hnb ⊢
  obtain ⟨N, hN⟩ : ∃ N : Nat, N = 1 + k0 := ⟨_, rfl⟩
  rw [show ((1 : Int) + (k0 : Int)) = ((N : Nat) : Int) from by omega]
  have hN1 : 1 ≤ N := by omega
  have hN4 : N ≤ 3 := by omega
  have Hb1 : Hid (Below w.heap.size w w1) := Lib.hid (below_only hb0 hg1 hg hb0.size)
  have hlt1 := ht1.lt
  clear hk0 hnb hg1 ht hN hb0 hlt
  go_wp2_with fail
  refine (regions_any g N r.tail 7 2 _ ht1 (by omega) (by omega) (by omega)).mono ?_
  rintro e w2 ⟨v2, L, rfl, hR2, hL2, ht2, hg2⟩
  have Hms : Hid (∀ a ∈ rgs L, Reg 7 6 a) := Lib.hid (by rw [hL2]; exact mkRegs_ok N r.tail 7 (by omega) (by omega))
  have hLn : L.length = N := by have := congrArg List.length hL2; rw [rgs_len, mkRegs_len] at this; exact this
  have Hb2 : Hid (Below w.heap.size w w2) := Lib.hid (below_only Hb1.out hg2 hg Hb1.out.size)
  have hlow := Hb1.out.size
  generalize tapeK r.tail 7 2 N = r2 at *
  obtain ⟨A2, c2, rfl, _, _, _⟩ := own_slice hR2.o
  have HR2 := Lib.hid hR2
  have HLn := Lib.hid hLn
  have Ht2 := Lib.hid ht2
  have hlt2 := ht2.lt
  rw [hLn] at HR2 ⊢
  have HG2 : Hid (SlG w2 A2 N c2 L) := Lib.hid (by have := HR2.out; rw [← hLn] at this; have := this.slg; rw [hLn] at this; exact this)
  obtain ⟨F, hF, hok⟩ := (regs_faces (s := 7) (by omega) (by rw [rgs_len, hLn]; omega) Hms.out).2
  have Hfl := Lib.hid (regs_faces (s := 7) (m := rgs L) (by omega) (by rw [rgs_len, hLn]; omega) Hms.out).1
  have HF := Lib.hid hF
  have Hok := Lib.hid hok
  have hFn : F.length ≤ 15 := by
    have h1 := faces_len hok
    rw [rgs_len, hLn] at h1
    have h2 : 2 ^ N ≤ 2 ^ 4 := Nat.pow_le_pow_right (by omega) (by omega)
    omega
  clear hL2 hLn hR2 ht2 hg2 Hb1 ht1 hF hok HN hlow
  have Hfc := Lib.hid (faces_any A2 N c2 L w2 HG2.out Hfl.out)
  rw [HF.out] at Hfc
  go_wp2_with fail
  refine Hfc.out.mono ?_
  intro e w3 h3
  obtain ⟨fl, A3, c3, rfl, hF3, hfl, hb3⟩ := h3.parts
  have hfn : fl.length = F.length := by have := congrArg List.length hfl; simpa [fcs] using this
  have Hfl3 := Lib.hid hfl
  have HF3 : Hid (SlF w3 A3 fl.length c3 fl) := Lib.hid hF3.slf
  obtain ⟨nf, hnf⟩ : ∃ nf, nf = fl.length := ⟨_, rfl⟩
  rw [← hnf] at HF3 ⊢
  have hfn15 : nf ≤ 15 := by omega
  have HG3 := Lib.hid (HG2.out.below hb3)
  have Hb3 : Hid (Below w.heap.size w w3) := Lib.hid (Hb2.out.trans (hb3.mono Hb2.out.size))
  have hs3 := Hb3.out.size
  have hs23 := hb3.size
  have Hlow23 := Lib.hid hb3
  have Hfn : Hid (nf = F.length) := Lib.hid (hnf.trans hfn)
  have hlow1 : g < w1.heap.size := hlt1
  obtain ⟨i0, hi, hz0, hz1, hz2⟩ := info_parts Try.infoRegion
  have Hown3 : Hid (FsOwn w3 w2.heap.size (.slice A3 fl.length c3) fl) := Lib.hid hF3
  have Ht3 : Hid (TapeAt w3 g r2) := Lib.hid (Ht2.out.below hb3 hlt2)
  have hlt3 := Ht3.out.lt
  have hA3 : fl.length = nf := hnf.symm
  clear h3 hF3 hfl hb3 hfn hnf
  have hrd : Hid (Reads w3 w3.heap.size 1 A2 N (rgCells L)) := Lib.hid (HG3.out.lies.reads (by simp [rgCells]; exact HLn.out))
  go_wp2_with (first
    | (at_builtin
       refine wpList_append_any _ rfl (.tmp 27) (.tmp 28) _ rfl w3.heap.size 34 i0 _ 1 24 Try.underlying25 hi hz0 hz1 hz2 rfl (by omega) (.slice (some ⟨w3.heap.size, 0, none⟩) 0 0) 0 [] rfl (own_lit w3 34 1 0 #[] [] rfl (by simp) (Nat.zero_le _)) _ A2 N _ (rgCells L) rfl (hrd.out.below ((Below.refl _ _).alloc (Nat.le_refl _) _)) (rgCells_one L) (by simp only [maxLen]; omega) (by omega) (by simp) ?_
       intro v4 w4 hown4 hg4 hat4
       rw [List.nil_append, Nat.zero_add] at hown4
       have hb4 : Below w3.heap.size w3 w4 := ((Below.refl _ _).alloc (Nat.le_refl _) _).grown hg4 (by simp) (fun x hx => by simp [Value.ownBlock] at hx; omega)
       obtain ⟨A4, c4, rfl, _, _, _⟩ := own_slice hown4
       have Hown4 := Lib.hid hown4
       have Hb4 := Lib.hid hb4
       have hs4 := hb4.size
       have Ht4 : Hid (TapeAt w4 g r2) := Lib.hid (Ht3.out.below hb4 hlt3)
       clear hown4 hg4 hat4 hb4)
    | (go_at_call 14
       refine (region_any g r2 7 2 _ Ht4.out (by omega) (by omega)).mono ?_
       rintro e w5 ⟨v5, rfl, hown5, ht5, hg5⟩
       have hre := mkReg_reg r2 7 2 (by omega) (by omega) (by omega) (by omega)
       generalize (mkReg r2 7 2).1 = rg at *
       obtain ⟨A5, c5, rfl, _, _, _⟩ := own_slice hown5
       have Hown5 := Lib.hid hown5
       have Hg5 := Lib.hid hg5
       have Hre := Lib.hid hre
       have hs5 := hg5.size
       clear hown5 ht5 hg5 hre)
    | (at_builtin
       refine wpList_append_any _ rfl (.tmp 29) (.tmp 32) _ rfl w3.heap.size 34 i0 _ 1 24 Try.underlying25 hi hz0 hz1 hz2 rfl (by omega) _ N (rgCells L) rfl (World.ownsRow.alloc (ownsRow_only Hown4.out Hg5.out hlt3) _) _ _ 1 1 [.slice A5 rg.length c5] rfl ⟨rfl, fun _ => ⟨_, rfl, Nat.lt_succ_self _, fun j u hu => (by exact World.news_of_block (heap_alloc_new w5 (.cells #[.slice A5 rg.length c5] 34)) j u hu)⟩⟩ (by simp [Value.oneCell']) (by simp only [maxLen]; omega) (by omega) (by first | (simp; done) | (simp; omega)) ?_
       intro v6 w6 hown6 hg6 hat6
       obtain ⟨VA, vc, rfl, hl6, hn6, hc6⟩ := own_slice hown6
       have hob4 := own_base Hown4.out
       have Hk : Hid (∀ b, b < w3.heap.size → b ≠ g → w6.heap[b]? = w3.heap[b]?) := Lib.hid (fun b hb hne => by
         rw [hg6.block b (by first | (simp; done) | (simp; omega)) (fun e => by have := hob4 b e.symm; omega), Below.heap_alloc _ _ b (by omega), Hg5.out.block b (by omega) (fun e => hne (by cases e; rfl)), Hb4.out.block b hb])
       have Hx6 : Hid (SlR w6 A5 rg.length c5 rg) := Lib.hid (own_slr (own_grown (Hown5.out.alloc _) hg6 (fun b hb e => by
         have h1 := own_lt Hown4.out b e
         have h2 := own_base Hown5.out b hb
         omega)))
       have HG6 : Hid (SlG w6 VA (N + 1) vc (L ++ [(rg, ⟨A5, c5⟩)])) := Lib.hid ⟨by simp [HLn.out], hn6, hc6, by rw [show rgCells (L ++ [(rg, ⟨A5, c5⟩)]) = rgCells L ++ [.slice A5 rg.length c5] by simp [rgCells, rgC]]; exact hl6, fun y hy => by
         rcases List.mem_append.1 hy with h | h
         · exact own_slr (own_keep (HR2.out.fs y h) (fun b hb hB => by
             rw [Hk.out b (by omega) (by omega)]
             exact Hlow23.out.block b hb))
         · rw [List.mem_singleton] at h
           subst h
           exact Hx6.out⟩
       have hs6 := hg6.size
       simp only [World.size_alloc] at hs6
       have Hb6 : Hid (Below w.heap.size w w6) := Lib.hid ((below_only (Hb3.out.trans (Hb4.out.mono hs3)) Hg5.out hg (by omega)).alloc (by omega) _ |>.grown hg6 (by first | (simp; done) | (simp; omega)) (fun b e => by have := hob4 b e; omega))
       have Hf6 : Hid (SlF w6 A3 fl.length c3 fl) := Lib.hid (Hown3.out.keep (fun b hb hB => Hk.out b hb (by omega))).slf
       clear hown6 hg6 hat6 hob4 hl6 hn6 hc6)
    | (go_at_call 10
       have hreg : ∀ a ∈ rgs (L ++ [(rg, ⟨A5, c5⟩)]), Reg 7 6 a := fun a ha => by
         have : rgs (L ++ [(rg, (⟨A5, c5⟩ : LV))]) = rgs L ++ [rg] := by simp [rgs]
         rw [this] at ha
         rcases List.mem_append.1 ha with h | h
         · exact Hms.out a h
         · rw [List.mem_singleton] at h
           subst h
           exact Hre.out
       have hf2 := regs_faces (s := 7) (m := rgs (L ++ [(rg, ⟨A5, c5⟩)])) (by omega) (by rw [rgs_len, List.length_append, HLn.out]; simp; omega) hreg
       obtain ⟨G, hG, hokG⟩ := hf2.2
       have hfc := faces_any VA (N + 1) vc _ w6 HG6.out hf2.1
       rw [hG] at hfc
       refine hfc.mono ?_
       intro e w7 h7
       obtain ⟨gl, A7, c7, rfl, hF7, hgl, hb7⟩ := h7.parts
       have hok2 : FacesOk 7 (rgs L ++ [rg]) G := by
         have : rgs (L ++ [(rg, (⟨A5, c5⟩ : LV))]) = rgs L ++ [rg] := by simp [rgs]
         rw [this] at hokG
         exact hokG
       have Hml := Lib.hid (more_law (s := 7) (m := rgs L) (e := rg) (by omega) Hok.out hok2)
       have hGn : G.length ≤ 15 := by
         have h1 := faces_len hokG
         rw [rgs_len, List.length_append, HLn.out] at h1
         have h2 : 2 ^ (N + 1) ≤ 2 ^ 4 := Nat.pow_le_pow_right (by omega) (by omega)
         simp only [List.length_singleton] at h1
         omega
       have hGs : ∀ f ∈ G, 0 < f.set ∧ f.set < 16 := fun f hf => by
         have h1 := hokG.pos f hf
         rw [rgs_len, List.length_append, HLn.out] at h1
         have h2 : (2 : Int) ^ (N + 1) ≤ 16 := by
           have h : 2 ^ (N + 1) ≤ 2 ^ 4 := Nat.pow_le_pow_right (by omega) (by omega)
           have := Int.ofNat_le.2 h
           simpa using this
         simp only [List.length_singleton] at h1
         omega
       have HGs := Lib.hid hGs
       have hgn : gl.length = G.length := by have := congrArg List.length hgl; simpa [fcs] using this
       have Hgl := Lib.hid hgl
       have HF7 : Hid (SlF w7 A7 gl.length c7 gl) := Lib.hid hF7.slf
       have Hf7 := Lib.hid (Hf6.out.below hb7)
       rw [hA3] at Hf7
       obtain ⟨ng, hng⟩ : ∃ ng, ng = gl.length := ⟨_, rfl⟩
       rw [← hng] at HF7 ⊢
       have Hb7 : Hid (Below w.heap.size w w7) := Lib.hid (Hb6.out.trans (hb7.mono Hb6.out.size))
       have hs7 := Hb7.out.size
       have hgf : nf ≤ ng := by have := Hml.out.1; have := Hfn.out; omega
       have hng15 : ng ≤ 15 := by omega
       have Hgn : Hid (ng = G.length) := Lib.hid (hng.trans hgn)
       have hgf' : ¬ (ng : Int) < (nf : Int) := by omega
       have hgf2 : ¬ ng < nf := by omega
       clear hok2 h7 hF7 hgl hb7 hgn hng hreg hf2 hG hokG hfc hGs)
    | fail)
  clear hs6 hs4 hs5 Hb6 Hb4 Hg5 Hown4 Hown5 Ht4 Ht3 hlt3 Hown3 hrd Hfl Hk HG6 Hf6 Hx6 HG3 HG2 HR2 Hb2 Hb3 hs3 hs23 HF3 hA3 hlow1 Hlow23
  have HW : Hid (∀ (j k : Nat) (hj : j < gl.length) (hk : k < fl.length) (W : World), Below w7.heap.size w7 W → Calls Try.prog 15 #[.agg #[.slice gl[j].2.a gl[j].1.rg.length gl[j].2.c], .agg #[.slice fl[k].2.a fl[k].1.rg.length fl[k].2.c]] W fun e w' => e = .returned (.bool (withinP gl[j].1.rg fl[k].1.rg)) ∧ Below W.heap.size W w') :=
    Lib.hid (fun j k hj hk W hW => withinR_any _ _ _ _ _ _ _ _ W ((HF7.out.below hW).fits _ (List.getElem_mem hj)) ((Hf7.out.below hW).fits _ (List.getElem_mem hk)))
  go_loopw [52] (fun iv wr => ∃ k : Nat, iv = .int .i64 (k : Int) ∧ k ≤ ng ∧ Below w7.heap.size w7 wr) (fun iv _ => ng - (intOf iv).toNat)
  case atStart => exact ⟨0, rfl, by omega, Below.refl _ _⟩
  case round =>
    obtain ⟨k, rfl, hkn, hbk⟩ := hrel
    have Hbk := Lib.hid hbk
    have hsk := hbk.size
    clear hbk
    obtain ⟨wo, rfl⟩ : ∃ wo : World, wo = wr := ⟨_, rfl⟩
    by_cases hkl : k < ng
    · have hkl' : (k : Int) < (ng : Int) := by omega
      have hkg : k < gl.length := by have := HF7.out.len; omega
      obtain ⟨b, off, rfl, hb, c0, c1, _⟩ := (HF7.out.below Hbk.out).at k hkg
      have hmem : gl[k].1 ∈ G := by rw [← Hgl.out]; exact List.mem_map.2 ⟨_, List.getElem_mem hkg, rfl⟩
      have Hlaw := Lib.hid (Hml.out.2 _ hmem)
      have hbd := HGs.out _ hmem
      obtain ⟨z, hz⟩ := Int.eq_ofNat_of_zero_le (show 0 ≤ gl[k].1.set by omega)
      have Hwk := Lib.hid (fun j hj W hW => HW.out k j hkg hj W hW)
      rw [hz, rgs_len, HLn.out, Int.toNat_natCast] at Hlaw
      rw [hz] at hbd c0
      obtain ⟨D, hD⟩ : ∃ D, gl[k].2.a = D := ⟨_, rfl⟩
      obtain ⟨q, hq⟩ : ∃ q, gl[k].1.rg.length = q := ⟨_, rfl⟩
      obtain ⟨d, hd⟩ : ∃ d, gl[k].2.c = d := ⟨_, rfl⟩
      obtain ⟨rx, hrx⟩ : ∃ rx, gl[k].1.rg = rx := ⟨_, rfl⟩
      rw [hD, hq, hd, hrx] at Hwk
      rw [hD, hq, hd] at c1
      rw [hrx] at Hlaw
      clear hD hq hd hrx hz hmem
      have hand : bits BinOp.andNot IntKind.i64 (z : Int) (wrap64 ((2 : Int) ^ N)) = ((minusN z (2 ^ N) : Nat) : Int) := by
        rw [shl_one N (by omega)]
        exact andNot_i64n z (2 ^ N) (by omega) (Nat.pow_lt_pow_right (by omega) (by omega))
      obtain ⟨sn, hsn⟩ : ∃ sn, minusN z (2 ^ N) = sn := ⟨_, rfl⟩
      rw [hsn] at hand Hlaw
      have eN : IntKind.i64.wrap (N : Int) = (N : Int) := IntWalk.i64_in _ (by omega)
      have hN0 : 0 ≤ (N : Int) := by omega
      clear hsn hbd
      go_upto_region 10 with fail
      have Hrow : Hid ((wo.alloc (.cells #[.int .i64 (z : Int), .slice D q d] 37)).heap[wo.heap.size]? = some (.cells #[.int .i64 (z : Int), .slice D q d] 37 (0, 0))) := Lib.hid (heap_alloc_new wo _)
      have Hb8 : Hid (Below wo.heap.size wo (wo.alloc (.cells #[.int .i64 (z : Int), .slice D q d] 37))) := Lib.hid ((Below.refl _ _).alloc (Nat.le_refl _) _)
      have hs8 : wo.heap.size < (wo.alloc (.cells #[.int .i64 (z : Int), .slice D q d] 37)).heap.size := by simp
      generalize wo.alloc (.cells #[.int .i64 (z : Int), .slice D q d] 37) = w8 at *
      have y0 := cell_of_row _ _ 0 _ _ _ Hrow.out
      go_quiet (fail)
      have hb8' : Below wo.heap.size wo (w8.drewN nq) := below_drewN Hb8.out _
      obtain ⟨w9, hw9⟩ : ∃ w9 : World, w9 = w8.drewN nq := ⟨_, rfl⟩
      rw [← hw9] at hb8' ⊢
      have Hrow9 : Hid (w9.heap[wo.heap.size]? = some (.cells #[.int .i64 (z : Int), .slice D q d] 37 (0, 0))) := Lib.hid (by rw [hw9]; exact Hrow.out)
      have Hb79 : Hid (Below w7.heap.size w7 w9) := Lib.hid (Hbk.out.trans (hb8'.mono hsk))
      have hs9 : wo.heap.size < w9.heap.size := by rw [hw9]; exact hs8
      clear hw9 hb8' Hrow Hb8 y0 hs8
      obtain ⟨f0, hf0⟩ : ∃ f0, decide (sn = 0) = f0 := ⟨_, rfl⟩
      have Hf0 := Lib.hid hf0
      have hf1 : ((sn : Int) == 0) = f0 := by rw [← hf0, Bool.eq_iff_iff]; (first | (simp; done) | (simp; omega))
      have hf2 : decide ((sn : Int) = 0) = f0 := by rw [← hf0, Bool.eq_iff_iff]; (first | (simp; done) | (simp; omega))
      clear hf0
      obtain ⟨P0, hP0⟩ : ∃ P, wo.heap.size = P := ⟨_, rfl⟩
      rw [hP0] at Hrow9 hs9 ⊢
      clear hP0
      go_upto_region 13 with fail
      try simp only [hf1, hf2]
      clear hf1 hf2
      go_loopw [12, 66] (fun fv iv wr => ∃ j : Nat, iv = .int .i64 (j : Int) ∧ j ≤ nf ∧ fv = .bool (f0 || (fl.take j).any fun y => decide (y.1.set = (sn : Int)) && withinP rx y.1.rg) ∧ Below w9.heap.size w9 wr) (fun _ iv _ => nf - (intOf iv).toNat)
      case atStart => exact ⟨0, rfl, by omega, by simp, Below.refl _ _⟩
      case round =>
        obtain ⟨j, rfl, hjn, rfl, hbj⟩ := hrel
        have Hbj := Lib.hid hbj
        have hsj := hbj.size
        clear hbj
        by_cases hjl : j < nf
        · have hjl' : (j : Int) < (nf : Int) := by omega
          have hjf : j < fl.length := by have := Hf7.out.len; omega
          have Hb7j : Hid (Below w7.heap.size w7 wr) := Lib.hid (Hb79.out.trans (Hbj.out.mono (by have := Hb79.out.size; omega)))
          have hs7j := Hb7j.out.size
          obtain ⟨b2, off2, rfl, hb2, d0, d1, _⟩ := (Hf7.out.below Hb7j.out).at j hjf
          have Hst : Hid ((fl.take (j + 1)).any (fun y => decide (y.1.set = (sn : Int)) && withinP rx y.1.rg) = ((fl.take j).any (fun y => decide (y.1.set = (sn : Int)) && withinP rx y.1.rg) || (decide (fl[j].1.set = (sn : Int)) && withinP rx fl[j].1.rg))) := Lib.hid (by rw [List.take_succ_eq_append_getElem hjf, List.any_append, List.any_cons, List.any_nil, Bool.or_false])
          have Hwj := Lib.hid (fun W hW => Hwk.out j hjf W hW)
          obtain ⟨z2, hz2'⟩ : ∃ x, fl[j].1.set = x := ⟨_, rfl⟩
          obtain ⟨D2, hD2⟩ : ∃ x, fl[j].2.a = x := ⟨_, rfl⟩
          obtain ⟨q2, hq2⟩ : ∃ x, fl[j].1.rg.length = x := ⟨_, rfl⟩
          obtain ⟨e2, he2⟩ : ∃ x, fl[j].2.c = x := ⟨_, rfl⟩
          obtain ⟨wi, hwi⟩ : ∃ x, withinP rx fl[j].1.rg = x := ⟨_, rfl⟩
          rw [hD2, hq2, he2, hwi] at Hwj
          rw [hD2, hq2, he2] at d1
          rw [hz2'] at d0
          rw [hz2', hwi] at Hst
          obtain ⟨fj, hfj⟩ : ∃ x, (fl.take j).any (fun y => decide (y.1.set = (sn : Int)) && withinP rx y.1.rg) = x := ⟨_, rfl⟩
          obtain ⟨fj', hfj'⟩ : ∃ x, (fl.take (j + 1)).any (fun y => decide (y.1.set = (sn : Int)) && withinP rx y.1.rg) = x := ⟨_, rfl⟩
          rw [hfj, hfj'] at Hst
          rw [hfj]
          have Hfj' := Lib.hid hfj'
          clear hz2' hD2 hq2 he2 hwi hfj hfj'
          have hP0r : P0 < wr.heap.size := by omega
          have hrow1 := (Hbj.out.block _ hs9).trans Hrow9.out
          have x0 := cell_of_row _ _ 0 _ _ _ hrow1
          have x1 := cell_of_row _ _ 1 _ _ _ hrow1
          clear hrow1
          obtain ⟨fb, hfb⟩ : ∃ fb, (f0 || fj) = fb := ⟨_, rfl⟩
          rw [hfb]
          have Hfb := Lib.hid hfb
          clear hfb
          have Hend : Hid ((f0 || fj') = (fb || (decide (z2 = (sn : Int)) && wi))) := Lib.hid (by rw [Hst.out, ← Hfb.out, Bool.or_assoc])
          clear Hst Hfb
          cases fb
          · by_cases heq : z2 = (sn : Int)
            · subst heq
              cases wi
              · go_wp2_with (first
                  | (go_at_call 15
                     refine (Hwj.out _ (by have hb7j := Hb7j.out; exact (by repeat' (first | with_reducible exact Below.refl _ _ | with_reducible assumption | with_reducible refine below_drewN ?_ _ | with_reducible refine Below.drew ?_ | with_reducible refine Below.alloc ?_ ?_ _ | with_reducible refine Below.setCell ?_ ?_ _ | with_reducible refine Below.trans ?_ (Below.mono (by with_reducible assumption) ?_) | with_reducible refine below_only ?_ (by with_reducible assumption) ?_ ?_ | (simp; done) | (simp; omega) | omega)))).mono ?_
                     rintro e w5 ⟨rfl, hb5⟩
                     have Hb5 : Hid (Below wr.heap.size wr w5) := Lib.hid (show Below wr.heap.size wr w5 from (by have hbq := hb5; exact (by repeat' (first | with_reducible exact Below.refl _ _ | with_reducible assumption | with_reducible refine below_drewN ?_ _ | with_reducible refine Below.drew ?_ | with_reducible refine Below.alloc ?_ ?_ _ | with_reducible refine Below.setCell ?_ ?_ _ | with_reducible refine Below.trans ?_ (Below.mono (by with_reducible assumption) ?_) | with_reducible refine below_only ?_ (by with_reducible assumption) ?_ ?_ | (simp; done) | (simp; omega) | omega))))
                     clear hb5)
                  | fail)
                go_roundw
                case rel => exact ⟨j + 1, by go_num, by omega, by rw [Hfj'.out, Hend.out]; simp, Hbj.out.trans (Hb5.out.mono hsj)⟩
                case measure => simp [intOf]; omega
              · go_wp2_with (first
                  | (go_at_call 15
                     refine (Hwj.out _ (by have hb7j := Hb7j.out; exact (by repeat' (first | with_reducible exact Below.refl _ _ | with_reducible assumption | with_reducible refine below_drewN ?_ _ | with_reducible refine Below.drew ?_ | with_reducible refine Below.alloc ?_ ?_ _ | with_reducible refine Below.setCell ?_ ?_ _ | with_reducible refine Below.trans ?_ (Below.mono (by with_reducible assumption) ?_) | with_reducible refine below_only ?_ (by with_reducible assumption) ?_ ?_ | (simp; done) | (simp; omega) | omega)))).mono ?_
                     rintro e w5 ⟨rfl, hb5⟩
                     have Hb5 : Hid (Below wr.heap.size wr w5) := Lib.hid (show Below wr.heap.size wr w5 from (by have hbq := hb5; exact (by repeat' (first | with_reducible exact Below.refl _ _ | with_reducible assumption | with_reducible refine below_drewN ?_ _ | with_reducible refine Below.drew ?_ | with_reducible refine Below.alloc ?_ ?_ _ | with_reducible refine Below.setCell ?_ ?_ _ | with_reducible refine Below.trans ?_ (Below.mono (by with_reducible assumption) ?_) | with_reducible refine below_only ?_ (by with_reducible assumption) ?_ ?_ | (simp; done) | (simp; omega) | omega))))
                     clear hb5)
                  | fail)
                go_roundw
                case rel => exact ⟨j + 1, by go_num, by omega, by rw [Hfj'.out, Hend.out]; simp, Hbj.out.trans (Hb5.out.mono hsj)⟩
                case measure => simp [intOf]; omega
            · have hne : (z2 == (sn : Int)) = false := by simpa using heq
              go_wp2_with fail
              go_roundw
              case rel => exact ⟨j + 1, by go_num, by omega, by rw [Hfj'.out, Hend.out]; simp [heq], Hbj.out.alloc hsj _⟩
              case measure => simp [intOf]; omega
          · go_wp2_with fail
            go_roundw
            case rel => exact ⟨j + 1, by go_num, by omega, by rw [Hfj'.out, Hend.out]; simp, Hbj.out.alloc hsj _⟩
            case measure => simp [intOf]; omega
        · obtain rfl : j = nf := by omega
          have hfound : (f0 || (fl.take j).any fun y => decide (y.1.set = (sn : Int)) && withinP rx y.1.rg) = true := by
            rw [← Hf0.out, show fl.take j = fl from List.take_of_length_le (by have := Hf7.out.len; omega)]
            rcases Hlaw.out with h | ⟨f, hf, h1, h2⟩
            · simp [h]
            · rw [← Hfl3.out] at hf
              obtain ⟨y, hy, rfl⟩ := List.mem_map.1 hf
              rw [Bool.or_eq_true]
              exact .inr (List.any_eq_true.2 ⟨y, hy, by simp [h1, h2]⟩)
          rw [hfound]
          clear hfound
          go_wp2
          go_roundw
          case rel => exact ⟨k + 1, by go_num, by omega, Hb79.out.trans (Hbj.out.mono (by have := Hb79.out.size; omega))⟩
          case measure => simp [intOf]; omega
    · obtain rfl : k = ng := by omega
      go_wp2_with fail
      refine (awake07_any _).mono ?_
      rintro e w9 ⟨rfl, hb9⟩
      go_wp2
      go_ret
      exact ⟨rfl, Hb7.out.trans ((Hbk.out.trans (hb9.mono Hbk.out.size)).mono hs7)⟩
end Go.Proofs.Ytabcadpfhachoaa
