/- OverlayCovers: the walk. -/
import Derived.Test.YtabcadpfhachoaaGreatOK
namespace Go.Proofs.YtabcadpfhachoaaGreat
open Go.RowKit
set_option linter.unusedVariables false
set_option linter.unusedSimpArgs false

set_option maxHeartbeats 16000000 in
set_option maxRecDepth 100000 in
theorem covers07 (A : Option Addr) (n c : Nat) (zs : List Int) (w : World) (hn : zs.length = n) (hc : n ≤ c) (hm : c ≤ maxLen) (hw : ∀ z ∈ zs, (Lit.int .i64 z).wf = true) (hA : Lies w A n (zs.map (.int .i64))) :
    Calls Tryz.prog 3 #[.slice A n c] w fun e w' => e = .returned (.bool true) ∧ Below w.heap.size w w' := by
  have HN := Lib.hid (new_any A n c zs w hn hc hm hw hA)
  clear hn hw hA hc hm
  go_enter Tryz.func3, Tryz.ntmps3
  go_wp2_with fail
  refine HN.out.mono ?_
  rintro e w0 ⟨g, rfl, hg, ht, hb0⟩
  generalize zs.take 400 = r at *
  have hlt := ht.lt
  go_wp2_with fail
  refine (range_any g r 1 4 _ ht (by omega) (by omega) (by omega)).mono ?_
  rintro e w1 ⟨rfl, ht1, hg1⟩
  have hnb := nx_bd r 4 (by omega)
  rw [show ((4 : Int) - 1 + 1) = 4 from by decide]
  obtain ⟨k0, hk0⟩ := Int.eq_ofNat_of_zero_le hnb.1
  rw [hk0] at hnb ⊢
  obtain ⟨N, hN⟩ : ∃ N : Nat, N = 1 + k0 := ⟨_, rfl⟩
  rw [show ((1 : Int) + (k0 : Int)) = ((N : Nat) : Int) from by omega]
  have hN1 : 1 ≤ N := by omega
  have hN4 : N ≤ 4 := by omega
  have Hb1 : Hid (Below w.heap.size w w1) := Lib.hid (below_only hb0 hg1 hg hb0.size)
  have hlt1 := ht1.lt
  clear hk0 hnb hg1 ht hN hb0 hlt
  go_wp2_with fail
  refine (regions_any g N r.tail 6 2 _ ht1 (by omega) (by omega) (by omega)).mono ?_
  rintro e w2 ⟨v2, L, rfl, hR2, hL2, ht2, hg2⟩
  have Hms : Hid (∀ a ∈ rgs L, Reg 6 6 a) := Lib.hid (by rw [hL2]; exact mkRegs_ok N r.tail 6 (by omega) (by omega))
  have hLn : L.length = N := by have := congrArg List.length hL2; rw [rgs_len, mkRegs_len] at this; exact this
  have Hb2 : Hid (Below w.heap.size w w2) := Lib.hid (below_only Hb1.out hg2 hg Hb1.out.size)
  have hlow := Hb1.out.size
  generalize tapeK r.tail 6 2 N = r2 at *
  obtain ⟨A2, c2, rfl, _, _, _⟩ := own_slice hR2.o
  have HR2 := Lib.hid hR2
  have HLn := Lib.hid hLn
  have Ht2 := Lib.hid ht2
  have hlt2 := ht2.lt
  rw [hLn] at HR2 ⊢
  have HG2 : Hid (SlG w2 A2 N c2 L) := Lib.hid (by have := HR2.out; rw [← hLn] at this; have := this.slg; rw [hLn] at this; exact this)
  obtain ⟨F, hF, hok⟩ := (regs_faces (s := 6) (by omega) (by rw [rgs_len, hLn]; omega) Hms.out).2
  have Hfl := Lib.hid (regs_faces (s := 6) (m := rgs L) (by omega) (by rw [rgs_len, hLn]; omega) Hms.out).1
  have HF := Lib.hid hF
  have Hok := Lib.hid hok
  have hFn : F.length ≤ 15 := by
    have h1 := faces_len hok
    rw [rgs_len, hLn] at h1
    have h2 : 2 ^ N ≤ 2 ^ 4 := Nat.pow_le_pow_right (by omega) (by omega)
    omega
  clear hL2 hLn hR2 ht2 hg2 Hb1 ht1 hF hok HN hlow
  have Hfc := Lib.hid (faces_any A2 N c2 L w2 HG2.out Hfl.out)
  rw [HF.out] at Hfc
  go_wp2_with fail
  refine Hfc.out.mono ?_
  intro e w3 h3
  obtain ⟨fl, A3, c3, rfl, hF3, hfl, hb3⟩ := h3.parts
  have hfn : fl.length = F.length := by have := congrArg List.length hfl; simpa [fcs] using this
  have Hfl3 := Lib.hid hfl
  have HF3 : Hid (SlF w3 A3 fl.length c3 fl) := Lib.hid hF3.slf
  obtain ⟨nf, hnf⟩ : ∃ nf, nf = fl.length := ⟨_, rfl⟩
  rw [← hnf] at HF3 ⊢
  have hfn15 : nf ≤ 15 := by omega
  have HG3 := Lib.hid (HG2.out.below hb3)
  have Hb3 : Hid (Below w.heap.size w w3) := Lib.hid (Hb2.out.trans (hb3.mono Hb2.out.size))
  have hs3 := Hb3.out.size
  have hs23 := hb3.size
  have Hlow23 := Lib.hid hb3
  have Hfn : Hid (nf = F.length) := Lib.hid (hnf.trans hfn)
  have HCf : Hid (∀ (k : Nat) (h : k < fl.length) (W : World), Below w3.heap.size w3 W → Calls Tryz.prog 9 #[.agg #[.slice fl[k].2.a fl[k].1.rg.length fl[k].2.c], .slice A2 N c2] W fun e w' => e = .returned (.tuple #[.bool true, .int .i64 0]) ∧ Below W.heap.size W w') := Lib.hid (fun k h W hW => by
    have := cover_any A2 _ N c2 _ _ fl[k].1.rg L W ((HF3.out.below hW).fits _ (List.getElem_mem h)) (HG3.out.below hW) (by have := Hfl.out; omega)
    rw [cover_face (s := 6) (k := 6) (by omega) (by omega) (by rw [rgs_len, HLn.out]; omega) Hms.out Hok.out fl[k].1 (by have h' : fcs fl = F := Hfl3.out; rw [← h']; exact List.mem_map.2 ⟨_, List.getElem_mem h, rfl⟩)] at this
    exact this)
  have HCg : Hid (∀ (B : Option Addr) (d : Nat) (W : World), Below w3.heap.size w3 W → SlR W B 1 d [⟨50, 0, 51, 1⟩] → Calls Tryz.prog 9 #[.agg #[.slice B 1 d], .slice A2 N c2] W fun e w' => e = .returned (.tuple #[.bool false, .int .i64 0]) ∧ Below W.heap.size W w') := Lib.hid (fun B d W hW hB => by
    have := cover_any A2 B N c2 1 d [⟨50, 0, 51, 1⟩] L W hB (HG3.out.below hW) (by have := Hfl.out; omega)
    rw [cover_far (s := 6) (k := 6) (by omega) (by omega) (by rw [rgs_len, HLn.out]; omega) Hms.out] at this
    exact this)
  have HCn : Hid (∀ (W : World), Below w3.heap.size w3 W → Calls Tryz.prog 9 #[.agg #[.slice none 0 0], .slice A2 N c2] W fun e w' => e = .returned (.tuple #[.bool true, .int .i64 0]) ∧ Below W.heap.size W w') := Lib.hid (fun W hW => by
    have := cover_any A2 none N c2 0 0 [] L W (SlR.nil W) (HG3.out.below hW) (by have := Hfl.out; omega)
    rw [cover_nil (s := 6) (k := 6) (by omega) (by omega) (by rw [rgs_len, HLn.out]; omega) Hms.out] at this
    exact this)
  have HDj : Hid (∀ W, Below w3.heap.size w3 W → Calls Tryz.prog 10 #[.slice A2 N c2] W (DisjPost W (rgs L))) := Lib.hid (fun W hW => disjoint_any A2 N c2 L W (HG3.out.below hW))
  have HDs : Hid (∀ i j b e, DisjIs (rgs L) i j b e → e = 0 ∧ b = !F.all oneF) := Lib.hid (fun i j b e h => disj_single (s := 6) (k := 6) (by omega) (by omega) (by rw [rgs_len, HLn.out]; omega) Hms.out Hok.out h)
  clear h3 hF3 hfl hb3 hfn hnf Hfc
  go_upto_region 8 with fail
  go_loopw [7, 35] (fun sv iv wr => ∃ k : Nat, iv = .int .i64 (k : Int) ∧ k ≤ nf ∧ sv = .bool ((F.take k).all oneF) ∧ Below w3.heap.size w3 wr) (fun _ iv _ => nf - (intOf iv).toNat)
  case atStart => exact ⟨0, rfl, by omega, rfl, Below.refl _ _⟩
  case round =>
    obtain ⟨k, rfl, hkn, rfl, hbk⟩ := hrel
    have Hbk := Lib.hid hbk
    have hsk := hbk.size
    clear hbk
    by_cases hkl : k < nf
    · have hkl' : (k : Int) < (nf : Int) := by omega
      have hkf : k < fl.length := by have := HF3.out.len; omega
      have hkF : k < F.length := by have := Hfn.out; omega
      obtain ⟨b, off, rfl, hb, c0, c1, _⟩ := (HF3.out.below Hbk.out).at k hkf
      have hFk : fl[k].1 = F[k] := by
        have := Hfl3.out
        subst this
        simp [fcs]
      have Hst : Hid ((F.take (k + 1)).all oneF = ((F.take k).all oneF && oneF fl[k].1)) := Lib.hid (by rw [hFk, List.take_succ_eq_append_getElem hkF, List.all_append, List.all_cons, List.all_nil, Bool.and_true])
      have hpos := Hok.out.pos F[k] (List.getElem_mem hkF)
      have hset16 : F[k].set < 16 := by
        have h2 : (2 : Int) ^ (rgs L).length ≤ 16 := by
          have h : 2 ^ (rgs L).length ≤ 2 ^ 4 := Nat.pow_le_pow_right (by omega) (by rw [rgs_len, HLn.out]; exact hN4)
          have := Int.ofNat_le.2 h
          simpa using this
        have h3 := hpos.2
        omega
      rw [← hFk] at hset16 hpos
      have hpos0 := hpos.1
      have Hone : Hid (oneF fl[k].1 = decide (bits BinOp.and IntKind.i64 fl[k].1.set (fl[k].1.set - 1) = 0)) := Lib.hid rfl
      have Hcv := Lib.hid (HCf.out k hkf)
      obtain ⟨z, hz⟩ : ∃ z, fl[k].1.set = z := ⟨_, rfl⟩
      obtain ⟨D, hD⟩ : ∃ D, fl[k].2.a = D := ⟨_, rfl⟩
      obtain ⟨q, hq⟩ : ∃ q, fl[k].1.rg.length = q := ⟨_, rfl⟩
      obtain ⟨d, hd⟩ : ∃ d, fl[k].2.c = d := ⟨_, rfl⟩
      obtain ⟨ob, hob⟩ : ∃ ob, oneF fl[k].1 = ob := ⟨_, rfl⟩
      obtain ⟨sb, hsb⟩ : ∃ sb, (F.take k).all oneF = sb := ⟨_, rfl⟩
      obtain ⟨sb', hsb'⟩ : ∃ sb', (F.take (k + 1)).all oneF = sb' := ⟨_, rfl⟩
      rw [hob, hsb, hsb'] at Hst
      rw [hob, hz] at Hone
      rw [hD, hq, hd] at Hcv c1
      rw [hz] at c0 hset16 hpos0
      rw [hsb]
      have Hsb' := Lib.hid hsb'
      have e1 : wrap64 (z - 1) = z - 1 := IntWalk.wrap64_in _ (by omega)
      obtain ⟨bv, hbv⟩ : ∃ bv, bits BinOp.and IntKind.i64 z (z - 1) = bv := ⟨_, rfl⟩
      rw [hbv] at Hone
      clear hFk hpos hz hD hq hd hob hsb hsb'
      cases sb
      · go_wp2_with (first
          | (go_at_call 9
             refine (Hcv.out _ (by have hbk := Hbk.out; exact (by repeat' (first | with_reducible exact Below.refl _ _ | with_reducible assumption | with_reducible refine below_drewN ?_ _ | with_reducible refine Below.drew ?_ | with_reducible refine Below.alloc ?_ ?_ _ | with_reducible refine Below.setCell ?_ ?_ _ | with_reducible refine Below.trans ?_ (Below.mono (by with_reducible assumption) ?_) | with_reducible refine below_only ?_ (by with_reducible assumption) ?_ ?_ | (simp; done) | (simp; omega) | omega)))).mono ?_
             rintro e w5 ⟨rfl, hb5⟩
             have Hb5 : Hid (Below wr.heap.size wr w5) := Lib.hid (show Below wr.heap.size wr w5 from (by have hbq := hb5; exact (by repeat' (first | with_reducible exact Below.refl _ _ | with_reducible assumption | with_reducible refine below_drewN ?_ _ | with_reducible refine Below.drew ?_ | with_reducible refine Below.alloc ?_ ?_ _ | with_reducible refine Below.setCell ?_ ?_ _ | with_reducible refine Below.trans ?_ (Below.mono (by with_reducible assumption) ?_) | with_reducible refine below_only ?_ (by with_reducible assumption) ?_ ?_ | (simp; done) | (simp; omega) | omega))))
             clear hb5)
          | fail)
        go_roundw
        case rel => exact ⟨k + 1, by go_num, by omega, by rw [Hsb'.out, Hst.out]; simp, Hbk.out.trans (Hb5.out.mono hsk)⟩
        case measure => simp [intOf]; omega
      · by_cases hb0 : bv = 0
        · subst hb0
          have Ho : Hid (ob = true) := Lib.hid (by rw [Hone.out]; rfl)
          go_wp2_with (first
            | (go_at_call 9
               refine (Hcv.out _ (by have hbk := Hbk.out; exact (by repeat' (first | with_reducible exact Below.refl _ _ | with_reducible assumption | with_reducible refine below_drewN ?_ _ | with_reducible refine Below.drew ?_ | with_reducible refine Below.alloc ?_ ?_ _ | with_reducible refine Below.setCell ?_ ?_ _ | with_reducible refine Below.trans ?_ (Below.mono (by with_reducible assumption) ?_) | with_reducible refine below_only ?_ (by with_reducible assumption) ?_ ?_ | (simp; done) | (simp; omega) | omega)))).mono ?_
               rintro e w5 ⟨rfl, hb5⟩
               have Hb5 : Hid (Below wr.heap.size wr w5) := Lib.hid (show Below wr.heap.size wr w5 from (by have hbq := hb5; exact (by repeat' (first | with_reducible exact Below.refl _ _ | with_reducible assumption | with_reducible refine below_drewN ?_ _ | with_reducible refine Below.drew ?_ | with_reducible refine Below.alloc ?_ ?_ _ | with_reducible refine Below.setCell ?_ ?_ _ | with_reducible refine Below.trans ?_ (Below.mono (by with_reducible assumption) ?_) | with_reducible refine below_only ?_ (by with_reducible assumption) ?_ ?_ | (simp; done) | (simp; omega) | omega))))
               clear hb5)
            | fail)
          go_roundw
          case rel => exact ⟨k + 1, by go_num, by omega, by rw [Hsb'.out, Hst.out, Ho.out]; simp, Hbk.out.trans (Hb5.out.mono hsk)⟩
          case measure => simp [intOf]; omega
        · have hbf : (bv == 0) = false := by simpa using hb0
          have Ho : Hid (ob = false) := Lib.hid (by rw [Hone.out]; exact decide_eq_false hb0)
          go_wp2_with (first
            | (go_at_call 9
               refine (Hcv.out _ (by have hbk := Hbk.out; exact (by repeat' (first | with_reducible exact Below.refl _ _ | with_reducible assumption | with_reducible refine below_drewN ?_ _ | with_reducible refine Below.drew ?_ | with_reducible refine Below.alloc ?_ ?_ _ | with_reducible refine Below.setCell ?_ ?_ _ | with_reducible refine Below.trans ?_ (Below.mono (by with_reducible assumption) ?_) | with_reducible refine below_only ?_ (by with_reducible assumption) ?_ ?_ | (simp; done) | (simp; omega) | omega)))).mono ?_
               rintro e w5 ⟨rfl, hb5⟩
               have Hb5 : Hid (Below wr.heap.size wr w5) := Lib.hid (show Below wr.heap.size wr w5 from (by have hbq := hb5; exact (by repeat' (first | with_reducible exact Below.refl _ _ | with_reducible assumption | with_reducible refine below_drewN ?_ _ | with_reducible refine Below.drew ?_ | with_reducible refine Below.alloc ?_ ?_ _ | with_reducible refine Below.setCell ?_ ?_ _ | with_reducible refine Below.trans ?_ (Below.mono (by with_reducible assumption) ?_) | with_reducible refine below_only ?_ (by with_reducible assumption) ?_ ?_ | (simp; done) | (simp; omega) | omega))))
               clear hb5)
            | fail)
          go_roundw
          case rel => exact ⟨k + 1, by go_num, by omega, by rw [Hsb'.out, Hst.out, Ho.out]; simp, Hbk.out.trans (Hb5.out.mono hsk)⟩
          case measure => simp [intOf]; omega
    · obtain rfl : k = nf := by omega
      have htk : F.take k = F := by rw [List.take_of_length_le]; have := Hfn.out; omega
      rw [htk]
      clear htk
      obtain ⟨sg, hsg⟩ : ∃ sg, F.all oneF = sg := ⟨_, rfl⟩
      rw [hsg] at HDs ⊢
      clear hsg
      go_wp2_with fail
      refine (HDj.out _ Hbk.out).mono ?_
      rintro e w4 ⟨di, dj, db, de, rfl, hdis, hb4⟩
      obtain ⟨rfl, rfl⟩ := HDs.out _ _ _ _ hdis
      have Hb4 := Lib.hid (Hbk.out.trans (hb4.mono hsk))
      have hs4 := Hb4.out.size
      clear hdis hb4
      go_wp2_with fail
      refine (HCg.out (some ⟨w4.heap.size, 0, none⟩) 1 _ (Hb4.out.alloc hs4 _) (SlR.lit w4 42 #[.int .i64 50, .int .i64 0, .int .i64 51, .int .i64 1] [⟨50, 0, 51, 1⟩] 1 _ rfl rfl (by omega) rfl)).mono ?_
      rintro e w5 ⟨rfl, hb5⟩
      have Hb5 : Hid (Below w4.heap.size w4 w5) := Lib.hid (show Below w4.heap.size w4 w5 from (by have hbq := hb5; exact (by repeat' (first | with_reducible exact Below.refl _ _ | with_reducible assumption | with_reducible refine below_drewN ?_ _ | with_reducible refine Below.drew ?_ | with_reducible refine Below.alloc ?_ ?_ _ | with_reducible refine Below.setCell ?_ ?_ _ | with_reducible refine Below.trans ?_ (Below.mono (by with_reducible assumption) ?_) | with_reducible refine below_only ?_ (by with_reducible assumption) ?_ ?_ | (simp; done) | (simp; omega) | omega))))
      have Hb35 := Lib.hid (Hb4.out.trans (Hb5.out.mono hs4))
      have hs5 := Hb35.out.size
      clear hb5
      go_wp2_with fail
      refine (HCn.out _ Hb35.out).mono ?_
      rintro e w6 ⟨rfl, hb6⟩
      have Hb36 := Lib.hid (Hb35.out.trans (hb6.mono hs5))
      have hs6 := Hb36.out.size
      clear hb6
      cases sg
      · go_wp2_with (first
          | (go_at_call 11
             refine (awake07_any _).mono ?_
             rintro e w9 ⟨rfl, hb9⟩)
          | fail)
        go_ret
        exact ⟨rfl, Hb3.out.trans ((Hb36.out.trans (hb9.mono hs6)).mono hs3)⟩
      · go_wp2_with (first
          | (go_at_call 11
             refine (awake07_any _).mono ?_
             rintro e w9 ⟨rfl, hb9⟩)
          | fail)
        go_ret
        exact ⟨rfl, Hb3.out.trans ((Hb36.out.trans (hb9.mono hs6)).mono hs3)⟩
end Go.Proofs.YtabcadpfhachoaaGreat
