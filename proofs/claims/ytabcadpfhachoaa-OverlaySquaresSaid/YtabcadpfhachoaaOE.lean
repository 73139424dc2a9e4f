/- OverlaySquares: the walk. -/
import Derived.Test.YtabcadpfhachoaaOC
namespace Go.Proofs.Ytabcadpfhachoaa
open Go.RowKit
set_option linter.unusedVariables false
set_option linter.unusedSimpArgs false

set_option maxHeartbeats 16000000 in
set_option maxRecDepth 100000 in
theorem squares07 (A : Option Addr) (n c : Nat) (zs : List Int) (w : World) (hn : zs.length = n) (hc : n ≤ c) (hm : c ≤ maxLen) (hw : ∀ z ∈ zs, (Lit.int .i64 z).wf = true) (hA : Lies w A n (zs.map (.int .i64))) :
    Calls Try.prog 3 #[.slice A n c] w fun e w' => e = .returned (.bool true) ∧ Below w.heap.size w w' := by
  have HN := Lib.hid (new_any A n c zs w hn hc hm hw hA)
  clear hn hw hA hc hm
  go_enter Try.func3, Try.ntmps3
  go_wp2_with fail
  refine HN.out.mono ?_
  rintro e w0 ⟨g, rfl, hg, ht, hb0⟩
  generalize zs.take 400 = r at *
  have hlt := ht.lt
  go_wp2_with fail
  refine (range_any g r 1 4 _ ht (by omega) (by omega) (by omega)).mono ?_
  rintro e w1 ⟨rfl, ht1, hg1⟩
  have hnb := nx_bd r 4 (by omega)
  rw [show ((4 : Int) - 1 + 1) = 4 from by decide]
  obtain ⟨k0, hk0⟩ := Int.eq_ofNat_of_zero_le hnb.1
  rw [hk0] at hnb ⊢
  obtain ⟨N, hN⟩ : ∃ N : Nat, N = 1 + k0 := ⟨_, rfl⟩
  rw [show ((1 : Int) + (k0 : Int)) = ((N : Nat) : Int) from by omega]
  have hN1 : 1 ≤ N := by omega
  have hN4 : N ≤ 4 := by omega
  have Hb1 : Hid (Below w.heap.size w w1) := Lib.hid (below_only hb0 hg1 hg hb0.size)
  have hlt1 := ht1.lt
  clear hk0 hnb hg1 ht hN hb0 hlt
  go_wp2_with fail
  refine (regions_any g N r.tail 6 2 _ ht1 (by omega) (by omega) (by omega)).mono ?_
  rintro e w2 ⟨v2, L, rfl, hR2, hL2, ht2, hg2⟩
  have Hms : Hid (∀ a ∈ rgs L, Reg 6 6 a) := Lib.hid (by rw [hL2]; exact mkRegs_ok N r.tail 6 (by omega) (by omega))
  have hLn : L.length = N := by have := congrArg List.length hL2; rw [rgs_len, mkRegs_len] at this; exact this
  have Hb2 : Hid (Below w.heap.size w w2) := Lib.hid (below_only Hb1.out hg2 hg Hb1.out.size)
  have hlow := Hb1.out.size
  generalize tapeK r.tail 6 2 N = r2 at *
  obtain ⟨A2, c2, rfl, _, _, _⟩ := own_slice hR2.o
  have HR2 := Lib.hid hR2
  have HLn := Lib.hid hLn
  have Ht2 := Lib.hid ht2
  have hlt2 := ht2.lt
  rw [hLn] at HR2 ⊢
  have HG2 : Hid (SlG w2 A2 N c2 L) := Lib.hid (by have := HR2.out; rw [← hLn] at this; have := this.slg; rw [hLn] at this; exact this)
  obtain ⟨F, hF, hok⟩ := (regs_faces (s := 6) (by omega) (by rw [rgs_len, hLn]; omega) Hms.out).2
  have Hfl := Lib.hid (regs_faces (s := 6) (m := rgs L) (by omega) (by rw [rgs_len, hLn]; omega) Hms.out).1
  have HF := Lib.hid hF
  have Hok := Lib.hid hok
  have hFn : F.length ≤ 15 := by
    have h1 := faces_len hok
    rw [rgs_len, hLn] at h1
    have h2 : 2 ^ N ≤ 2 ^ 4 := Nat.pow_le_pow_right (by omega) hN4
    omega
  clear hL2 hLn hR2 ht2 hg2 Hb1 ht1 hlt1 hF hok HN hlow
  have Hfc := Lib.hid (faces_any A2 N c2 L w2 HG2.out Hfl.out)
  rw [HF.out] at Hfc
  go_wp2_with fail
  refine Hfc.out.mono ?_
  intro e w3 h3
  obtain ⟨fl, A3, c3, rfl, hF3, hfl, hb3⟩ := h3.parts
  have hfn : fl.length = F.length := by have := congrArg List.length hfl; simpa [fcs] using this
  have Hfl3 := Lib.hid hfl
  have HF3 : Hid (SlF w3 A3 fl.length c3 fl) := Lib.hid hF3.slf
  obtain ⟨nf, hnf⟩ : ∃ nf, nf = fl.length := ⟨_, rfl⟩
  rw [← hnf] at HF3 ⊢
  have hfn15 : nf ≤ 15 := by omega
  have HG3 := Lib.hid (HG2.out.below hb3)
  have Hb3 : Hid (Below w.heap.size w w3) := Lib.hid (Hb2.out.trans (hb3.mono Hb2.out.size))
  have hs3 := Hb3.out.size
  have hs23 := hb3.size
  have Hfn : Hid (nf = F.length) := Lib.hid (hnf.trans hfn)
  go_upto_region 7 with fail
  have HH : Hid (∀ (i : Nat) (h : i < L.length) (x y : Int) (W : World), Below w3.heap.size w3 W → Calls Try.prog 11 #[.agg #[.slice L[i].2.a L[i].1.length L[i].2.c], .int .i64 x, .int .i64 y] W fun e w' => e = .returned (.bool (inL L[i].1 x y)) ∧ Below W.heap.size W w') := Lib.hid (fun i h x y W hW => by
    have hs := (HG3.out.below hW).fits _ (List.getElem_mem h)
    have := hasR_any _ _ _ _ x y W hs
    rw [has_reg (Hms.out _ (List.mem_map.2 ⟨_, List.getElem_mem h, rfl⟩)) (by omega) (by omega)] at this
    exact this)
  have HZ : Hid (∀ (i : Nat) (h : i < fl.length) (x y : Int) (W : World), Below w3.heap.size w3 W → Calls Try.prog 11 #[.agg #[.slice fl[i].2.a fl[i].1.rg.length fl[i].2.c], .int .i64 x, .int .i64 y] W fun e w' => e = .returned (.bool (inL fl[i].1.rg x y)) ∧ Below W.heap.size W w') := Lib.hid (fun i h x y W hW => by
    have hs := (HF3.out.below hW).fits _ (List.getElem_mem h)
    have := hasR_any _ _ _ _ x y W hs
    rw [has_reg (Hok.out.reg fl[i].1 (by rw [← Hfl3.out]; exact List.mem_map.2 ⟨_, List.getElem_mem h, rfl⟩)) (by omega) (by omega)] at this
    exact this)
  go_loopw [7] (fun xv wr => ∃ x : Nat, xv = .int .i64 (x : Int) ∧ x ≤ 7 ∧ Below w3.heap.size w3 wr) (fun xv _ => 7 - (intOf xv).toNat)
  case atStart => exact ⟨0, rfl, by omega, Below.refl _ _⟩
  case round =>
    obtain ⟨x, rfl, hx7, hbx⟩ := hrel
    have Hbx := Lib.hid hbx
    clear hbx
    obtain ⟨wx, rfl⟩ : ∃ wx : World, wx = wr := ⟨_, rfl⟩
    by_cases hxl : x < 7
    · have hxl' : (x : Int) < 7 := by omega
      go_upto_region 10 with fail
      go_loopw [8] (fun yv wr => ∃ y : Nat, yv = .int .i64 (y : Int) ∧ y ≤ 7 ∧ Below w3.heap.size w3 wr) (fun yv _ => 7 - (intOf yv).toNat)
      case atStart => exact ⟨0, rfl, by omega, Hbx.out⟩
      case round =>
        obtain ⟨y, rfl, hy7, hby⟩ := hrel
        have Hby := Lib.hid hby
        clear hby
        obtain ⟨wy, rfl⟩ : ∃ wy : World, wy = wr := ⟨_, rfl⟩
        by_cases hyl : y < 7
        · have hyl' : (y : Int) < 7 := by omega
          go_upto_region 14 with fail
          go_loopw [9, 38] (fun sv iv wr => ∃ i : Nat, iv = .int .i64 (i : Int) ∧ i ≤ N ∧ sv = .int .i64 (setAt ((rgs L).take i) x y : Int) ∧ Below w3.heap.size w3 wr) (fun _ iv _ => N - (intOf iv).toNat)
          case atStart => exact ⟨0, rfl, by omega, rfl, Hby.out⟩
          case round =>
            obtain ⟨i, rfl, hiN, rfl, hbi⟩ := hrel
            have Hbi := Lib.hid hbi
            have hsi := hbi.size
            clear hbi
            by_cases hil : i < N
            · have hil' : (i : Int) < (N : Int) := by omega
              have hiL : i < L.length := by rw [HLn.out]; exact hil
              obtain ⟨b, off, rfl, hb, c0, _⟩ := (HG3.out.below Hbi.out).at i hiL
              have Hst : Hid (setAt ((rgs L).take (i + 1)) x y = setAt ((rgs L).take i) x y ||| ((inL L[i].1 x y).toNat * 2 ^ i)) := Lib.hid (by
                rw [setAt_take (rgs L) i (by rw [rgs_len]; exact hiL) x y]
                simp [rgs])
              have Hhas := Lib.hid (HH.out i hiL x y)
              have hms : setAt ((rgs L).take i) x y < 2 ^ 62 := Nat.lt_of_lt_of_le (setAt_lt _ _ _) (Nat.pow_le_pow_right (by omega) (by rw [List.length_take]; omega))
              generalize setAt ((rgs L).take i) x y = s at *
              obtain ⟨s', hse⟩ : ∃ s', setAt ((rgs L).take (i + 1)) x y = s' := ⟨_, rfl⟩
              rw [hse] at Hst
              have Hse := Lib.hid hse
              clear hse
              have hor := or_shl s i hms (by omega)
              have hi0 : 0 ≤ (i : Int) := by omega
              have ei : IntKind.i64.wrap (i : Int) = (i : Int) := IntWalk.i64_in _ (by omega)
              obtain ⟨D, hD⟩ : ∃ D, L[i].2.a = D := ⟨_, rfl⟩
              obtain ⟨k, hk⟩ : ∃ k, L[i].1.length = k := ⟨_, rfl⟩
              obtain ⟨d, hd⟩ : ∃ d, L[i].2.c = d := ⟨_, rfl⟩
              rw [hD, hk, hd] at Hhas c0
              clear hD hk hd
              obtain ⟨v, hv⟩ : ∃ v, inL L[i].1 x y = v := ⟨_, rfl⟩
              rw [hv] at Hhas Hst
              clear hv
              cases v
              · have Hs' : Hid (s' = s) := Lib.hid (by rw [Hst.out]; simp)
                go_wp2_with (first
                  | (go_at_call 11
                     refine (Hhas.out _ (by have hbi := Hbi.out; exact (by repeat' (first | with_reducible exact Below.refl _ _ | with_reducible assumption | with_reducible refine below_drewN ?_ _ | with_reducible refine Below.drew ?_ | with_reducible refine Below.alloc ?_ ?_ _ | with_reducible refine Below.setCell ?_ ?_ _ | with_reducible refine Below.trans ?_ (Below.mono (by with_reducible assumption) ?_) | with_reducible refine below_only ?_ (by with_reducible assumption) ?_ ?_ | (simp; done) | (simp; omega) | omega)))).mono ?_
                     rintro e w5 ⟨rfl, hb5⟩
                     have Hb5 : Hid (Below wr.heap.size wr w5) := Lib.hid (show Below wr.heap.size wr w5 from (by have hbq := hb5; exact (by repeat' (first | with_reducible exact Below.refl _ _ | with_reducible assumption | with_reducible refine below_drewN ?_ _ | with_reducible refine Below.drew ?_ | with_reducible refine Below.alloc ?_ ?_ _ | with_reducible refine Below.setCell ?_ ?_ _ | with_reducible refine Below.trans ?_ (Below.mono (by with_reducible assumption) ?_) | with_reducible refine below_only ?_ (by with_reducible assumption) ?_ ?_ | (simp; done) | (simp; omega) | omega))))
                     clear hb5)
                  | fail)
                go_roundw
                case rel => exact ⟨i + 1, by go_num, by omega, by rw [Hse.out, Hs'.out], Hbi.out.trans (Hb5.out.mono hsi)⟩
                case measure => simp [intOf]; omega
              · go_wp2_with (first
                  | (go_at_call 11
                     refine (Hhas.out _ (by have hbi := Hbi.out; exact (by repeat' (first | with_reducible exact Below.refl _ _ | with_reducible assumption | with_reducible refine below_drewN ?_ _ | with_reducible refine Below.drew ?_ | with_reducible refine Below.alloc ?_ ?_ _ | with_reducible refine Below.setCell ?_ ?_ _ | with_reducible refine Below.trans ?_ (Below.mono (by with_reducible assumption) ?_) | with_reducible refine below_only ?_ (by with_reducible assumption) ?_ ?_ | (simp; done) | (simp; omega) | omega)))).mono ?_
                     rintro e w5 ⟨rfl, hb5⟩
                     have Hb5 : Hid (Below wr.heap.size wr w5) := Lib.hid (show Below wr.heap.size wr w5 from (by have hbq := hb5; exact (by repeat' (first | with_reducible exact Below.refl _ _ | with_reducible assumption | with_reducible refine below_drewN ?_ _ | with_reducible refine Below.drew ?_ | with_reducible refine Below.alloc ?_ ?_ _ | with_reducible refine Below.setCell ?_ ?_ _ | with_reducible refine Below.trans ?_ (Below.mono (by with_reducible assumption) ?_) | with_reducible refine below_only ?_ (by with_reducible assumption) ?_ ?_ | (simp; done) | (simp; omega) | omega))))
                     clear hb5)
                  | fail)
                go_roundw
                case rel => exact ⟨i + 1, by go_num, by omega, by rw [Hse.out, Hst.out]; simp, Hbi.out.trans (Hb5.out.mono hsi)⟩
                case measure => simp [intOf]; omega
            · obtain rfl : i = N := by omega
              have htk : (rgs L).take i = rgs L := by rw [List.take_of_length_le]; rw [rgs_len, HLn.out]; exact Nat.le_refl _
              rw [htk]
              clear htk
              have hfd := found_one Hok.out x y
              have Hbd := Lib.hid (fun k => found_bd Hok.out (by rw [rgs_len, HLn.out]; omega) k x y)
              have hst16 : setAt (rgs L) x y < 2 ^ 4 := Nat.lt_of_lt_of_le (setAt_lt (rgs L) x y) (Nat.pow_le_pow_right (by omega) (by rw [rgs_len, HLn.out]; exact hN4))
              generalize setAt (rgs L) x y = s at *
              have Hfd := Lib.hid hfd
              clear hfd
              go_upto_region 21 with fail
              go_loopw [12, 54] (fun fv iv wr => ∃ k : Nat, iv = .int .i64 (k : Int) ∧ k ≤ nf ∧ fv = .int .i64 (foundP (F.take k) x y) ∧ Below w3.heap.size w3 wr) (fun _ iv _ => nf - (intOf iv).toNat)
              case atStart => exact ⟨0, rfl, by omega, rfl, Hbi.out⟩
              case round =>
                obtain ⟨k, rfl, hkn, rfl, hbk⟩ := hrel
                have Hbk := Lib.hid hbk
                have hsk := hbk.size
                clear hbk
                by_cases hkl : k < nf
                · have hkl' : (k : Int) < (nf : Int) := by omega
                  have hkF : k < F.length := by have := Hfn.out; omega
                  have hkf : k < fl.length := by have := HF3.out.len; omega
                  obtain ⟨b, off, rfl, hb, c0, c1, _⟩ := (HF3.out.below Hbk.out).at k hkf
                  have hFk : fl[k].1 = F[k] := by
                    have := Hfl3.out
                    subst this
                    simp [fcs]
                  have hst : foundP (F.take (k + 1)) x y = foundP (F.take k) x y + if inL fl[k].1.rg x y then 1 + 100 * fl[k].1.set else 0 := by rw [hFk]; exact found_step F k hkF x y
                  have hpos := Hok.out.pos F[k] (List.getElem_mem hkF)
                  have hset16 : F[k].set < 16 := by
                    have h2 : (2 : Int) ^ (rgs L).length ≤ 16 := by
                      have h : 2 ^ (rgs L).length ≤ 2 ^ 4 := Nat.pow_le_pow_right (by omega) (by rw [rgs_len, HLn.out]; exact hN4)
                      have := Int.ofNat_le.2 h
                      simpa using this
                    have h3 := hpos.2
                    omega
                  have hb1 := Hbd.out k
                  have hb2 : (F.take k).length ≤ 15 := by rw [List.length_take]; omega
                  have Hhas := Lib.hid (HZ.out k hkf x y)
                  rw [← hFk] at hset16 hpos
                  have hpos0 := hpos.1
                  obtain ⟨z, hz⟩ : ∃ z, fl[k].1.set = z := ⟨_, rfl⟩
                  obtain ⟨D, hD⟩ : ∃ D, fl[k].2.a = D := ⟨_, rfl⟩
                  obtain ⟨q, hq⟩ : ∃ q, fl[k].1.rg.length = q := ⟨_, rfl⟩
                  obtain ⟨d, hd⟩ : ∃ d, fl[k].2.c = d := ⟨_, rfl⟩
                  obtain ⟨v, hv⟩ : ∃ v, inL fl[k].1.rg x y = v := ⟨_, rfl⟩
                  obtain ⟨f', hf'⟩ : ∃ f', foundP (F.take (k + 1)) x y = f' := ⟨_, rfl⟩
                  obtain ⟨f, hf⟩ : ∃ f, foundP (F.take k) x y = f := ⟨_, rfl⟩
                  rw [hD, hq, hd, hv] at Hhas
                  rw [hz] at c0 hset16 hpos0 hst
                  rw [hD, hq, hd] at c1
                  rw [hv, hf, hf'] at hst
                  rw [hf] at hb1 ⊢
                  have hb3 : f ≤ 24015 := by have := hb1.2; omega
                  have hb4 := hb1.1
                  have Hf' := Lib.hid hf'
                  have Hst := Lib.hid hst
                  have e1 : wrap64 (100 * z) = 100 * z := IntWalk.wrap64_in _ (by omega)
                  have e2 : wrap64 (1 + 100 * z) = 1 + 100 * z := IntWalk.wrap64_in _ (by omega)
                  have e3 : wrap64 (f + (1 + 100 * z)) = f + (1 + 100 * z) := IntWalk.wrap64_in _ (by omega)
                  clear hD hq hd hv hf hf' hz hFk hpos hst hb1 hb2
                  cases v
                  · go_wp2_with (first
                      | (go_at_call 11
                         refine (Hhas.out _ (by have hbk := Hbk.out; exact (by repeat' (first | with_reducible exact Below.refl _ _ | with_reducible assumption | with_reducible refine below_drewN ?_ _ | with_reducible refine Below.drew ?_ | with_reducible refine Below.alloc ?_ ?_ _ | with_reducible refine Below.setCell ?_ ?_ _ | with_reducible refine Below.trans ?_ (Below.mono (by with_reducible assumption) ?_) | with_reducible refine below_only ?_ (by with_reducible assumption) ?_ ?_ | (simp; done) | (simp; omega) | omega)))).mono ?_
                         rintro e w5 ⟨rfl, hb5⟩
                         have Hb5 : Hid (Below wr.heap.size wr w5) := Lib.hid (show Below wr.heap.size wr w5 from (by have hbq := hb5; exact (by repeat' (first | with_reducible exact Below.refl _ _ | with_reducible assumption | with_reducible refine below_drewN ?_ _ | with_reducible refine Below.drew ?_ | with_reducible refine Below.alloc ?_ ?_ _ | with_reducible refine Below.setCell ?_ ?_ _ | with_reducible refine Below.trans ?_ (Below.mono (by with_reducible assumption) ?_) | with_reducible refine below_only ?_ (by with_reducible assumption) ?_ ?_ | (simp; done) | (simp; omega) | omega))))
                         clear hb5)
                      | fail)
                    go_roundw
                    case rel => exact ⟨k + 1, by go_num, by omega, by rw [Hf'.out, Hst.out]; simp, Hbk.out.trans (Hb5.out.mono hsk)⟩
                    case measure => simp [intOf]; omega
                  · go_wp2_with (first
                      | (go_at_call 11
                         refine (Hhas.out _ (by have hbk := Hbk.out; exact (by repeat' (first | with_reducible exact Below.refl _ _ | with_reducible assumption | with_reducible refine below_drewN ?_ _ | with_reducible refine Below.drew ?_ | with_reducible refine Below.alloc ?_ ?_ _ | with_reducible refine Below.setCell ?_ ?_ _ | with_reducible refine Below.trans ?_ (Below.mono (by with_reducible assumption) ?_) | with_reducible refine below_only ?_ (by with_reducible assumption) ?_ ?_ | (simp; done) | (simp; omega) | omega)))).mono ?_
                         rintro e w5 ⟨rfl, hb5⟩
                         have Hb5 : Hid (Below wr.heap.size wr w5) := Lib.hid (show Below wr.heap.size wr w5 from (by have hbq := hb5; exact (by repeat' (first | with_reducible exact Below.refl _ _ | with_reducible assumption | with_reducible refine below_drewN ?_ _ | with_reducible refine Below.drew ?_ | with_reducible refine Below.alloc ?_ ?_ _ | with_reducible refine Below.setCell ?_ ?_ _ | with_reducible refine Below.trans ?_ (Below.mono (by with_reducible assumption) ?_) | with_reducible refine below_only ?_ (by with_reducible assumption) ?_ ?_ | (simp; done) | (simp; omega) | omega))))
                         have hr5 : w5.heap[wr.heap.size]? = some (.cells #[.int .i64 z, .slice D q d] 37 (0, 0)) := (hb5.block _ (by simp)).trans (heap_alloc_new wr _)
                         have y0 := cell_of_row _ _ 0 _ _ _ hr5
                         clear hb5 hr5)
                      | fail)
                    go_roundw
                    case rel => exact ⟨k + 1, by go_num, by omega, by rw [Hf'.out, Hst.out]; simp, Hbk.out.trans (Hb5.out.mono hsk)⟩
                    case measure => simp [intOf]; omega
                · obtain rfl : k = nf := by omega
                  have htk : F.take k = F := by rw [List.take_of_length_le]; have := Hfn.out; omega
                  have hfd := Hfd.out
                  rw [htk]
                  clear htk
                  generalize foundP F x y = f at *
                  have e1 : wrap64 (100 * (s : Int)) = 100 * (s : Int) := IntWalk.wrap64_in _ (by omega)
                  have e2 : wrap64 (1 + 100 * (s : Int)) = 1 + 100 * (s : Int) := IntWalk.wrap64_in _ (by omega)
                  have ey : IntKind.i64.wrap ((y : Int) + 1) = (y : Int) + 1 := IntWalk.i64_in _ (by omega)
                  by_cases hs0 : s = 0
                  · subst hs0
                    rw [if_pos rfl] at hfd
                    subst hfd
                    clear Hfd
                    go_wp2
                    go_roundw
                    case rel => exact ⟨y + 1, by go_num, by omega, Hbk.out⟩
                    case measure => simp [intOf]; omega
                  · rw [if_neg hs0] at hfd
                    subst hfd
                    clear Hfd
                    have hsp : 0 < (s : Int) := by omega
                    have hsz : ¬ (s : Int) = 0 := by omega
                    go_wp2
                    all_goals exact ⟨⟨y + 1, by go_num, by omega, Hbk.out⟩, by simp [intOf]; omega⟩
        · obtain rfl : y = 7 := by omega
          go_wp2
          go_roundw
          case rel => exact ⟨x + 1, by go_num, by omega, Hby.out⟩
          case measure => simp [intOf]; omega
    · obtain rfl : x = 7 := by omega
      go_wp2_with fail
      refine (awake07_any _).mono ?_
      rintro e w9 ⟨rfl, hb9⟩
      go_wp2
      go_ret
      exact ⟨rfl, Hb3.out.trans ((Hbx.out.trans (hb9.mono Hbx.out.size)).mono hs3)⟩
end Go.Proofs.Ytabcadpfhachoaa
