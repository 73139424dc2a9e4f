/- Contracts: the score of a unit (strata and its reference). -/
import Derived.Test.YtjmbdfoegnfpnaaJ4
namespace Go.Proofs.Ytjmbdfoegnfpnaa
open Go.RowKit
set_option linter.unusedVariables false
set_option linter.unusedSimpArgs false

set_option maxHeartbeats 4000000 in
set_option maxRecDepth 100000 in
theorem scoS_any (p : PlV) (q : Pl) (v : UV) (u : Un) (w : World) (hA : PlAt w p q) (hU : Sl w v.a v.c (u.fs.map (.int .i64))) :
    Calls Try.prog 20 #[.agg #[.slice p.a1 q.ws.length p.c1, .slice p.a2 q.ls.length p.c2, .slice p.a3 q.ss.length p.c3, .int .i64 q.le, .int .i64 q.ra], .agg #[.int .i64 u.fm, .slice v.a u.fs.length v.c]] w fun e w' => e = .returned (.int .i64 (scoreP q u)) ∧ Below w.heap.size w w' := by
  have Hv : Hid (scoreP q u = if checkP q ≠ 0 ∨ outP 1 60 u.fm = true ∨ factB q u = false then 0 else dot q.ws u.fs) := Lib.hid rfl
  generalize scoreP q u = res at *
  go_enter Try.func20, Try.ntmps20
  go_upto_region 1 with fail
  obtain ⟨wa, hwa⟩ : ∃ wa : World, wa = (w.alloc (.cells #[.slice p.a1 q.ws.length p.c1, .slice p.a2 q.ls.length p.c2, .slice p.a3 q.ss.length p.c3, .int .i64 q.le, .int .i64 q.ra] 24)).alloc (.cells #[.int .i64 u.fm, .slice v.a u.fs.length v.c] 27) := ⟨_, rfl⟩; rw [← hwa]; have Hr : Hid (wa.heap[w.heap.size]? = some (.cells #[.slice p.a1 q.ws.length p.c1, .slice p.a2 q.ls.length p.c2, .slice p.a3 q.ss.length p.c3, .int .i64 q.le, .int .i64 q.ra] 24 (0, 0))) := Lib.hid (by rw [hwa]; exact (Below.heap_alloc _ _ _ (by simp)).trans (heap_alloc_new w _)); have Hu : Hid (wa.heap[w.heap.size + 1]? = some (.cells #[.int .i64 u.fm, .slice v.a u.fs.length v.c] 27 (0, 0))) := Lib.hid (by rw [hwa]; have hzz := heap_alloc_new (w.alloc (.cells #[.slice p.a1 q.ws.length p.c1, .slice p.a2 q.ls.length p.c2, .slice p.a3 q.ss.length p.c3, .int .i64 q.le, .int .i64 q.ra] 24)) (.cells #[.int .i64 u.fm, .slice v.a u.fs.length v.c] 27); simpa using hzz); have Hba : Hid (Below w.heap.size w wa) := Lib.hid (by rw [hwa]; exact (by repeat' (first | with_reducible exact Below.refl _ _ | with_reducible refine below_drewN ?_ _ | with_reducible refine Below.drew ?_ | with_reducible refine Below.alloc ?_ ?_ _ | with_reducible refine Below.setCell ?_ ?_ _ | with_reducible refine Below.trans ?_ (Below.mono (by with_reducible assumption) ?_) | (simp; done) | (simp; omega) | omega))); have hl : w.heap.size < wa.heap.size := (by rw [hwa]; simp; omega); have hl1 : w.heap.size + 1 < wa.heap.size := (by rw [hwa]; simp); clear hwa
  have HA := Lib.hid (hA.below Hba.out)
  have HU := Lib.hid (hU.below Hba.out)
  clear hA hU
  have HC := Lib.hid (checkS_any p q wa HA.out)
  have HD : Hid (∀ W, Below wa.heap.size wa W → checkP q = 0 → factB q u = true → Calls Try.prog 38 #[.agg #[.slice p.a1 q.ws.length p.c1, .slice p.a2 q.ls.length p.c2, .slice p.a3 q.ss.length p.c3, .int .i64 q.le, .int .i64 q.ra], .agg #[.int .i64 u.fm, .slice v.a u.fs.length v.c]] W fun e w' => e = .returned (.int .i64 (dot q.ws u.fs)) ∧ Below W.heap.size W w') := Lib.hid (fun W hW hc hf => scoreS_any p q v u W (HA.out.below hW) (HU.out.below hW) hc hf)
  have HF : Hid (∀ W, Below wa.heap.size wa W → Calls Try.prog 37 #[.agg #[.slice p.a1 q.ws.length p.c1, .slice p.a2 q.ls.length p.c2, .slice p.a3 q.ss.length p.c3, .int .i64 q.le, .int .i64 q.ra], .agg #[.int .i64 u.fm, .slice v.a u.fs.length v.c]] W fun e w' => e = .returned (.bool (factB q u)) ∧ Below W.heap.size W w') := Lib.hid (fun W hW => factorsS_any p q v u W (HU.out.below hW))
  generalize checkP q = cq at *
  generalize dot q.ws u.fs = dd at *
  generalize factB q u = fb at *
  have HG : Hid (∀ W, Calls Try.prog 36 #[.int .i64 u.fm] W fun e w' => e = .returned (.bool (!outP 1 60 u.fm)) ∧ w' = W) := Lib.hid (fun W => farm_any u.fm W)
  generalize outP 1 60 u.fm = ob at *
  have p0 := cell_of_row wa w.heap.size 0 _ _ _ (((Below.refl wa.heap.size wa).block _ hl).trans Hr.out); have p1 := cell_of_row wa w.heap.size 1 _ _ _ (((Below.refl wa.heap.size wa).block _ hl).trans Hr.out); have p2 := cell_of_row wa w.heap.size 2 _ _ _ (((Below.refl wa.heap.size wa).block _ hl).trans Hr.out); have p3 := cell_of_row wa w.heap.size 3 _ _ _ (((Below.refl wa.heap.size wa).block _ hl).trans Hr.out); have p4 := cell_of_row wa w.heap.size 4 _ _ _ (((Below.refl wa.heap.size wa).block _ hl).trans Hr.out)
  have r0 := cell_of_row wa (w.heap.size + 1) 0 _ _ _ Hu.out
  have r1 := cell_of_row wa (w.heap.size + 1) 1 _ _ _ Hu.out
  go_wp2_with fail
  refine HC.out.mono ?_
  rintro e w1 ⟨rfl, hb1⟩
  have Hb1 := Lib.hid hb1
  clear p0 p1 p2 p3 p4 r0 r1 HC
  have p0 := cell_of_row w1 w.heap.size 0 _ _ _ ((hb1.block _ hl).trans Hr.out); have p1 := cell_of_row w1 w.heap.size 1 _ _ _ ((hb1.block _ hl).trans Hr.out); have p2 := cell_of_row w1 w.heap.size 2 _ _ _ ((hb1.block _ hl).trans Hr.out); have p3 := cell_of_row w1 w.heap.size 3 _ _ _ ((hb1.block _ hl).trans Hr.out); have p4 := cell_of_row w1 w.heap.size 4 _ _ _ ((hb1.block _ hl).trans Hr.out)
  have r0 := cell_of_row w1 (w.heap.size + 1) 0 _ _ _ ((hb1.block _ hl1).trans Hu.out)
  have r1 := cell_of_row w1 (w.heap.size + 1) 1 _ _ _ ((hb1.block _ hl1).trans Hu.out)
  clear hb1
  by_cases hc : cq = 0
  · have Hc := Lib.hid hc
    subst hc
    go_wp2_with fail
    refine (HG.out _).mono ?_
    rintro e w2 ⟨rfl, rfl⟩
    clear HG
    cases ob with
    | true =>
      have Hres : Hid (res = 0) := Lib.hid (by rw [Hv.out, if_pos (by simp)])
      simp only [Bool.not_true]
      go_wp2
      go_ret
      exact ⟨by rw [Hres.out]; rfl, (have hba := Hba.out.trans (Hb1.out.mono (Nat.le_of_lt hl)); (by repeat' (first | with_reducible exact Below.refl _ _ | with_reducible assumption | with_reducible refine below_drewN ?_ _ | with_reducible refine Below.drew ?_ | with_reducible refine Below.alloc ?_ ?_ _ | with_reducible refine Below.setCell ?_ ?_ _ | with_reducible refine Below.trans ?_ (Below.mono (by with_reducible assumption) ?_) | with_reducible refine below_only ?_ (by with_reducible assumption) ?_ ?_ | (simp; done) | (simp; omega) | omega)))⟩
    | false =>
      simp only [Bool.not_false]
      go_wp2_with fail
      refine (HF.out _ Hb1.out).mono ?_
      rintro e w3 ⟨rfl, hb3⟩
      have Hb3 := Lib.hid (Hb1.out.trans (hb3.mono Hb1.out.size))
      clear p0 p1 p2 p3 p4 r0 r1 HF hb3
      cases fb with
      | false =>
        have Hres : Hid (res = 0) := Lib.hid (by rw [Hv.out, if_pos (by simp)])
        go_wp2
        go_ret
        exact ⟨by rw [Hres.out]; rfl, (have hba := Hba.out.trans (Hb3.out.mono (Nat.le_of_lt hl)); (by repeat' (first | with_reducible exact Below.refl _ _ | with_reducible assumption | with_reducible refine below_drewN ?_ _ | with_reducible refine Below.drew ?_ | with_reducible refine Below.alloc ?_ ?_ _ | with_reducible refine Below.setCell ?_ ?_ _ | with_reducible refine Below.trans ?_ (Below.mono (by with_reducible assumption) ?_) | with_reducible refine below_only ?_ (by with_reducible assumption) ?_ ?_ | (simp; done) | (simp; omega) | omega)))⟩
      | true =>
        have Hres : Hid (res = dd) := Lib.hid (by rw [Hv.out, if_neg (by simp)])
        have p0 := cell_of_row w3 w.heap.size 0 _ _ _ ((Hb3.out.block _ hl).trans Hr.out); have p1 := cell_of_row w3 w.heap.size 1 _ _ _ ((Hb3.out.block _ hl).trans Hr.out); have p2 := cell_of_row w3 w.heap.size 2 _ _ _ ((Hb3.out.block _ hl).trans Hr.out); have p3 := cell_of_row w3 w.heap.size 3 _ _ _ ((Hb3.out.block _ hl).trans Hr.out); have p4 := cell_of_row w3 w.heap.size 4 _ _ _ ((Hb3.out.block _ hl).trans Hr.out)
        have r0 := cell_of_row w3 (w.heap.size + 1) 0 _ _ _ ((Hb3.out.block _ hl1).trans Hu.out)
        have r1 := cell_of_row w3 (w.heap.size + 1) 1 _ _ _ ((Hb3.out.block _ hl1).trans Hu.out)
        go_wp2_with fail
        refine (HD.out _ Hb3.out (by simp) (by simp)).mono ?_
        rintro e w4 ⟨rfl, hb4⟩
        have Hb4 := Lib.hid (Hb3.out.trans (hb4.mono Hb3.out.size))
        clear p0 p1 p2 p3 p4 r0 r1 HD hb4
        go_wp2
        go_ret
        exact ⟨by rw [Hres.out]; rfl, (have hba := Hba.out.trans (Hb4.out.mono (Nat.le_of_lt hl)); (by repeat' (first | with_reducible exact Below.refl _ _ | with_reducible assumption | with_reducible refine below_drewN ?_ _ | with_reducible refine Below.drew ?_ | with_reducible refine Below.alloc ?_ ?_ _ | with_reducible refine Below.setCell ?_ ?_ _ | with_reducible refine Below.trans ?_ (Below.mono (by with_reducible assumption) ?_) | with_reducible refine below_only ?_ (by with_reducible assumption) ?_ ?_ | (simp; done) | (simp; omega) | omega)))⟩
  · have Hres : Hid (res = 0) := Lib.hid (by rw [Hv.out, if_pos (.inl hc)])
    go_wp2
    go_ret
    exact ⟨by rw [Hres.out]; rfl, (have hba := Hba.out.trans (Hb1.out.mono (Nat.le_of_lt hl)); (by repeat' (first | with_reducible exact Below.refl _ _ | with_reducible assumption | with_reducible refine below_drewN ?_ _ | with_reducible refine Below.drew ?_ | with_reducible refine Below.alloc ?_ ?_ _ | with_reducible refine Below.setCell ?_ ?_ _ | with_reducible refine Below.trans ?_ (Below.mono (by with_reducible assumption) ?_) | with_reducible refine below_only ?_ (by with_reducible assumption) ?_ ?_ | (simp; done) | (simp; omega) | omega)))⟩

theorem dot_comm_take (ws fs : List Int) (k : Nat) (h1 : k < ws.length) (h2 : k < fs.length) : dot (ws.take (k + 1)) (fs.take (k + 1)) = dot (ws.take k) (fs.take k) + fs[k] * ws[k] := by
  rw [dot_take ws fs k h1 h2, Int.mul_comm]

set_option maxHeartbeats 4000000 in
set_option maxRecDepth 100000 in
theorem scoR_any (p : PlV) (q : Pl) (v : UV) (u : Un) (w : World) (hA : PlAt w p q) (hU : Sl w v.a v.c (u.fs.map (.int .i64))) :
    Calls Try.prog 21 #[.agg #[.slice p.a1 q.ws.length p.c1, .slice p.a2 q.ls.length p.c2, .slice p.a3 q.ss.length p.c3, .int .i64 q.le, .int .i64 q.ra], .agg #[.int .i64 u.fm, .slice v.a u.fs.length v.c]] w fun e w' => e = .returned (.int .i64 (scoreP q u)) ∧ Below w.heap.size w w' := by
  have Hv : Hid (scoreP q u = if checkP q ≠ 0 ∨ outP 1 60 u.fm = true ∨ factB q u = false then 0 else dot q.ws u.fs) := Lib.hid rfl
  have Hbig : Hid (checkP q = 0 → factB q u = true → q.ws.length ≤ 6 ∧ u.fs.length = q.ws.length ∧ (∀ x ∈ q.ws, 0 ≤ x ∧ x ≤ 100) ∧ ∀ x ∈ u.fs, 0 ≤ x ∧ x ≤ 100) := Lib.hid (fun hc hf => by
    obtain ⟨⟨h1, h6⟩, hw, -⟩ := (planB_iff q).1 (checkP_zero hc)
    have hfl : u.fs.length = q.ws.length ∧ u.fs.any (outP 0 100) = false := by simpa [factB] using hf
    exact ⟨h6, hfl.1, any_out hw, any_out hfl.2⟩)
  generalize scoreP q u = res at *
  go_enter Try.func21, Try.ntmps21
  go_upto_region 1 with fail
  obtain ⟨wa, hwa⟩ : ∃ wa : World, wa = (w.alloc (.cells #[.slice p.a1 q.ws.length p.c1, .slice p.a2 q.ls.length p.c2, .slice p.a3 q.ss.length p.c3, .int .i64 q.le, .int .i64 q.ra] 24)).alloc (.cells #[.int .i64 u.fm, .slice v.a u.fs.length v.c] 27) := ⟨_, rfl⟩; rw [← hwa]; have Hr : Hid (wa.heap[w.heap.size]? = some (.cells #[.slice p.a1 q.ws.length p.c1, .slice p.a2 q.ls.length p.c2, .slice p.a3 q.ss.length p.c3, .int .i64 q.le, .int .i64 q.ra] 24 (0, 0))) := Lib.hid (by rw [hwa]; exact (Below.heap_alloc _ _ _ (by simp)).trans (heap_alloc_new w _)); have Hu : Hid (wa.heap[w.heap.size + 1]? = some (.cells #[.int .i64 u.fm, .slice v.a u.fs.length v.c] 27 (0, 0))) := Lib.hid (by rw [hwa]; have hzz := heap_alloc_new (w.alloc (.cells #[.slice p.a1 q.ws.length p.c1, .slice p.a2 q.ls.length p.c2, .slice p.a3 q.ss.length p.c3, .int .i64 q.le, .int .i64 q.ra] 24)) (.cells #[.int .i64 u.fm, .slice v.a u.fs.length v.c] 27); simpa using hzz); have Hba : Hid (Below w.heap.size w wa) := Lib.hid (by rw [hwa]; exact (by repeat' (first | with_reducible exact Below.refl _ _ | with_reducible refine below_drewN ?_ _ | with_reducible refine Below.drew ?_ | with_reducible refine Below.alloc ?_ ?_ _ | with_reducible refine Below.setCell ?_ ?_ _ | with_reducible refine Below.trans ?_ (Below.mono (by with_reducible assumption) ?_) | (simp; done) | (simp; omega) | omega))); have hl : w.heap.size < wa.heap.size := (by rw [hwa]; simp; omega); have hl1 : w.heap.size + 1 < wa.heap.size := (by rw [hwa]; simp); clear hwa
  have HA := Lib.hid (hA.below Hba.out)
  have HU := Lib.hid (hU.below Hba.out)
  clear hA hU
  have HC := Lib.hid (checkR_any p q wa HA.out)
  have HF : Hid (∀ W, Below wa.heap.size wa W → Calls Try.prog 39 #[.agg #[.slice p.a1 q.ws.length p.c1, .slice p.a2 q.ls.length p.c2, .slice p.a3 q.ss.length p.c3, .int .i64 q.le, .int .i64 q.ra], .agg #[.int .i64 u.fm, .slice v.a u.fs.length v.c]] W fun e w' => e = .returned (.bool (factB q u)) ∧ Below W.heap.size W w') := Lib.hid (fun W hW => factorsR_any p q v u W (HU.out.below hW))
  generalize checkP q = cq at *
  generalize factB q u = fb at *
  obtain ⟨fm, hfm⟩ : ∃ fm, u.fm = fm := ⟨_, rfl⟩
  rw [hfm] at Hv Hu HF ⊢
  clear hfm
  have p0 := cell_of_row wa w.heap.size 0 _ _ _ (((Below.refl wa.heap.size wa).block _ hl).trans Hr.out); have p1 := cell_of_row wa w.heap.size 1 _ _ _ (((Below.refl wa.heap.size wa).block _ hl).trans Hr.out); have p2 := cell_of_row wa w.heap.size 2 _ _ _ (((Below.refl wa.heap.size wa).block _ hl).trans Hr.out); have p3 := cell_of_row wa w.heap.size 3 _ _ _ (((Below.refl wa.heap.size wa).block _ hl).trans Hr.out); have p4 := cell_of_row wa w.heap.size 4 _ _ _ (((Below.refl wa.heap.size wa).block _ hl).trans Hr.out)
  have r0 := cell_of_row wa (w.heap.size + 1) 0 _ _ _ Hu.out
  have r1 := cell_of_row wa (w.heap.size + 1) 1 _ _ _ Hu.out
  go_wp2_with fail
  refine HC.out.mono ?_
  rintro e w1 ⟨rfl, hb1⟩
  have Hb1 := Lib.hid hb1
  clear p0 p1 p2 p3 p4 r0 r1 HC
  have p0 := cell_of_row w1 w.heap.size 0 _ _ _ ((hb1.block _ hl).trans Hr.out); have p1 := cell_of_row w1 w.heap.size 1 _ _ _ ((hb1.block _ hl).trans Hr.out); have p2 := cell_of_row w1 w.heap.size 2 _ _ _ ((hb1.block _ hl).trans Hr.out); have p3 := cell_of_row w1 w.heap.size 3 _ _ _ ((hb1.block _ hl).trans Hr.out); have p4 := cell_of_row w1 w.heap.size 4 _ _ _ ((hb1.block _ hl).trans Hr.out)
  have r0 := cell_of_row w1 (w.heap.size + 1) 0 _ _ _ ((hb1.block _ hl1).trans Hu.out)
  have r1 := cell_of_row w1 (w.heap.size + 1) 1 _ _ _ ((hb1.block _ hl1).trans Hu.out)
  clear hb1
  by_cases hc : cq = 0
  · have Hc := Lib.hid hc
    subst hc
    by_cases hf1 : fm < 1
    · have Hres : Hid (res = 0) := Lib.hid (by rw [Hv.out, if_pos (by simp [outP, hf1])])
      go_wp2
      go_ret
      exact ⟨by rw [Hres.out]; rfl, (have hba := Hba.out.trans (Hb1.out.mono (Nat.le_of_lt hl)); (by repeat' (first | with_reducible exact Below.refl _ _ | with_reducible assumption | with_reducible refine below_drewN ?_ _ | with_reducible refine Below.drew ?_ | with_reducible refine Below.alloc ?_ ?_ _ | with_reducible refine Below.setCell ?_ ?_ _ | with_reducible refine Below.trans ?_ (Below.mono (by with_reducible assumption) ?_) | with_reducible refine below_only ?_ (by with_reducible assumption) ?_ ?_ | (simp; done) | (simp; omega) | omega)))⟩
    by_cases hf2 : 60 < fm
    · have Hres : Hid (res = 0) := Lib.hid (by rw [Hv.out, if_pos (by simp [outP, hf2])])
      go_wp2
      go_ret
      exact ⟨by rw [Hres.out]; rfl, (have hba := Hba.out.trans (Hb1.out.mono (Nat.le_of_lt hl)); (by repeat' (first | with_reducible exact Below.refl _ _ | with_reducible assumption | with_reducible refine below_drewN ?_ _ | with_reducible refine Below.drew ?_ | with_reducible refine Below.alloc ?_ ?_ _ | with_reducible refine Below.setCell ?_ ?_ _ | with_reducible refine Below.trans ?_ (Below.mono (by with_reducible assumption) ?_) | with_reducible refine below_only ?_ (by with_reducible assumption) ?_ ?_ | (simp; done) | (simp; omega) | omega)))⟩
    have Hv2 : Hid (res = if fb = false then 0 else dot q.ws u.fs) := Lib.hid (by rw [Hv.out]; simp [outP, hf1, hf2])
    have hf1d : decide (fm < 1) = false := decide_eq_false hf1
    have hf2d : decide (60 < fm) = false := decide_eq_false hf2
    go_wp2_with fail
    refine (HF.out _ Hb1.out).mono ?_
    rintro e w3 ⟨rfl, hb3⟩
    have Hb3 := Lib.hid (Hb1.out.trans (hb3.mono Hb1.out.size))
    clear p0 p1 p2 p3 p4 r0 r1 HF hb3 Hv
    cases fb with
    | false =>
      have Hres : Hid (res = 0) := Lib.hid (by rw [Hv2.out, if_pos (by simp)])
      go_wp2
      go_ret
      exact ⟨by rw [Hres.out]; rfl, (have hba := Hba.out.trans (Hb3.out.mono (Nat.le_of_lt hl)); (by repeat' (first | with_reducible exact Below.refl _ _ | with_reducible assumption | with_reducible refine below_drewN ?_ _ | with_reducible refine Below.drew ?_ | with_reducible refine Below.alloc ?_ ?_ _ | with_reducible refine Below.setCell ?_ ?_ _ | with_reducible refine Below.trans ?_ (Below.mono (by with_reducible assumption) ?_) | with_reducible refine below_only ?_ (by with_reducible assumption) ?_ ?_ | (simp; done) | (simp; omega) | omega)))⟩
    | true =>
      have Hres : Hid (res = dot q.ws u.fs) := Lib.hid (by rw [Hv2.out, if_neg (by simp)])
      obtain ⟨h6, hfl, hW, hF⟩ := Hbig.out (by simp) (by simp)
      have HWx := Lib.hid hW
      have HFx := Lib.hid hF
      have Hfl := Lib.hid hfl
      have Hd : Hid (∀ k, k ≤ q.ws.length → 0 ≤ dot (q.ws.take k) (u.fs.take k) ∧ dot (q.ws.take k) (u.fs.take k) ≤ 60000) := Lib.hid (fun k hk => by
        have := dot_bd (q.ws.take k) (u.fs.take k) (fun x hx => HWx.out x (List.mem_of_mem_take hx)) (fun x hx => HFx.out x (List.mem_of_mem_take hx))
        rw [List.length_take] at this
        have h2 : (min k q.ws.length : Nat) ≤ 6 := by omega
        refine ⟨this.1, Int.le_trans this.2 ?_⟩
        omega)
      have Hdn : Hid (dot (q.ws.take q.ws.length) (u.fs.take q.ws.length) = dot q.ws u.fs) := Lib.hid (by rw [List.take_length, List.take_of_length_le (by omega)])
      clear hfl hW hF Hv2 Hbig
      have HL := Lib.hid (HA.out.s1.below Hb3.out)
      have HM := Lib.hid (HU.out.below Hb3.out)
      have c0 := cell_of_row w3 w.heap.size 0 _ _ _ ((Hb3.out.block _ hl).trans Hr.out)
      have c1 := cell_of_row w3 (w.heap.size + 1) 1 _ _ _ ((Hb3.out.block _ hl1).trans Hu.out)
      obtain ⟨n, hn⟩ : ∃ n, q.ws.length = n := ⟨_, rfl⟩
      have Hn := Lib.hid hn
      have Hm : Hid (u.fs.length = n) := Lib.hid (by have := Hfl.out; omega)
      rw [hn] at c0 Hd Hdn h6
      rw [Hm.out] at c1
      clear hn Hfl
      generalize p.a1 = A1 at c0 HL Hr ⊢
      generalize v.a = A2 at c1 HM Hu ⊢
      go_upto_region 3 with fail
      go_wp2_with fail
      go_loopw [5, 6] (fun s i wr => ∃ k : Nat, k ≤ n ∧ i = .int .i64 (k : Int) ∧ s = .int .i64 (dot (q.ws.take k) (u.fs.take k)) ∧ ∃ m, wr = w3.drewN m) (fun _ i _ => n - (intOf i).toNat)
      case atStart => exact ⟨0, Nat.zero_le _, rfl, rfl, 0, rfl⟩
      case round =>
        obtain ⟨k, hk, rfl, rfl, m, rfl⟩ := hrel
        have d0 : (w3.drewN m).cell? ⟨w.heap.size, 0, none⟩ = _ := c0
        have d1 : (w3.drewN m).cell? ⟨w.heap.size + 1, 1, none⟩ = _ := c1
        by_cases hkn : k < n
        · have hkn' : (k : Int) < (n : Int) := by omega
          have hkw : k < q.ws.length := by have := Hn.out; omega
          have hkf : k < u.fs.length := by have := Hm.out; omega
          obtain ⟨b, off, rfl, hb, ck⟩ := HL.out.at k hkw
          obtain ⟨b', off', rfl, hb', cu⟩ := HM.out.at k hkf
          have ck' : (w3.drewN m).cell? ⟨b, off + k, none⟩ = _ := ck
          have cu' : (w3.drewN m).cell? ⟨b', off' + k, none⟩ = _ := cu
          have Hs := Lib.hid (dot_comm_take q.ws u.fs k hkw hkf)
          have Hd0 := Hd.out k (by omega)
          have Hd1 := Hd.out (k + 1) (by omega)
          have Hx := HWx.out q.ws[k] (List.getElem_mem _)
          have Hy := HFx.out (u.fs[k]'hkf) (List.getElem_mem _)
          rw [Hs.out] at Hd1
          generalize dot (q.ws.take k) (u.fs.take k) = s at *
          generalize u.fs[k]'hkf = y at *
          generalize q.ws[k]'hkw = x at *
          have hm0 : 0 ≤ y * x := Int.mul_nonneg Hy.1 Hx.1
          clear hkw hkf
          go_wp2_with fail
          go_quiet (fail)
          go_wp2
          go_roundw
          case rel => exact ⟨k + 1, by omega, by go_num, by rw [Hs.out], _, rfl⟩
          case measure => simp [intOf]; omega
        · obtain rfl : k = n := by omega
          have hkn' : ¬ (k : Int) < (k : Int) := by omega
          rw [Hdn.out]
          go_wp2
          go_ret
          exact ⟨by rw [Hres.out]; rfl, (have hba := Hba.out.trans (Hb3.out.mono (Nat.le_of_lt hl)); (by repeat' (first | with_reducible exact Below.refl _ _ | with_reducible assumption | with_reducible refine below_drewN ?_ _ | with_reducible refine Below.drew ?_ | with_reducible refine Below.alloc ?_ ?_ _ | with_reducible refine Below.setCell ?_ ?_ _ | with_reducible refine Below.trans ?_ (Below.mono (by with_reducible assumption) ?_) | with_reducible refine below_only ?_ (by with_reducible assumption) ?_ ?_ | (simp; done) | (simp; omega) | omega)))⟩
  · have Hres : Hid (res = 0) := Lib.hid (by rw [Hv.out, if_pos (.inl hc)])
    go_wp2
    go_ret
    exact ⟨by rw [Hres.out]; rfl, (have hba := Hba.out.trans (Hb1.out.mono (Nat.le_of_lt hl)); (by repeat' (first | with_reducible exact Below.refl _ _ | with_reducible assumption | with_reducible refine below_drewN ?_ _ | with_reducible refine Below.drew ?_ | with_reducible refine Below.alloc ?_ ?_ _ | with_reducible refine Below.setCell ?_ ?_ _ | with_reducible refine Below.trans ?_ (Below.mono (by with_reducible assumption) ?_) | with_reducible refine below_only ?_ (by with_reducible assumption) ?_ ?_ | (simp; done) | (simp; omega) | omega)))⟩
end Go.Proofs.Ytjmbdfoegnfpnaa
