/- Contracts: the factors of a unit, its score, the stratum of a score (strata and its reference). -/
import Derived.Test.YtjmbdfoegnfpnaaJ3
import Derived.Test.YtjmbdfoegnfpnaaJ2
import Derived.Test.YtjmbdfoegnfpnaaJ2R
namespace Go.Proofs.Ytjmbdfoegnfpnaa
open Go.RowKit
set_option linter.unusedVariables false
set_option linter.unusedSimpArgs false

set_option maxHeartbeats 4000000 in
set_option maxRecDepth 100000 in
theorem factorsS_any (p : PlV) (q : Pl) (v : UV) (u : Un) (w : World) (hU : Sl w v.a v.c (u.fs.map (.int .i64))) :
    Calls Try.prog 37 #[.agg #[.slice p.a1 q.ws.length p.c1, .slice p.a2 q.ls.length p.c2, .slice p.a3 q.ss.length p.c3, .int .i64 q.le, .int .i64 q.ra], .agg #[.int .i64 u.fm, .slice v.a u.fs.length v.c]] w fun e w' => e = .returned (.bool (factB q u)) ∧ Below w.heap.size w w' := by
  have Hv : Hid (factB q u = (decide (u.fs.length = q.ws.length) && !u.fs.any (outP 0 100))) := Lib.hid rfl
  generalize factB q u = res at *
  go_enter Try.func37, Try.ntmps37
  go_upto_region 1 with fail
  obtain ⟨wa, hwa⟩ : ∃ wa : World, wa = (w.alloc (.cells #[.slice p.a1 q.ws.length p.c1, .slice p.a2 q.ls.length p.c2, .slice p.a3 q.ss.length p.c3, .int .i64 q.le, .int .i64 q.ra] 24)).alloc (.cells #[.int .i64 u.fm, .slice v.a u.fs.length v.c] 27) := ⟨_, rfl⟩; rw [← hwa]; have Hr : Hid (wa.heap[w.heap.size]? = some (.cells #[.slice p.a1 q.ws.length p.c1, .slice p.a2 q.ls.length p.c2, .slice p.a3 q.ss.length p.c3, .int .i64 q.le, .int .i64 q.ra] 24 (0, 0))) := Lib.hid (by rw [hwa]; exact (Below.heap_alloc _ _ _ (by simp)).trans (heap_alloc_new w _)); have Hu : Hid (wa.heap[w.heap.size + 1]? = some (.cells #[.int .i64 u.fm, .slice v.a u.fs.length v.c] 27 (0, 0))) := Lib.hid (by rw [hwa]; have hzz := heap_alloc_new (w.alloc (.cells #[.slice p.a1 q.ws.length p.c1, .slice p.a2 q.ls.length p.c2, .slice p.a3 q.ss.length p.c3, .int .i64 q.le, .int .i64 q.ra] 24)) (.cells #[.int .i64 u.fm, .slice v.a u.fs.length v.c] 27); simpa using hzz); have Hba : Hid (Below w.heap.size w wa) := Lib.hid (by rw [hwa]; exact (by repeat' (first | with_reducible exact Below.refl _ _ | with_reducible refine below_drewN ?_ _ | with_reducible refine Below.drew ?_ | with_reducible refine Below.alloc ?_ ?_ _ | with_reducible refine Below.setCell ?_ ?_ _ | with_reducible refine Below.trans ?_ (Below.mono (by with_reducible assumption) ?_) | (simp; done) | (simp; omega) | omega))); have hl : w.heap.size < wa.heap.size := (by rw [hwa]; simp; omega); have hl1 : w.heap.size + 1 < wa.heap.size := (by rw [hwa]; simp); clear hwa
  have HU := Lib.hid (hU.below Hba.out)
  have c0 := cell_of_row wa w.heap.size 0 _ _ _ Hr.out
  have c1 := cell_of_row wa (w.heap.size + 1) 1 _ _ _ Hu.out
  have HC := Lib.hid (fun b0 b1 W (hW : Below wa.heap.size wa W) (hL : Lim W b0 b1 0 100) => containsOut_any 0 100 b0 b1 v.a u.fs.length v.c u.fs W hL (HU.out.below hW) rfl)
  generalize u.fs.any (outP 0 100) = b at *
  obtain ⟨n, hn⟩ : ∃ n, u.fs.length = n := ⟨_, rfl⟩
  obtain ⟨m, hm⟩ : ∃ m, q.ws.length = m := ⟨_, rfl⟩
  rw [hn] at c1
  rw [hm] at c0
  rw [hn, hm] at Hv
  rw [hn] at HC
  clear hn hm hU HU
  by_cases h : n = m
  · subst h
    have Hres : Hid (res = !b) := Lib.hid (by rw [Hv.out]; simp)
    clear Hv
    go_region_held3 (fun w' => w'.cell? ⟨w.heap.size, 0, none⟩ = some (.slice p.a1 n p.c1) ∧ w'.cell? ⟨w.heap.size + 1, 1, none⟩ = some (.slice v.a n v.c))
      (first | go_keep | ((repeat' apply And.intro) <;> go_keep))
      (first
        | (go_at_call 34
           refine (outside_any 0 100 _).mono ?_
           rintro e w1 ⟨rfl, hw1⟩
           have HL1 : Hid (Lim w1 wa.heap.size (wa.heap.size + 1) 0 100) := Lib.hid (by rw [hw1]; exact Lim.new _ 0 100)
           have Hb1 : Hid (Below wa.heap.size wa w1) := Lib.hid (by rw [hw1]; exact (by repeat' (first | with_reducible exact Below.refl _ _ | with_reducible assumption | with_reducible refine below_drewN ?_ _ | with_reducible refine Below.drew ?_ | with_reducible refine Below.alloc ?_ ?_ _ | with_reducible refine Below.setCell ?_ ?_ _ | with_reducible refine Below.trans ?_ (Below.mono (by with_reducible assumption) ?_) | with_reducible refine below_only ?_ (by with_reducible assumption) ?_ ?_ | (simp; done) | (simp; omega) | omega)))
           have d0 := (Hb1.out.cell (p := ⟨w.heap.size, 0, none⟩) hl).trans c0
           have d1 := (Hb1.out.cell (p := ⟨w.heap.size + 1, 1, none⟩) hl1).trans c1
           clear hw1)
        | (go_at_call 33
           refine (HC.out _ _ _ Hb1.out HL1.out).mono ?_
           rintro e w2 ⟨rfl, rfl⟩)
        | fail)
    go_wp2
    go_ret
    exact ⟨by rw [Hres.out]; first | rfl | simp, (have hba := Hba.out.trans (Hb1.out.mono (Nat.le_of_lt hl)); (by repeat' (first | with_reducible exact Below.refl _ _ | with_reducible assumption | with_reducible refine below_drewN ?_ _ | with_reducible refine Below.drew ?_ | with_reducible refine Below.alloc ?_ ?_ _ | with_reducible refine Below.setCell ?_ ?_ _ | with_reducible refine Below.trans ?_ (Below.mono (by with_reducible assumption) ?_) | with_reducible refine below_only ?_ (by with_reducible assumption) ?_ ?_ | (simp; done) | (simp; omega) | omega)))⟩
  · have h' : ¬ (n : Int) = (m : Int) := by omega
    have hd : decide ((n : Int) = (m : Int)) = false := decide_eq_false h'
    have Hres : Hid (res = false) := Lib.hid (by rw [Hv.out, decide_eq_false h]; rfl)
    clear Hv HC
    go_quiet (fail)
    go_wp2
    go_ret
    exact ⟨by rw [Hres.out]; rfl, (have hba := Hba.out; (by repeat' (first | with_reducible exact Below.refl _ _ | with_reducible assumption | with_reducible refine below_drewN ?_ _ | with_reducible refine Below.drew ?_ | with_reducible refine Below.alloc ?_ ?_ _ | with_reducible refine Below.setCell ?_ ?_ _ | with_reducible refine Below.trans ?_ (Below.mono (by with_reducible assumption) ?_) | with_reducible refine below_only ?_ (by with_reducible assumption) ?_ ?_ | (simp; done) | (simp; omega) | omega)))⟩

set_option maxHeartbeats 4000000 in
set_option maxRecDepth 100000 in
theorem factorsR_any (p : PlV) (q : Pl) (v : UV) (u : Un) (w : World) (hU : Sl w v.a v.c (u.fs.map (.int .i64))) :
    Calls Try.prog 39 #[.agg #[.slice p.a1 q.ws.length p.c1, .slice p.a2 q.ls.length p.c2, .slice p.a3 q.ss.length p.c3, .int .i64 q.le, .int .i64 q.ra], .agg #[.int .i64 u.fm, .slice v.a u.fs.length v.c]] w fun e w' => e = .returned (.bool (factB q u)) ∧ Below w.heap.size w w' := by
  have Hv : Hid (factB q u = (decide (u.fs.length = q.ws.length) && !u.fs.any (outP 0 100))) := Lib.hid rfl
  generalize factB q u = res at *
  go_enter Try.func39, Try.ntmps39
  go_upto_region 1 with fail
  obtain ⟨wa, hwa⟩ : ∃ wa : World, wa = (w.alloc (.cells #[.slice p.a1 q.ws.length p.c1, .slice p.a2 q.ls.length p.c2, .slice p.a3 q.ss.length p.c3, .int .i64 q.le, .int .i64 q.ra] 24)).alloc (.cells #[.int .i64 u.fm, .slice v.a u.fs.length v.c] 27) := ⟨_, rfl⟩; rw [← hwa]; have Hr : Hid (wa.heap[w.heap.size]? = some (.cells #[.slice p.a1 q.ws.length p.c1, .slice p.a2 q.ls.length p.c2, .slice p.a3 q.ss.length p.c3, .int .i64 q.le, .int .i64 q.ra] 24 (0, 0))) := Lib.hid (by rw [hwa]; exact (Below.heap_alloc _ _ _ (by simp)).trans (heap_alloc_new w _)); have Hu : Hid (wa.heap[w.heap.size + 1]? = some (.cells #[.int .i64 u.fm, .slice v.a u.fs.length v.c] 27 (0, 0))) := Lib.hid (by rw [hwa]; have hzz := heap_alloc_new (w.alloc (.cells #[.slice p.a1 q.ws.length p.c1, .slice p.a2 q.ls.length p.c2, .slice p.a3 q.ss.length p.c3, .int .i64 q.le, .int .i64 q.ra] 24)) (.cells #[.int .i64 u.fm, .slice v.a u.fs.length v.c] 27); simpa using hzz); have Hba : Hid (Below w.heap.size w wa) := Lib.hid (by rw [hwa]; exact (by repeat' (first | with_reducible exact Below.refl _ _ | with_reducible refine below_drewN ?_ _ | with_reducible refine Below.drew ?_ | with_reducible refine Below.alloc ?_ ?_ _ | with_reducible refine Below.setCell ?_ ?_ _ | with_reducible refine Below.trans ?_ (Below.mono (by with_reducible assumption) ?_) | (simp; done) | (simp; omega) | omega))); have hl : w.heap.size < wa.heap.size := (by rw [hwa]; simp; omega); have hl1 : w.heap.size + 1 < wa.heap.size := (by rw [hwa]; simp); clear hwa
  have c0 := cell_of_row wa w.heap.size 0 _ _ _ Hr.out
  have c1 := cell_of_row wa (w.heap.size + 1) 1 _ _ _ Hu.out
  have HC := Lib.hid (all_any 0 100 v.a u.fs.length v.c u.fs wa (hU.below Hba.out) rfl)
  generalize u.fs.any (outP 0 100) = b at *
  obtain ⟨n, hn⟩ : ∃ n, u.fs.length = n := ⟨_, rfl⟩
  obtain ⟨m, hm⟩ : ∃ m, q.ws.length = m := ⟨_, rfl⟩
  rw [hn] at c1
  rw [hm] at c0
  rw [hn, hm] at Hv
  rw [hn] at HC
  clear hn hm hU
  by_cases h : n = m
  · subst h
    have Hres : Hid (res = !b) := Lib.hid (by rw [Hv.out]; simp)
    clear Hv
    go_wp2_with fail
    refine HC.out.mono ?_
    rintro e w2 ⟨rfl, rfl⟩
    go_wp2
    go_ret
    exact ⟨by rw [Hres.out]; first | rfl | simp, Hba.out⟩
  · have h' : ¬ (n : Int) = (m : Int) := by omega
    have Hres : Hid (res = false) := Lib.hid (by rw [Hv.out, decide_eq_false h]; rfl)
    clear Hv HC
    go_wp2
    go_ret
    exact ⟨by rw [Hres.out]; rfl, Hba.out⟩

set_option maxHeartbeats 4000000 in
set_option maxRecDepth 100000 in
theorem scoreS_any (p : PlV) (q : Pl) (v : UV) (u : Un) (w : World) (hA : PlAt w p q) (hU : Sl w v.a v.c (u.fs.map (.int .i64))) (hc : checkP q = 0) (hf : factB q u = true) :
    Calls Try.prog 38 #[.agg #[.slice p.a1 q.ws.length p.c1, .slice p.a2 q.ls.length p.c2, .slice p.a3 q.ss.length p.c3, .int .i64 q.le, .int .i64 q.ra], .agg #[.int .i64 u.fm, .slice v.a u.fs.length v.c]] w fun e w' => e = .returned (.int .i64 (dot q.ws u.fs)) ∧ Below w.heap.size w w' := by
  obtain ⟨⟨h1, h6⟩, hw, -⟩ := (planB_iff q).1 (checkP_zero hc)
  have hfl : u.fs.length = q.ws.length ∧ u.fs.any (outP 0 100) = false := by simpa [factB] using hf
  obtain ⟨hfl, hfo⟩ := hfl
  have HW := Lib.hid (any_out hw)
  have HF := Lib.hid (any_out hfo)
  have Hfl := Lib.hid hfl
  have Hd : Hid (∀ k, k ≤ q.ws.length → 0 ≤ dot (q.ws.take k) (u.fs.take k) ∧ dot (q.ws.take k) (u.fs.take k) ≤ 60000) := Lib.hid (fun k hk => by
    have := dot_bd (q.ws.take k) (u.fs.take k) (fun x hx => HW.out x (List.mem_of_mem_take hx)) (fun x hx => HF.out x (List.mem_of_mem_take hx))
    rw [List.length_take] at this
    have h2 : (min k q.ws.length : Nat) ≤ 6 := by omega
    refine ⟨this.1, Int.le_trans this.2 ?_⟩
    omega)
  have Hdn : Hid (dot (q.ws.take q.ws.length) (u.fs.take q.ws.length) = dot q.ws u.fs) := Lib.hid (by rw [List.take_length, List.take_of_length_le (by omega)])
  clear hw hfl hfo hf hc
  go_enter Try.func38, Try.ntmps38
  go_upto_region 1 with fail
  obtain ⟨wa, hwa⟩ : ∃ wa : World, wa = (w.alloc (.cells #[.slice p.a1 q.ws.length p.c1, .slice p.a2 q.ls.length p.c2, .slice p.a3 q.ss.length p.c3, .int .i64 q.le, .int .i64 q.ra] 24)).alloc (.cells #[.int .i64 u.fm, .slice v.a u.fs.length v.c] 27) := ⟨_, rfl⟩; rw [← hwa]; have Hr : Hid (wa.heap[w.heap.size]? = some (.cells #[.slice p.a1 q.ws.length p.c1, .slice p.a2 q.ls.length p.c2, .slice p.a3 q.ss.length p.c3, .int .i64 q.le, .int .i64 q.ra] 24 (0, 0))) := Lib.hid (by rw [hwa]; exact (Below.heap_alloc _ _ _ (by simp)).trans (heap_alloc_new w _)); have Hu : Hid (wa.heap[w.heap.size + 1]? = some (.cells #[.int .i64 u.fm, .slice v.a u.fs.length v.c] 27 (0, 0))) := Lib.hid (by rw [hwa]; have hzz := heap_alloc_new (w.alloc (.cells #[.slice p.a1 q.ws.length p.c1, .slice p.a2 q.ls.length p.c2, .slice p.a3 q.ss.length p.c3, .int .i64 q.le, .int .i64 q.ra] 24)) (.cells #[.int .i64 u.fm, .slice v.a u.fs.length v.c] 27); simpa using hzz); have Hba : Hid (Below w.heap.size w wa) := Lib.hid (by rw [hwa]; exact (by repeat' (first | with_reducible exact Below.refl _ _ | with_reducible refine below_drewN ?_ _ | with_reducible refine Below.drew ?_ | with_reducible refine Below.alloc ?_ ?_ _ | with_reducible refine Below.setCell ?_ ?_ _ | with_reducible refine Below.trans ?_ (Below.mono (by with_reducible assumption) ?_) | (simp; done) | (simp; omega) | omega))); have hl : w.heap.size < wa.heap.size := (by rw [hwa]; simp; omega); have hl1 : w.heap.size + 1 < wa.heap.size := (by rw [hwa]; simp); clear hwa
  have HA := Lib.hid (hA.s1.below Hba.out)
  have HU := Lib.hid (hU.below Hba.out)
  clear hA hU
  have c0 := cell_of_row wa w.heap.size 0 _ _ _ Hr.out
  have c1 := cell_of_row wa (w.heap.size + 1) 1 _ _ _ Hu.out
  obtain ⟨n, hn⟩ : ∃ n, q.ws.length = n := ⟨_, rfl⟩
  have Hn := Lib.hid hn
  have Hm : Hid (u.fs.length = n) := Lib.hid (by have := Hfl.out; omega)
  rw [hn] at c0 Hd Hdn h1 h6
  rw [Hm.out] at c1
  clear hn Hfl
  generalize p.a1 = A1 at c0 HA Hr ⊢
  generalize v.a = A2 at c1 HU Hu ⊢
  go_upto_region 2 with fail
  go_wp2_with fail
  go_loop [5, 6, 7, 11] (fun s _ _ i => ∃ k : Nat, k ≤ n ∧ i = .int .i64 (k : Int) ∧ s = .int .i64 (dot (q.ws.take k) (u.fs.take k))) (fun _ _ _ i => n - (intOf i).toNat)
  case atStart => exact ⟨0, Nat.zero_le _, rfl, rfl⟩
  case round =>
    obtain ⟨k, hk, rfl, rfl⟩ := hrel
    by_cases hkn : k < n
    · have hkn' : (k : Int) < (n : Int) := by omega
      have hkw : k < q.ws.length := by have := Hn.out; omega
      have hkf : k < u.fs.length := by have := Hm.out; omega
      obtain ⟨b, off, rfl, hb, ck⟩ := HA.out.at k hkw
      obtain ⟨b', off', rfl, hb', cu⟩ := HU.out.at k hkf
      have Hs := Lib.hid (dot_take q.ws u.fs k hkw hkf)
      have Hd0 := Hd.out k (by omega)
      have Hd1 := Hd.out (k + 1) (by omega)
      have Hx := HW.out q.ws[k] (List.getElem_mem _)
      have Hy := HF.out (u.fs[k]'hkf) (List.getElem_mem _)
      rw [Hs.out] at Hd1
      generalize dot (q.ws.take k) (u.fs.take k) = s at *
      generalize u.fs[k]'hkf = y at *
      generalize q.ws[k]'hkw = x at *
      have hm0 : 0 ≤ x * y := Int.mul_nonneg Hx.1 Hy.1
      have Hw1 : Hid (wrap64 (x * y) = x * y) := Lib.hid (IntWalk.wrap64_in _ (by omega))
      have Hw2 : Hid (wrap64 (s + x * y) = s + x * y) := Lib.hid (IntWalk.wrap64_in _ (by omega))
      clear hkw hkf
      go_wp2
      go_round
      case rel => exact ⟨k + 1, by omega, by go_num, by rw [Hs.out]⟩
      case measure => simp [intOf]; omega
    · obtain rfl : k = n := by omega
      have hkn' : ¬ (k : Int) < (k : Int) := by omega
      rw [Hdn.out]
      go_wp2
      go_ret
      exact ⟨rfl, Hba.out⟩

theorem stratP_ok {q : Pl} (h : checkP q = 0) (x : Int) : stratP q x = ((q.ls.countP fun y => decide (y ≤ x) : Nat) : Int) := by
  unfold stratP; rw [h]; simp
theorem countP_take {l : List Int} {k : Nat} (h : k < l.length) (x : Int) : (l.take (k + 1)).countP (fun y => decide (y ≤ x)) = (l.take k).countP (fun y => decide (y ≤ x)) + if l[k] ≤ x then 1 else 0 := by
  rw [List.take_succ_eq_append_getElem h, List.countP_append, List.countP_singleton]
  simp

set_option maxHeartbeats 4000000 in
set_option maxRecDepth 100000 in
theorem stratS_any (p : PlV) (q : Pl) (x : Int) (w : World) (hA : PlAt w p q) :
    Calls Try.prog 18 #[.agg #[.slice p.a1 q.ws.length p.c1, .slice p.a2 q.ls.length p.c2, .slice p.a3 q.ss.length p.c3, .int .i64 q.le, .int .i64 q.ra], .int .i64 x] w fun e w' => e = .returned (.int .i64 (stratP q x)) ∧ Below w.heap.size w w' := by
  have Hv : Hid (stratP q x = if checkP q ≠ 0 then 0 else ((q.ls.countP fun y => decide (y ≤ x) : Nat) : Int)) := Lib.hid rfl
  generalize stratP q x = res at *
  go_enter Try.func18, Try.ntmps18
  go_upto_region 1 with fail
  obtain ⟨wa, hwa⟩ : ∃ wa : World, wa = w.alloc (.cells #[.slice p.a1 q.ws.length p.c1, .slice p.a2 q.ls.length p.c2, .slice p.a3 q.ss.length p.c3, .int .i64 q.le, .int .i64 q.ra] 24) := ⟨_, rfl⟩; rw [← hwa]; have Hr : Hid (wa.heap[w.heap.size]? = some (.cells #[.slice p.a1 q.ws.length p.c1, .slice p.a2 q.ls.length p.c2, .slice p.a3 q.ss.length p.c3, .int .i64 q.le, .int .i64 q.ra] 24 (0, 0))) := Lib.hid (by rw [hwa]; exact heap_alloc_new w _); have Hba : Hid (Below w.heap.size w wa) := Lib.hid (by rw [hwa]; exact (by repeat' (first | with_reducible exact Below.refl _ _ | with_reducible refine below_drewN ?_ _ | with_reducible refine Below.drew ?_ | with_reducible refine Below.alloc ?_ ?_ _ | with_reducible refine Below.setCell ?_ ?_ _ | with_reducible refine Below.trans ?_ (Below.mono (by with_reducible assumption) ?_) | (simp; done) | (simp; omega) | omega))); have hl : w.heap.size < wa.heap.size := (by rw [hwa]; simp); clear hwa
  have HA := Lib.hid (hA.below Hba.out)
  clear hA
  have p0 := cell_of_row wa w.heap.size 0 _ _ _ (((Below.refl wa.heap.size wa).block _ hl).trans Hr.out); have p1 := cell_of_row wa w.heap.size 1 _ _ _ (((Below.refl wa.heap.size wa).block _ hl).trans Hr.out); have p2 := cell_of_row wa w.heap.size 2 _ _ _ (((Below.refl wa.heap.size wa).block _ hl).trans Hr.out); have p3 := cell_of_row wa w.heap.size 3 _ _ _ (((Below.refl wa.heap.size wa).block _ hl).trans Hr.out); have p4 := cell_of_row wa w.heap.size 4 _ _ _ (((Below.refl wa.heap.size wa).block _ hl).trans Hr.out)
  have HC := Lib.hid (checkS_any p q wa HA.out)
  generalize checkP q = cq at *
  go_wp2_with fail
  refine HC.out.mono ?_
  rintro e w1 ⟨rfl, hb1⟩
  have Hb1 := Lib.hid hb1
  clear p0 p1 p2 p3 p4
  have p0 := cell_of_row w1 w.heap.size 0 _ _ _ ((hb1.block _ hl).trans Hr.out); have p1 := cell_of_row w1 w.heap.size 1 _ _ _ ((hb1.block _ hl).trans Hr.out); have p2 := cell_of_row w1 w.heap.size 2 _ _ _ ((hb1.block _ hl).trans Hr.out); have p3 := cell_of_row w1 w.heap.size 3 _ _ _ ((hb1.block _ hl).trans Hr.out); have p4 := cell_of_row w1 w.heap.size 4 _ _ _ ((hb1.block _ hl).trans Hr.out)
  clear p0 p2 p3 p4 HC
  by_cases hc : cq = 0
  · subst hc
    obtain ⟨n, hn⟩ : ∃ n, q.ls.length = n := ⟨_, rfl⟩
    have Hn := Lib.hid hn
    rw [hn] at p1
    have HL := Lib.hid (HA.out.s2.below hb1)
    clear hn
    generalize p.a2 = A2 at p1 HL Hr ⊢
    go_upto_region 3 with fail
    go_wp2_with fail
    go_loop [5, 7, 14] (fun s _ i => ∃ k : Nat, k ≤ n ∧ i = .int .i64 (k : Int) ∧ ∃ c : Nat, c ≤ k ∧ s = .int .i64 (c : Int) ∧ Hid ((q.ls.take k).countP (fun y => decide (y ≤ x)) = c)) (fun _ _ i => n - (intOf i).toNat)
    case atStart => exact ⟨0, Nat.zero_le _, rfl, 0, Nat.zero_le _, rfl, Lib.hid rfl⟩
    case round =>
      obtain ⟨k, hk, rfl, c, hck, rfl, Hc⟩ := hrel
      have hn6 : n ≤ 9223372036854775807 := by
        have := Nat.le_trans HL.out.cap HL.out.top
        rw [List.length_map] at this
        unfold maxLen at this
        have := Hn.out
        omega
      by_cases hkn : k < n
      · have hkn' : (k : Int) < (n : Int) := by omega
        have hkl : k < q.ls.length := by have := Hn.out; omega
        obtain ⟨b, off, rfl, hb, ck⟩ := HL.out.at k hkl
        have Hs := Lib.hid (countP_take hkl x)
        generalize q.ls[k] = y at *
        by_cases hy : y ≤ x
        · have Hs1 : Hid ((q.ls.take (k + 1)).countP (fun y => decide (y ≤ x)) = c + 1) := Lib.hid (by rw [Hs.out, Hc.out, if_pos hy])
          clear Hs
          go_wp2
          go_round
          case rel => exact ⟨k + 1, by omega, by go_num, c + 1, by omega, by go_num, Hs1⟩
          case measure => simp [intOf]; omega
        · have Hs1 : Hid ((q.ls.take (k + 1)).countP (fun y => decide (y ≤ x)) = c) := Lib.hid (by rw [Hs.out, Hc.out, if_neg hy]; rfl)
          clear Hs
          go_wp2
          go_round
          case rel => exact ⟨k + 1, by omega, by go_num, c, by omega, rfl, Hs1⟩
          case measure => simp [intOf]; omega
      · have hkn' : ¬ (k : Int) < (n : Int) := by omega
        have Hres : Hid (res = (c : Int)) := Lib.hid (by rw [Hv.out, if_neg (by simp)]; have := Hc.out; rw [List.take_of_length_le (by have := Hn.out; omega)] at this; rw [this])
        go_wp2
        go_ret
        exact ⟨by rw [Hres.out]; rfl, (have hba := Hba.out.trans (Hb1.out.mono (Nat.le_of_lt hl)); (by repeat' (first | with_reducible exact Below.refl _ _ | with_reducible assumption | with_reducible refine below_drewN ?_ _ | with_reducible refine Below.drew ?_ | with_reducible refine Below.alloc ?_ ?_ _ | with_reducible refine Below.setCell ?_ ?_ _ | with_reducible refine Below.trans ?_ (Below.mono (by with_reducible assumption) ?_) | with_reducible refine below_only ?_ (by with_reducible assumption) ?_ ?_ | (simp; done) | (simp; omega) | omega)))⟩
  · have Hres : Hid (res = 0) := Lib.hid (by rw [Hv.out, if_pos hc])
    go_wp2
    go_ret
    exact ⟨by rw [Hres.out]; rfl, (have hba := Hba.out.trans (Hb1.out.mono (Nat.le_of_lt hl)); (by repeat' (first | with_reducible exact Below.refl _ _ | with_reducible assumption | with_reducible refine below_drewN ?_ _ | with_reducible refine Below.drew ?_ | with_reducible refine Below.alloc ?_ ?_ _ | with_reducible refine Below.setCell ?_ ?_ _ | with_reducible refine Below.trans ?_ (Below.mono (by with_reducible assumption) ?_) | with_reducible refine below_only ?_ (by with_reducible assumption) ?_ ?_ | (simp; done) | (simp; omega) | omega)))⟩

set_option maxHeartbeats 4000000 in
set_option maxRecDepth 100000 in
theorem stratR_any (p : PlV) (q : Pl) (x : Int) (w : World) (hA : PlAt w p q) :
    Calls Try.prog 19 #[.agg #[.slice p.a1 q.ws.length p.c1, .slice p.a2 q.ls.length p.c2, .slice p.a3 q.ss.length p.c3, .int .i64 q.le, .int .i64 q.ra], .int .i64 x] w fun e w' => e = .returned (.int .i64 (stratP q x)) ∧ Below w.heap.size w w' := by
  have Hv : Hid (stratP q x = if checkP q ≠ 0 then 0 else ((q.ls.countP fun y => decide (y ≤ x) : Nat) : Int)) := Lib.hid rfl
  generalize stratP q x = res at *
  go_enter Try.func19, Try.ntmps19
  go_upto_region 1 with fail
  obtain ⟨wa, hwa⟩ : ∃ wa : World, wa = w.alloc (.cells #[.slice p.a1 q.ws.length p.c1, .slice p.a2 q.ls.length p.c2, .slice p.a3 q.ss.length p.c3, .int .i64 q.le, .int .i64 q.ra] 24) := ⟨_, rfl⟩; rw [← hwa]; have Hr : Hid (wa.heap[w.heap.size]? = some (.cells #[.slice p.a1 q.ws.length p.c1, .slice p.a2 q.ls.length p.c2, .slice p.a3 q.ss.length p.c3, .int .i64 q.le, .int .i64 q.ra] 24 (0, 0))) := Lib.hid (by rw [hwa]; exact heap_alloc_new w _); have Hba : Hid (Below w.heap.size w wa) := Lib.hid (by rw [hwa]; exact (by repeat' (first | with_reducible exact Below.refl _ _ | with_reducible refine below_drewN ?_ _ | with_reducible refine Below.drew ?_ | with_reducible refine Below.alloc ?_ ?_ _ | with_reducible refine Below.setCell ?_ ?_ _ | with_reducible refine Below.trans ?_ (Below.mono (by with_reducible assumption) ?_) | (simp; done) | (simp; omega) | omega))); have hl : w.heap.size < wa.heap.size := (by rw [hwa]; simp); clear hwa
  have HA := Lib.hid (hA.below Hba.out)
  clear hA
  have p0 := cell_of_row wa w.heap.size 0 _ _ _ (((Below.refl wa.heap.size wa).block _ hl).trans Hr.out); have p1 := cell_of_row wa w.heap.size 1 _ _ _ (((Below.refl wa.heap.size wa).block _ hl).trans Hr.out); have p2 := cell_of_row wa w.heap.size 2 _ _ _ (((Below.refl wa.heap.size wa).block _ hl).trans Hr.out); have p3 := cell_of_row wa w.heap.size 3 _ _ _ (((Below.refl wa.heap.size wa).block _ hl).trans Hr.out); have p4 := cell_of_row wa w.heap.size 4 _ _ _ (((Below.refl wa.heap.size wa).block _ hl).trans Hr.out)
  have HC := Lib.hid (checkR_any p q wa HA.out)
  generalize checkP q = cq at *
  go_wp2_with fail
  refine HC.out.mono ?_
  rintro e w1 ⟨rfl, hb1⟩
  have Hb1 := Lib.hid hb1
  clear p0 p1 p2 p3 p4
  have p0 := cell_of_row w1 w.heap.size 0 _ _ _ ((hb1.block _ hl).trans Hr.out); have p1 := cell_of_row w1 w.heap.size 1 _ _ _ ((hb1.block _ hl).trans Hr.out); have p2 := cell_of_row w1 w.heap.size 2 _ _ _ ((hb1.block _ hl).trans Hr.out); have p3 := cell_of_row w1 w.heap.size 3 _ _ _ ((hb1.block _ hl).trans Hr.out); have p4 := cell_of_row w1 w.heap.size 4 _ _ _ ((hb1.block _ hl).trans Hr.out)
  clear p0 p2 p3 p4 HC
  by_cases hc : cq = 0
  · subst hc
    obtain ⟨n, hn⟩ : ∃ n, q.ls.length = n := ⟨_, rfl⟩
    have Hn := Lib.hid hn
    rw [hn] at p1
    have HL := Lib.hid (HA.out.s2.below hb1)
    clear hn
    generalize p.a2 = A2 at p1 HL Hr ⊢
    go_upto_region 3 with fail
    go_wp2_with fail
    go_loop [5, 6] (fun s i => ∃ k : Nat, k ≤ n ∧ i = .int .i64 (k : Int) ∧ ∃ c : Nat, c ≤ k ∧ s = .int .i64 (c : Int) ∧ Hid ((q.ls.take k).countP (fun y => decide (y ≤ x)) = c)) (fun _ i => n - (intOf i).toNat)
    case atStart => exact ⟨0, Nat.zero_le _, rfl, 0, Nat.zero_le _, rfl, Lib.hid rfl⟩
    case round =>
      obtain ⟨k, hk, rfl, c, hck, rfl, Hc⟩ := hrel
      have hn6 : n ≤ 9223372036854775807 := by
        have := Nat.le_trans HL.out.cap HL.out.top
        rw [List.length_map] at this
        unfold maxLen at this
        have := Hn.out
        omega
      by_cases hkn : k < n
      · have hkn' : (k : Int) < (n : Int) := by omega
        have hkl : k < q.ls.length := by have := Hn.out; omega
        obtain ⟨b, off, rfl, hb, ck⟩ := HL.out.at k hkl
        have Hs := Lib.hid (countP_take hkl x)
        generalize q.ls[k] = y at *
        by_cases hy : y ≤ x
        · have Hs1 : Hid ((q.ls.take (k + 1)).countP (fun y => decide (y ≤ x)) = c + 1) := Lib.hid (by rw [Hs.out, Hc.out, if_pos hy])
          clear Hs
          go_wp2
          go_round
          case rel => exact ⟨k + 1, by omega, by go_num, c + 1, by omega, by go_num, Hs1⟩
          case measure => simp [intOf]; omega
        · have Hs1 : Hid ((q.ls.take (k + 1)).countP (fun y => decide (y ≤ x)) = c) := Lib.hid (by rw [Hs.out, Hc.out, if_neg hy]; rfl)
          clear Hs
          go_wp2
          go_round
          case rel => exact ⟨k + 1, by omega, by go_num, c, by omega, rfl, Hs1⟩
          case measure => simp [intOf]; omega
      · have hkn' : ¬ (k : Int) < (n : Int) := by omega
        have Hres : Hid (res = (c : Int)) := Lib.hid (by rw [Hv.out, if_neg (by simp)]; have := Hc.out; rw [List.take_of_length_le (by have := Hn.out; omega)] at this; rw [this])
        go_wp2
        go_ret
        exact ⟨by rw [Hres.out]; rfl, (have hba := Hba.out.trans (Hb1.out.mono (Nat.le_of_lt hl)); (by repeat' (first | with_reducible exact Below.refl _ _ | with_reducible assumption | with_reducible refine below_drewN ?_ _ | with_reducible refine Below.drew ?_ | with_reducible refine Below.alloc ?_ ?_ _ | with_reducible refine Below.setCell ?_ ?_ _ | with_reducible refine Below.trans ?_ (Below.mono (by with_reducible assumption) ?_) | with_reducible refine below_only ?_ (by with_reducible assumption) ?_ ?_ | (simp; done) | (simp; omega) | omega)))⟩
  · have Hres : Hid (res = 0) := Lib.hid (by rw [Hv.out, if_pos hc])
    go_wp2
    go_ret
    exact ⟨by rw [Hres.out]; rfl, (have hba := Hba.out.trans (Hb1.out.mono (Nat.le_of_lt hl)); (by repeat' (first | with_reducible exact Below.refl _ _ | with_reducible assumption | with_reducible refine below_drewN ?_ _ | with_reducible refine Below.drew ?_ | with_reducible refine Below.alloc ?_ ?_ _ | with_reducible refine Below.setCell ?_ ?_ _ | with_reducible refine Below.trans ?_ (Below.mono (by with_reducible assumption) ?_) | with_reducible refine below_only ?_ (by with_reducible assumption) ?_ ?_ | (simp; done) | (simp; omega) | omega)))⟩
end Go.Proofs.Ytjmbdfoegnfpnaa
