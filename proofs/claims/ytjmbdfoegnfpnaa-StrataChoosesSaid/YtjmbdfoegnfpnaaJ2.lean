/- Contract: whether a plan is right (strata.Check). -/
import Derived.Test.YtjmbdfoegnfpnaaJ0
namespace Go.Proofs.Ytjmbdfoegnfpnaa
open Go.RowKit
set_option linter.unusedVariables false
set_option linter.unusedSimpArgs false

set_option maxHeartbeats 4000000 in
set_option maxRecDepth 100000 in
theorem checkS_any (p : PlV) (q : Pl) (w : World) (hA : PlAt w p q) :
    Calls Try.prog 16 #[.agg #[.slice p.a1 q.ws.length p.c1, .slice p.a2 q.ls.length p.c2, .slice p.a3 q.ss.length p.c3, .int .i64 q.le, .int .i64 q.ra]] w fun e w' => e = .returned (.int .i64 (checkP q)) ∧ Below w.heap.size w w' := by
  have Hv : Hid (checkP q = if planB q then 0 else 64) := Lib.hid rfl
  generalize checkP q = res at *
  go_enter Try.func16, Try.ntmps16
  go_upto_region 1 with fail
  obtain ⟨wa, hwa⟩ : ∃ wa : World, wa = w.alloc (.cells #[.slice p.a1 q.ws.length p.c1, .slice p.a2 q.ls.length p.c2, .slice p.a3 q.ss.length p.c3, .int .i64 q.le, .int .i64 q.ra] 24) := ⟨_, rfl⟩
  rw [← hwa]
  have Hr : Hid (wa.heap[w.heap.size]? = some (.cells #[.slice p.a1 q.ws.length p.c1, .slice p.a2 q.ls.length p.c2, .slice p.a3 q.ss.length p.c3, .int .i64 q.le, .int .i64 q.ra] 24 (0, 0))) := Lib.hid (by rw [hwa]; exact heap_alloc_new w _)
  have Hba : Hid (Below w.heap.size w wa) := Lib.hid (by rw [hwa]; exact (by repeat' (first | with_reducible exact Below.refl _ _ | with_reducible refine below_drewN ?_ _ | with_reducible refine Below.drew ?_ | with_reducible refine Below.alloc ?_ ?_ _ | with_reducible refine Below.setCell ?_ ?_ _ | with_reducible refine Below.trans ?_ (Below.mono (by with_reducible assumption) ?_) | (simp; done) | (simp; omega) | omega)))
  have hl : w.heap.size < wa.heap.size := by rw [hwa]; simp
  have HA := Lib.hid (hA.below Hba.out)
  have c0 := cell_of_row wa w.heap.size 0 _ _ _ Hr.out
  have c1 := cell_of_row wa w.heap.size 1 _ _ _ Hr.out
  have c2 := cell_of_row wa w.heap.size 2 _ _ _ Hr.out
  have c3 := cell_of_row wa w.heap.size 3 _ _ _ Hr.out
  have c4 := cell_of_row wa w.heap.size 4 _ _ _ Hr.out
  clear hwa hA
  by_cases h1 : q.ws.length < 1
  · have h1' : (q.ws.length : Int) < 1 := by omega
    have h1d : decide ((q.ws.length : Int) < 1) = true := decide_eq_true h1'
    have Hres : Hid (res = 64) := Lib.hid (by rw [Hv.out]; unfold planB; simp [show ¬ 1 ≤ q.ws.length by omega])
    go_quiet (fail)
    go_wp2
    go_ret
    exact ⟨by rw [Hres.out]; rfl, (have hba := Hba.out; (by repeat' (first | with_reducible exact Below.refl _ _ | with_reducible assumption | with_reducible refine below_drewN ?_ _ | with_reducible refine Below.drew ?_ | with_reducible refine Below.alloc ?_ ?_ _ | with_reducible refine Below.setCell ?_ ?_ _ | with_reducible refine Below.trans ?_ (Below.mono (by with_reducible assumption) ?_) | with_reducible refine below_only ?_ (by with_reducible assumption) ?_ ?_ | (simp; done) | (simp; omega) | omega)))⟩
  by_cases h2 : 6 < q.ws.length
  · have h1' : ¬ (q.ws.length : Int) < 1 := by omega
    have h1d : decide ((q.ws.length : Int) < 1) = false := decide_eq_false h1'
    have h2' : (6 : Int) < (q.ws.length : Int) := by omega
    have h2d : decide ((6 : Int) < (q.ws.length : Int)) = true := decide_eq_true h2'
    have Hres : Hid (res = 64) := Lib.hid (by rw [Hv.out]; unfold planB; simp [show ¬ q.ws.length ≤ 6 by omega])
    go_quiet (fail)
    go_wp2
    go_ret
    exact ⟨by rw [Hres.out]; rfl, (have hba := Hba.out; (by repeat' (first | with_reducible exact Below.refl _ _ | with_reducible assumption | with_reducible refine below_drewN ?_ _ | with_reducible refine Below.drew ?_ | with_reducible refine Below.alloc ?_ ?_ _ | with_reducible refine Below.setCell ?_ ?_ _ | with_reducible refine Below.trans ?_ (Below.mono (by with_reducible assumption) ?_) | with_reducible refine below_only ?_ (by with_reducible assumption) ?_ ?_ | (simp; done) | (simp; omega) | omega)))⟩
  have h1' : ¬ (q.ws.length : Int) < 1 := by omega
  have h1d : decide ((q.ws.length : Int) < 1) = false := decide_eq_false h1'
  have h2' : ¬ (6 : Int) < (q.ws.length : Int) := by omega
  have h2d : decide ((6 : Int) < (q.ws.length : Int)) = false := decide_eq_false h2'
  have Hv1 : Hid (res = if planB q then 0 else 64) := Lib.hid Hv.out
  have HC := Lib.hid (fun b0 b1 W (hW : Below wa.heap.size wa W) (hL : Lim W b0 b1 0 100) => containsOut_any 0 100 b0 b1 p.a1 q.ws.length p.c1 q.ws W hL (HA.out.s1.below hW) rfl)
  have Hn3 : Hid (q.ws.any (outP 0 100) = true → res = 64) := Lib.hid (fun h => by rw [Hv.out]; unfold planB; simp [h])
  obtain ⟨b3, hb3⟩ : ∃ b3, q.ws.any (outP 0 100) = b3 := ⟨_, rfl⟩
  rw [hb3] at HC Hn3
  have Hb3 := Lib.hid hb3
  clear hb3
  go_region_held3 (fun w' => w'.cell? ⟨w.heap.size, 0, none⟩ = some (.slice p.a1 q.ws.length p.c1))
    (first | go_keep)
    (first
      | (go_at_call 34
         refine (outside_any 0 100 _).mono ?_
         rintro e w1 ⟨rfl, hw1⟩
         have HL1 : Hid (Lim w1 wa.heap.size (wa.heap.size + 1) 0 100) := Lib.hid (by rw [hw1]; exact Lim.new _ 0 100)
         have Hb1 : Hid (Below wa.heap.size wa w1) := Lib.hid (by rw [hw1]; exact (by repeat' (first | with_reducible exact Below.refl _ _ | with_reducible assumption | with_reducible refine below_drewN ?_ _ | with_reducible refine Below.drew ?_ | with_reducible refine Below.alloc ?_ ?_ _ | with_reducible refine Below.setCell ?_ ?_ _ | with_reducible refine Below.trans ?_ (Below.mono (by with_reducible assumption) ?_) | with_reducible refine below_only ?_ (by with_reducible assumption) ?_ ?_ | (simp; done) | (simp; omega) | omega)))
         have d0 := (Hb1.out.cell (p := ⟨w.heap.size, 0, none⟩) hl).trans c0
         clear hw1)
      | (go_at_call 33
         refine (HC.out _ _ _ Hb1.out HL1.out).mono ?_
         rintro e w2 ⟨rfl, rfl⟩)
      | fail)
  -- REST
  cases b3 with
  | true =>
    have Hres := Lib.hid (Hn3.out rfl)
    go_wp2
    go_ret
    exact ⟨by rw [Hres.out]; rfl, (have hba := Hba.out.trans (Hb1.out.mono (Nat.le_of_lt hl)); (by repeat' (first | with_reducible exact Below.refl _ _ | with_reducible assumption | with_reducible refine below_drewN ?_ _ | with_reducible refine Below.drew ?_ | with_reducible refine Below.alloc ?_ ?_ _ | with_reducible refine Below.setCell ?_ ?_ _ | with_reducible refine Below.trans ?_ (Below.mono (by with_reducible assumption) ?_) | with_reducible refine below_only ?_ (by with_reducible assumption) ?_ ?_ | (simp; done) | (simp; omega) | omega)))⟩
  | false =>
    clear HC Hn3 Hv1
    go_upto_region 3 with fail
    have e1 := cell_of_row w2 w.heap.size 1 _ _ _ ((Hb1.out.block _ hl).trans Hr.out)
    have e2 := cell_of_row w2 w.heap.size 2 _ _ _ ((Hb1.out.block _ hl).trans Hr.out)
    have hl2 : w.heap.size < w2.heap.size := Nat.lt_of_lt_of_le hl Hb1.out.size
    clear c0 c1 c2 c3 c4 d0 h1d h2d h1' h2'
    by_cases h3 : 5 < q.ls.length
    · have h3' : (5 : Int) < (q.ls.length : Int) := by omega
      have h3d : decide ((5 : Int) < (q.ls.length : Int)) = true := decide_eq_true h3'
      have Hres : Hid (res = 64) := Lib.hid (by rw [Hv.out]; unfold planB; simp [show ¬ q.ls.length ≤ 5 by omega])
      go_quiet (fail)
      go_wp2
      go_ret
      exact ⟨by rw [Hres.out]; rfl, (have hba := Hba.out.trans (Hb1.out.mono (Nat.le_of_lt hl)); (by repeat' (first | with_reducible exact Below.refl _ _ | with_reducible assumption | with_reducible refine below_drewN ?_ _ | with_reducible refine Below.drew ?_ | with_reducible refine Below.alloc ?_ ?_ _ | with_reducible refine Below.setCell ?_ ?_ _ | with_reducible refine Below.trans ?_ (Below.mono (by with_reducible assumption) ?_) | with_reducible refine below_only ?_ (by with_reducible assumption) ?_ ?_ | (simp; done) | (simp; omega) | omega)))⟩
    have h3' : ¬ (5 : Int) < (q.ls.length : Int) := by omega
    have h3d : decide ((5 : Int) < (q.ls.length : Int)) = false := decide_eq_false h3'
    have HC := Lib.hid (fun b0 b1 W (hW : Below wa.heap.size wa W) (hL : Lim W b0 b1 1 60000) => containsOut_any 1 60000 b0 b1 p.a2 q.ls.length p.c2 q.ls W hL (HA.out.s2.below hW) rfl)
    have Hn4 : Hid (q.ls.any (outP 1 60000) = true → res = 64) := Lib.hid (fun h => by rw [Hv.out]; unfold planB; simp [h])
    obtain ⟨b4, hb4⟩ : ∃ b4, q.ls.any (outP 1 60000) = b4 := ⟨_, rfl⟩
    rw [hb4] at HC Hn4
    have Hb4 := Lib.hid hb4
    clear hb4
    go_region_held3 (fun w' => w'.cell? ⟨w.heap.size, 1, none⟩ = some (.slice p.a2 q.ls.length p.c2))
      (first | go_keep)
      (first
        | (go_at_call 34
           refine (outside_any 1 60000 _).mono ?_
           rintro e w3 ⟨rfl, hw3⟩
           have HL3 : Hid (Lim w3 w2.heap.size (w2.heap.size + 1) 1 60000) := Lib.hid (by rw [hw3]; exact Lim.new _ 1 60000)
           have Hb23 : Hid (Below w2.heap.size w2 w3) := Lib.hid (by rw [hw3]; exact (by repeat' (first | with_reducible exact Below.refl _ _ | with_reducible assumption | with_reducible refine below_drewN ?_ _ | with_reducible refine Below.drew ?_ | with_reducible refine Below.alloc ?_ ?_ _ | with_reducible refine Below.setCell ?_ ?_ _ | with_reducible refine Below.trans ?_ (Below.mono (by with_reducible assumption) ?_) | with_reducible refine below_only ?_ (by with_reducible assumption) ?_ ?_ | (simp; done) | (simp; omega) | omega)))
           have Hb3x : Hid (Below wa.heap.size wa w3) := Lib.hid (Hb1.out.trans (Hb23.out.mono Hb1.out.size))
           have d1 := (Hb23.out.cell (p := ⟨w.heap.size, 1, none⟩) hl2).trans e1
           clear hw3)
        | (go_at_call 33
           refine (HC.out _ _ _ Hb3x.out HL3.out).mono ?_
           rintro e w4 ⟨rfl, rfl⟩)
        | fail)
    cases b4 with
    | true =>
      have Hres := Lib.hid (Hn4.out rfl)
      go_wp2
      go_ret
      exact ⟨by rw [Hres.out]; rfl, (have hba := Hba.out.trans (Hb3x.out.mono (Nat.le_of_lt hl)); (by repeat' (first | with_reducible exact Below.refl _ _ | with_reducible assumption | with_reducible refine below_drewN ?_ _ | with_reducible refine Below.drew ?_ | with_reducible refine Below.alloc ?_ ?_ _ | with_reducible refine Below.setCell ?_ ?_ _ | with_reducible refine Below.trans ?_ (Below.mono (by with_reducible assumption) ?_) | with_reducible refine below_only ?_ (by with_reducible assumption) ?_ ?_ | (simp; done) | (simp; omega) | omega)))⟩
    | false =>
      clear HC Hn4 e1 e2 d1 h3d h3' HL1
      go_upto_region 5 with fail
      have e1 := cell_of_row w4 w.heap.size 1 _ _ _ ((Hb3x.out.block _ hl).trans Hr.out)
      have e2 := cell_of_row w4 w.heap.size 2 _ _ _ ((Hb3x.out.block _ hl).trans Hr.out)
      have hl4 : w.heap.size < w4.heap.size := Nat.lt_of_lt_of_le hl Hb3x.out.size
      have hwl : IntKind.i64.wrap ((q.ls.length : Int) + 1) = (q.ls.length : Int) + 1 := IntWalk.i64_in _ (by omega)
      by_cases h5n : ¬ (q.ss.length : Int) = (q.ls.length : Int) + 1
      · have Hres : Hid (res = 64) := Lib.hid (by rw [Hv.out]; unfold planB; simp [show ¬ q.ss.length = q.ls.length + 1 by omega])
        go_quiet (fail)
        go_wp2
        go_ret
        exact ⟨by rw [Hres.out]; rfl, (have hba := Hba.out.trans (Hb3x.out.mono (Nat.le_of_lt hl)); (by repeat' (first | with_reducible exact Below.refl _ _ | with_reducible assumption | with_reducible refine below_drewN ?_ _ | with_reducible refine Below.drew ?_ | with_reducible refine Below.alloc ?_ ?_ _ | with_reducible refine Below.setCell ?_ ?_ _ | with_reducible refine Below.trans ?_ (Below.mono (by with_reducible assumption) ?_) | with_reducible refine below_only ?_ (by with_reducible assumption) ?_ ?_ | (simp; done) | (simp; omega) | omega)))⟩
      have h5 := Decidable.not_not.1 h5n
      have H5 := Lib.hid h5
      clear h5n
      have HC := Lib.hid (fun b0 b1 W (hW : Below wa.heap.size wa W) (hL : Lim W b0 b1 0 1000) => containsOut_any 0 1000 b0 b1 p.a3 q.ss.length p.c3 q.ss W hL (HA.out.s3.below hW) rfl)
      have Hn6 : Hid (q.ss.any (outP 0 1000) = true → res = 64) := Lib.hid (fun h => by rw [Hv.out]; unfold planB; simp [h])
      obtain ⟨b6, hb6⟩ : ∃ b6, q.ss.any (outP 0 1000) = b6 := ⟨_, rfl⟩
      rw [hb6] at HC Hn6
      have Hb6 := Lib.hid hb6
      clear hb6
      go_region_held3 (fun w' => w'.cell? ⟨w.heap.size, 1, none⟩ = some (.slice p.a2 q.ls.length p.c2) ∧ w'.cell? ⟨w.heap.size, 2, none⟩ = some (.slice p.a3 q.ss.length p.c3))
        (first | go_keep | ((repeat' apply And.intro) <;> go_keep))
        (first
          | (go_at_call 34
             refine (outside_any 0 1000 _).mono ?_
             rintro e w5 ⟨rfl, hw5⟩
             have HL5 : Hid (Lim w5 w4.heap.size (w4.heap.size + 1) 0 1000) := Lib.hid (by rw [hw5]; exact Lim.new _ 0 1000)
             have Hb45 : Hid (Below w4.heap.size w4 w5) := Lib.hid (by rw [hw5]; exact (by repeat' (first | with_reducible exact Below.refl _ _ | with_reducible assumption | with_reducible refine below_drewN ?_ _ | with_reducible refine Below.drew ?_ | with_reducible refine Below.alloc ?_ ?_ _ | with_reducible refine Below.setCell ?_ ?_ _ | with_reducible refine Below.trans ?_ (Below.mono (by with_reducible assumption) ?_) | with_reducible refine below_only ?_ (by with_reducible assumption) ?_ ?_ | (simp; done) | (simp; omega) | omega)))
             have Hb5x : Hid (Below wa.heap.size wa w5) := Lib.hid (Hb3x.out.trans (Hb45.out.mono Hb3x.out.size))
             have d1 := (Hb45.out.cell (p := ⟨w.heap.size, 1, none⟩) hl4).trans e1
             have d2 := (Hb45.out.cell (p := ⟨w.heap.size, 2, none⟩) hl4).trans e2
             clear hw5)
          | (go_at_call 33
             refine (HC.out _ _ _ Hb5x.out HL5.out).mono ?_
             rintro e w6 ⟨rfl, rfl⟩)
          | fail)
      cases b6 with
      | true =>
        have Hres := Lib.hid (Hn6.out rfl)
        go_wp2
        go_ret
        exact ⟨by rw [Hres.out]; rfl, (have hba := Hba.out.trans (Hb5x.out.mono (Nat.le_of_lt hl)); (by repeat' (first | with_reducible exact Below.refl _ _ | with_reducible assumption | with_reducible refine below_drewN ?_ _ | with_reducible refine Below.drew ?_ | with_reducible refine Below.alloc ?_ ?_ _ | with_reducible refine Below.setCell ?_ ?_ _ | with_reducible refine Below.trans ?_ (Below.mono (by with_reducible assumption) ?_) | with_reducible refine below_only ?_ (by with_reducible assumption) ?_ ?_ | (simp; done) | (simp; omega) | omega)))⟩
      | false =>
        clear HC Hn6 e1 e2 d1 d2 h5 HL3 hwl
        go_upto_region 7 with fail
        have e3 := cell_of_row w6 w.heap.size 3 _ _ _ ((Hb5x.out.block _ hl).trans Hr.out)
        have e4 := cell_of_row w6 w.heap.size 4 _ _ _ ((Hb5x.out.block _ hl).trans Hr.out)
        have hl6 : w.heap.size < w6.heap.size := Nat.lt_of_lt_of_le hl Hb5x.out.size
        have HP7 := Lib.hid (fun b0 b1 W (hL : Lim W b0 b1 0 60) => outside1_any 0 60 q.le b0 b1 W hL)
        have HP8 := Lib.hid (fun b0 b1 W (hL : Lim W b0 b1 0 1000) => outside1_any 0 1000 q.ra b0 b1 W hL)
        have Hn7 : Hid (outP 0 60 q.le = true → res = 64) := Lib.hid (fun h => by rw [Hv.out]; unfold planB; simp [h])
        have Hn8 : Hid (outP 0 1000 q.ra = true → res = 64) := Lib.hid (fun h => by rw [Hv.out]; unfold planB; simp [h])
        have Hgood : Hid (outP 0 60 q.le = false → outP 0 1000 q.ra = false → res = if ascN q.ls q.ls.length then 0 else 64) := Lib.hid (fun h7 h8 => by rw [Hv.out]; unfold planB; rw [h7, h8, Hb3.out, Hb4.out, Hb6.out, decide_eq_true (show 1 ≤ q.ws.length by omega), decide_eq_true (show q.ws.length ≤ 6 by omega), decide_eq_true (show q.ls.length ≤ 5 by omega), decide_eq_true (show q.ss.length = q.ls.length + 1 by have := H5.out; omega)]; simp)
        generalize outP 0 60 q.le = b7 at *
        generalize outP 0 1000 q.ra = b8 at *
        clear Hb3 Hb4 Hb6
        go_cut [47] (fun s47 wz => s47 = .bool (b7 || b8) ∧ Below w6.heap.size w6 wz)
        case first =>
          refine wp_region_any (by kernel_rfl) ?_
          try (change wpAny _ _ _ _ _ _ _ (World.drew _))
          refine wpAny_take (i := 1) (v := ?vz1) rfl (by kernel_rfl) (by kernel_rfl) (by kernel_rfl) (fun _ _ _ h => h) (Or.inl ⟨by rfl, ?hyz1⟩) ?restz1
          case hyz1 => (intro w; go_simp; all_goals (with_reducible rfl))
          refine wpAny_ready (rs := [0, 2]) (by kernel_rfl) (by simp) ?_
          refine AllReady.cons rfl (fun K hK => ?_) (AllReady.cons rfl (fun K hK => ?_) AllReady.nil)
          · go_simp
            go_wp2_with (first
              | (go_at_call 34
                 refine (outside_any 0 60 _).mono ?_
                 rintro e w7 ⟨rfl, hw7⟩
                 have HL7 : Hid (Lim w7 w6.heap.size (w6.heap.size + 1) 0 60) := Lib.hid (by rw [hw7]; exact Lim.new _ 0 60)
                 have Hb67 : Hid (Below w6.heap.size w6 w7) := Lib.hid (by rw [hw7]; exact (by repeat' (first | with_reducible exact Below.refl _ _ | with_reducible assumption | with_reducible refine below_drewN ?_ _ | with_reducible refine Below.drew ?_ | with_reducible refine Below.alloc ?_ ?_ _ | with_reducible refine Below.setCell ?_ ?_ _ | with_reducible refine Below.trans ?_ (Below.mono (by with_reducible assumption) ?_) | with_reducible refine below_only ?_ (by with_reducible assumption) ?_ ?_ | (simp; done) | (simp; omega) | omega)))
                 have d3 := (Hb67.out.cell (p := ⟨w.heap.size, 3, none⟩) hl6).trans e3
                 have d4 := (Hb67.out.cell (p := ⟨w.heap.size, 4, none⟩) hl6).trans e4
                 have hl7 := Nat.lt_of_lt_of_le hl6 Hb67.out.size
                 clear hw7)
              | fail)
            refine wpAny_ready (rs := [2]) (by kernel_rfl) (by simp) ?_
            refine AllReady.cons rfl (fun K hK => ?_) AllReady.nil
            go_simp
            refine hK _ _ ?_; clear hK K
            refine wpAny_ready (rs := [3]) (by kernel_rfl) (by simp) ?_
            refine AllReady.cons rfl (fun K hK => ?_) AllReady.nil
            go_simp
            go_wp2_with (first
              | (go_at_call 49
                 refine (HP7.out _ _ _ HL7.out).mono ?_
                 rintro e w8 ⟨rfl, rfl⟩)
              | fail)
            refine wpAny_ready (rs := [4]) (by kernel_rfl) (by simp) ?_
            refine AllReady.cons rfl (fun K hK => ?_) AllReady.nil
            go_simp
            refine hK _ _ ?_; clear hK K
            cases b7 with
            | true =>
              refine wpAny_take (i := 5) (v := undef) rfl (by kernel_rfl) (by kernel_rfl) (by kernel_rfl) (fun _ _ _ h => h) (Or.inr ⟨by rfl, rfl⟩) ?_
              refine wpAny_take (i := 6) (v := undef) rfl (by kernel_rfl) (by kernel_rfl) (by kernel_rfl) (fun _ _ _ h => h) (Or.inr ⟨by rfl, rfl⟩) ?_
              refine wpAny_take (i := 7) (v := undef) rfl (by kernel_rfl) (by kernel_rfl) (by kernel_rfl) (fun _ _ _ h => h) (Or.inr ⟨by rfl, rfl⟩) ?_
              refine wpAny_take (i := 8) (v := undef) rfl (by kernel_rfl) (by kernel_rfl) (by kernel_rfl) (fun _ _ _ h => h) (Or.inr ⟨by rfl, rfl⟩) ?_
              refine wpAny_take (i := 9) (v := ?vat9) rfl (by kernel_rfl) (by kernel_rfl) (by kernel_rfl) (fun _ _ _ h => h) (Or.inl ⟨by rfl, ?hyat9⟩) ?restat9
              case hyat9 => (intro w; go_simp; all_goals (with_reducible rfl))
              refine wpAny_take (i := 10) (v := ?vat10) rfl (by kernel_rfl) (by kernel_rfl) (by kernel_rfl) (fun _ _ _ h => h) (Or.inl ⟨by rfl, ?hyat10⟩) ?restat10
              case hyat10 => (intro w; go_simp; all_goals (with_reducible rfl))
              refine wpAny_done (by kernel_rfl) ?_ _
              go_wp2
              go_meet
              case rel => exact ⟨by first | rfl | simp, Hb67.out⟩
            | false =>
              refine wpAny_take (i := 6) (v := ?vaf6) rfl (by kernel_rfl) (by kernel_rfl) (by kernel_rfl) (fun _ _ _ h => h) (Or.inl ⟨by rfl, ?hyaf6⟩) ?restaf6
              case hyaf6 => (intro w; go_simp; all_goals (with_reducible rfl))
              refine wpAny_ready (rs := [5, 7]) (by kernel_rfl) (by simp) ?_
              refine AllReady.cons rfl (fun K hK => ?_) (AllReady.cons rfl (fun K hK => ?_) AllReady.nil)
              · go_simp
                go_wp2_with (first
                  | (go_at_call 34
                     refine (outside_any 0 1000 _).mono ?_
                     rintro e w9 ⟨rfl, hw9⟩
                     have HL9 : Hid (Lim w9 w8.heap.size (w8.heap.size + 1) 0 1000) := Lib.hid (by rw [hw9]; exact Lim.new _ 0 1000)
                     have Hb89 : Hid (Below w8.heap.size w8 w9) := Lib.hid (by rw [hw9]; exact (by repeat' (first | with_reducible exact Below.refl _ _ | with_reducible assumption | with_reducible refine below_drewN ?_ _ | with_reducible refine Below.drew ?_ | with_reducible refine Below.alloc ?_ ?_ _ | with_reducible refine Below.setCell ?_ ?_ _ | with_reducible refine Below.trans ?_ (Below.mono (by with_reducible assumption) ?_) | with_reducible refine below_only ?_ (by with_reducible assumption) ?_ ?_ | (simp; done) | (simp; omega) | omega)))
                     have d4b := (Hb89.out.cell (p := ⟨w.heap.size, 4, none⟩) hl7).trans d4
                     clear hw9)
                  | fail)
                refine wpAny_ready (rs := [7]) (by kernel_rfl) (by simp) ?_
                refine AllReady.cons rfl (fun K hK => ?_) AllReady.nil
                go_simp
                refine hK _ _ ?_; clear hK K
                refine wpAny_ready (rs := [8]) (by kernel_rfl) (by simp) ?_
                refine AllReady.cons rfl (fun K hK => ?_) AllReady.nil
                go_simp
                go_wp2_with (first
                  | (go_at_call 49
                     refine (HP8.out _ _ _ HL9.out).mono ?_
                     rintro e w10 ⟨rfl, rfl⟩)
                  | fail)
                refine wpAny_take (i := 9) (v := ?vafx9) rfl (by kernel_rfl) (by kernel_rfl) (by kernel_rfl) (fun _ _ _ h => h) (Or.inl ⟨by rfl, ?hyafx9⟩) ?restafx9
                case hyafx9 => (intro w; go_simp; all_goals (with_reducible rfl))
                refine wpAny_take (i := 10) (v := ?vafx10) rfl (by kernel_rfl) (by kernel_rfl) (by kernel_rfl) (fun _ _ _ h => h) (Or.inl ⟨by rfl, ?hyafx10⟩) ?restafx10
                case hyafx10 => (intro w; go_simp; all_goals (with_reducible rfl))
                refine wpAny_done (by kernel_rfl) ?_ _
                go_wp2
                go_meet
                case rel => exact ⟨by first | rfl | simp, Hb67.out.trans (Hb89.out.mono Hb67.out.size)⟩
              · go_simp
                refine hK _ _ ?_; clear hK K
                refine wpAny_ready (rs := [5]) (by kernel_rfl) (by simp) ?_
                refine AllReady.cons rfl (fun K hK => ?_) AllReady.nil
                go_simp
                go_wp2_with (first
                  | (go_at_call 34
                     refine (outside_any 0 1000 _).mono ?_
                     rintro e w9 ⟨rfl, hw9⟩
                     have HL9 : Hid (Lim w9 w8.heap.size (w8.heap.size + 1) 0 1000) := Lib.hid (by rw [hw9]; exact Lim.new _ 0 1000)
                     have Hb89 : Hid (Below w8.heap.size w8 w9) := Lib.hid (by rw [hw9]; exact (by repeat' (first | with_reducible exact Below.refl _ _ | with_reducible assumption | with_reducible refine below_drewN ?_ _ | with_reducible refine Below.drew ?_ | with_reducible refine Below.alloc ?_ ?_ _ | with_reducible refine Below.setCell ?_ ?_ _ | with_reducible refine Below.trans ?_ (Below.mono (by with_reducible assumption) ?_) | with_reducible refine below_only ?_ (by with_reducible assumption) ?_ ?_ | (simp; done) | (simp; omega) | omega)))
                     have d4b := (Hb89.out.cell (p := ⟨w.heap.size, 4, none⟩) hl7).trans d4
                     clear hw9)
                  | fail)
                refine wpAny_ready (rs := [8]) (by kernel_rfl) (by simp) ?_
                refine AllReady.cons rfl (fun K hK => ?_) AllReady.nil
                go_simp
                go_wp2_with (first
                  | (go_at_call 49
                     refine (HP8.out _ _ _ HL9.out).mono ?_
                     rintro e w10 ⟨rfl, rfl⟩)
                  | fail)
                refine wpAny_take (i := 9) (v := ?vafy9) rfl (by kernel_rfl) (by kernel_rfl) (by kernel_rfl) (fun _ _ _ h => h) (Or.inl ⟨by rfl, ?hyafy9⟩) ?restafy9
                case hyafy9 => (intro w; go_simp; all_goals (with_reducible rfl))
                refine wpAny_take (i := 10) (v := ?vafy10) rfl (by kernel_rfl) (by kernel_rfl) (by kernel_rfl) (fun _ _ _ h => h) (Or.inl ⟨by rfl, ?hyafy10⟩) ?restafy10
                case hyafy10 => (intro w; go_simp; all_goals (with_reducible rfl))
                refine wpAny_done (by kernel_rfl) ?_ _
                go_wp2
                go_meet
                case rel => exact ⟨by first | rfl | simp, Hb67.out.trans (Hb89.out.mono Hb67.out.size)⟩
          · go_simp
            refine hK _ _ ?_; clear hK K
            refine wpAny_ready (rs := [0]) (by kernel_rfl) (by simp) ?_
            refine AllReady.cons rfl (fun K hK => ?_) AllReady.nil
            go_simp
            go_wp2_with (first
              | (go_at_call 34
                 refine (outside_any 0 60 _).mono ?_
                 rintro e w7 ⟨rfl, hw7⟩
                 have HL7 : Hid (Lim w7 w6.heap.size (w6.heap.size + 1) 0 60) := Lib.hid (by rw [hw7]; exact Lim.new _ 0 60)
                 have Hb67 : Hid (Below w6.heap.size w6 w7) := Lib.hid (by rw [hw7]; exact (by repeat' (first | with_reducible exact Below.refl _ _ | with_reducible assumption | with_reducible refine below_drewN ?_ _ | with_reducible refine Below.drew ?_ | with_reducible refine Below.alloc ?_ ?_ _ | with_reducible refine Below.setCell ?_ ?_ _ | with_reducible refine Below.trans ?_ (Below.mono (by with_reducible assumption) ?_) | with_reducible refine below_only ?_ (by with_reducible assumption) ?_ ?_ | (simp; done) | (simp; omega) | omega)))
                 have d3 := (Hb67.out.cell (p := ⟨w.heap.size, 3, none⟩) hl6).trans e3
                 have d4 := (Hb67.out.cell (p := ⟨w.heap.size, 4, none⟩) hl6).trans e4
                 have hl7 := Nat.lt_of_lt_of_le hl6 Hb67.out.size
                 clear hw7)
              | fail)
            refine wpAny_ready (rs := [3]) (by kernel_rfl) (by simp) ?_
            refine AllReady.cons rfl (fun K hK => ?_) AllReady.nil
            go_simp
            go_wp2_with (first
              | (go_at_call 49
                 refine (HP7.out _ _ _ HL7.out).mono ?_
                 rintro e w8 ⟨rfl, rfl⟩)
              | fail)
            refine wpAny_ready (rs := [4]) (by kernel_rfl) (by simp) ?_
            refine AllReady.cons rfl (fun K hK => ?_) AllReady.nil
            go_simp
            refine hK _ _ ?_; clear hK K
            cases b7 with
            | true =>
              refine wpAny_take (i := 5) (v := undef) rfl (by kernel_rfl) (by kernel_rfl) (by kernel_rfl) (fun _ _ _ h => h) (Or.inr ⟨by rfl, rfl⟩) ?_
              refine wpAny_take (i := 6) (v := undef) rfl (by kernel_rfl) (by kernel_rfl) (by kernel_rfl) (fun _ _ _ h => h) (Or.inr ⟨by rfl, rfl⟩) ?_
              refine wpAny_take (i := 7) (v := undef) rfl (by kernel_rfl) (by kernel_rfl) (by kernel_rfl) (fun _ _ _ h => h) (Or.inr ⟨by rfl, rfl⟩) ?_
              refine wpAny_take (i := 8) (v := undef) rfl (by kernel_rfl) (by kernel_rfl) (by kernel_rfl) (fun _ _ _ h => h) (Or.inr ⟨by rfl, rfl⟩) ?_
              refine wpAny_take (i := 9) (v := ?vbt9) rfl (by kernel_rfl) (by kernel_rfl) (by kernel_rfl) (fun _ _ _ h => h) (Or.inl ⟨by rfl, ?hybt9⟩) ?restbt9
              case hybt9 => (intro w; go_simp; all_goals (with_reducible rfl))
              refine wpAny_take (i := 10) (v := ?vbt10) rfl (by kernel_rfl) (by kernel_rfl) (by kernel_rfl) (fun _ _ _ h => h) (Or.inl ⟨by rfl, ?hybt10⟩) ?restbt10
              case hybt10 => (intro w; go_simp; all_goals (with_reducible rfl))
              refine wpAny_done (by kernel_rfl) ?_ _
              go_wp2
              go_meet
              case rel => exact ⟨by first | rfl | simp, Hb67.out⟩
            | false =>
              refine wpAny_take (i := 6) (v := ?vbf6) rfl (by kernel_rfl) (by kernel_rfl) (by kernel_rfl) (fun _ _ _ h => h) (Or.inl ⟨by rfl, ?hybf6⟩) ?restbf6
              case hybf6 => (intro w; go_simp; all_goals (with_reducible rfl))
              refine wpAny_ready (rs := [5, 7]) (by kernel_rfl) (by simp) ?_
              refine AllReady.cons rfl (fun K hK => ?_) (AllReady.cons rfl (fun K hK => ?_) AllReady.nil)
              · go_simp
                go_wp2_with (first
                  | (go_at_call 34
                     refine (outside_any 0 1000 _).mono ?_
                     rintro e w9 ⟨rfl, hw9⟩
                     have HL9 : Hid (Lim w9 w8.heap.size (w8.heap.size + 1) 0 1000) := Lib.hid (by rw [hw9]; exact Lim.new _ 0 1000)
                     have Hb89 : Hid (Below w8.heap.size w8 w9) := Lib.hid (by rw [hw9]; exact (by repeat' (first | with_reducible exact Below.refl _ _ | with_reducible assumption | with_reducible refine below_drewN ?_ _ | with_reducible refine Below.drew ?_ | with_reducible refine Below.alloc ?_ ?_ _ | with_reducible refine Below.setCell ?_ ?_ _ | with_reducible refine Below.trans ?_ (Below.mono (by with_reducible assumption) ?_) | with_reducible refine below_only ?_ (by with_reducible assumption) ?_ ?_ | (simp; done) | (simp; omega) | omega)))
                     have d4b := (Hb89.out.cell (p := ⟨w.heap.size, 4, none⟩) hl7).trans d4
                     clear hw9)
                  | fail)
                refine wpAny_ready (rs := [7]) (by kernel_rfl) (by simp) ?_
                refine AllReady.cons rfl (fun K hK => ?_) AllReady.nil
                go_simp
                refine hK _ _ ?_; clear hK K
                refine wpAny_ready (rs := [8]) (by kernel_rfl) (by simp) ?_
                refine AllReady.cons rfl (fun K hK => ?_) AllReady.nil
                go_simp
                go_wp2_with (first
                  | (go_at_call 49
                     refine (HP8.out _ _ _ HL9.out).mono ?_
                     rintro e w10 ⟨rfl, rfl⟩)
                  | fail)
                refine wpAny_take (i := 9) (v := ?vbfx9) rfl (by kernel_rfl) (by kernel_rfl) (by kernel_rfl) (fun _ _ _ h => h) (Or.inl ⟨by rfl, ?hybfx9⟩) ?restbfx9
                case hybfx9 => (intro w; go_simp; all_goals (with_reducible rfl))
                refine wpAny_take (i := 10) (v := ?vbfx10) rfl (by kernel_rfl) (by kernel_rfl) (by kernel_rfl) (fun _ _ _ h => h) (Or.inl ⟨by rfl, ?hybfx10⟩) ?restbfx10
                case hybfx10 => (intro w; go_simp; all_goals (with_reducible rfl))
                refine wpAny_done (by kernel_rfl) ?_ _
                go_wp2
                go_meet
                case rel => exact ⟨by first | rfl | simp, Hb67.out.trans (Hb89.out.mono Hb67.out.size)⟩
              · go_simp
                refine hK _ _ ?_; clear hK K
                refine wpAny_ready (rs := [5]) (by kernel_rfl) (by simp) ?_
                refine AllReady.cons rfl (fun K hK => ?_) AllReady.nil
                go_simp
                go_wp2_with (first
                  | (go_at_call 34
                     refine (outside_any 0 1000 _).mono ?_
                     rintro e w9 ⟨rfl, hw9⟩
                     have HL9 : Hid (Lim w9 w8.heap.size (w8.heap.size + 1) 0 1000) := Lib.hid (by rw [hw9]; exact Lim.new _ 0 1000)
                     have Hb89 : Hid (Below w8.heap.size w8 w9) := Lib.hid (by rw [hw9]; exact (by repeat' (first | with_reducible exact Below.refl _ _ | with_reducible assumption | with_reducible refine below_drewN ?_ _ | with_reducible refine Below.drew ?_ | with_reducible refine Below.alloc ?_ ?_ _ | with_reducible refine Below.setCell ?_ ?_ _ | with_reducible refine Below.trans ?_ (Below.mono (by with_reducible assumption) ?_) | with_reducible refine below_only ?_ (by with_reducible assumption) ?_ ?_ | (simp; done) | (simp; omega) | omega)))
                     have d4b := (Hb89.out.cell (p := ⟨w.heap.size, 4, none⟩) hl7).trans d4
                     clear hw9)
                  | fail)
                refine wpAny_ready (rs := [8]) (by kernel_rfl) (by simp) ?_
                refine AllReady.cons rfl (fun K hK => ?_) AllReady.nil
                go_simp
                go_wp2_with (first
                  | (go_at_call 49
                     refine (HP8.out _ _ _ HL9.out).mono ?_
                     rintro e w10 ⟨rfl, rfl⟩)
                  | fail)
                refine wpAny_take (i := 9) (v := ?vbfy9) rfl (by kernel_rfl) (by kernel_rfl) (by kernel_rfl) (fun _ _ _ h => h) (Or.inl ⟨by rfl, ?hybfy9⟩) ?restbfy9
                case hybfy9 => (intro w; go_simp; all_goals (with_reducible rfl))
                refine wpAny_take (i := 10) (v := ?vbfy10) rfl (by kernel_rfl) (by kernel_rfl) (by kernel_rfl) (fun _ _ _ h => h) (Or.inl ⟨by rfl, ?hybfy10⟩) ?restbfy10
                case hybfy10 => (intro w; go_simp; all_goals (with_reducible rfl))
                refine wpAny_done (by kernel_rfl) ?_ _
                go_wp2
                go_meet
                case rel => exact ⟨by first | rfl | simp, Hb67.out.trans (Hb89.out.mono Hb67.out.size)⟩
        case rest =>
          obtain ⟨w11, rfl⟩ : ∃ w11 : World, w11 = wc := ⟨_, rfl⟩
          obtain ⟨rfl, hbc⟩ := hcut
          have Hbc : Hid (Below wa.heap.size wa w11) := Lib.hid (Hb5x.out.trans (hbc.mono Hb5x.out.size))
          have Hnn : Hid ((b7 || b8) = true → res = 64) := Lib.hid (fun h => by
            cases b7 with
            | true => exact Hn7.out rfl
            | false => exact Hn8.out (by simpa using h))
          have Hg : Hid ((b7 || b8) = false → res = if ascN q.ls q.ls.length then 0 else 64) := Lib.hid (fun h => by
            have h' : b7 = false ∧ b8 = false := by simpa using h
            exact Hgood.out h'.1 h'.2)
          clear hbc Hn7 Hn8 Hgood HP7 HP8 e3 e4
          generalize (b7 || b8) = b9 at *
          cases b9 with
          | true =>
            have Hres := Lib.hid (Hnn.out rfl)
            go_wp2
            go_ret
            exact ⟨by rw [Hres.out]; rfl, (have hba := Hba.out.trans (Hbc.out.mono (Nat.le_of_lt hl)); (by repeat' (first | with_reducible exact Below.refl _ _ | with_reducible assumption | with_reducible refine below_drewN ?_ _ | with_reducible refine Below.drew ?_ | with_reducible refine Below.alloc ?_ ?_ _ | with_reducible refine Below.setCell ?_ ?_ _ | with_reducible refine Below.trans ?_ (Below.mono (by with_reducible assumption) ?_) | with_reducible refine below_only ?_ (by with_reducible assumption) ?_ ?_ | (simp; done) | (simp; omega) | omega)))⟩
          | false =>
            have Hres : Hid (res = if ascN q.ls q.ls.length then 0 else 64) := Lib.hid (Hg.out rfl)
            clear Hnn Hg
            go_upto_region 9 with fail
            go_wp2_with fail
            go_loopw [3] (fun i wr => ∃ k : Nat, 1 ≤ k ∧ (k ≤ q.ls.length ∨ k = 1) ∧ i = .int .i64 (k : Int) ∧ Hid (ascN q.ls k = true) ∧ Below wa.heap.size wa wr) (fun i _ => q.ls.length - (intOf i).toNat)
            case atStart => exact ⟨1, Nat.le_refl _, .inr rfl, rfl, Lib.hid rfl, Hbc.out⟩
            case round =>
              obtain ⟨k, h1, hk, rfl, Hasc, hbw⟩ := hrel
              have e1 := cell_of_row wr w.heap.size 1 _ _ _ ((hbw.block _ hl).trans Hr.out)
              have e1d : wr.drew.cell? ⟨w.heap.size, 1, none⟩ = some (.slice p.a2 q.ls.length p.c2) := e1
              have Hbw := Lib.hid hbw
              by_cases hkn : k < q.ls.length
              · have hkn' : (k : Int) < (q.ls.length : Int) := by omega
                obtain ⟨j, hj⟩ : ∃ j, k = j + 1 := ⟨k - 1, by omega⟩
                have ej : IntKind.i64.wrap ((k : Int) - 1) = (j : Int) := by rw [IntWalk.i64_in _ (by omega)]; omega
                have hjn : j < q.ls.length := by omega
                have hjn' : (j : Int) < (q.ls.length : Int) := by omega
                obtain ⟨b, off, hAe, hb, ck⟩ := (HA.out.s2.below hbw).at k hkn
                obtain ⟨b', off', hAe', _, cj⟩ := (HA.out.s2.below hbw).at j hjn
                obtain ⟨rfl, rfl⟩ : b' = b ∧ off' = off := by
                  have := hAe'.symm.trans hAe
                  injection this with h
                  injection h with ha hb2
                  exact ⟨ha, hb2⟩
                rw [hAe] at e1 e1d
                have Hbad : Hid (q.ls[k] ≤ q.ls[j] → ascN q.ls q.ls.length = false) := Lib.hid (fun h => ascN_bad hkn (by omega) (by rw [List.getD_eq_getElem?_getD, List.getD_eq_getElem?_getD, show k - 1 = j by omega, List.getElem?_eq_getElem hkn, List.getElem?_eq_getElem hjn]; simp; omega))
                have Hnx : Hid (¬ q.ls[k] ≤ q.ls[j] → ascN q.ls (k + 1) = true) := Lib.hid (fun h => by rw [ascN_succ, Hasc.out, List.getD_eq_getElem?_getD, List.getD_eq_getElem?_getD, show k - 1 = j by omega, List.getElem?_eq_getElem hkn, List.getElem?_eq_getElem hjn]; simp; omega)
                have Hj := Lib.hid hj
                clear hAe hAe' hj
                generalize q.ls[k] = y at *
                generalize q.ls[j] = x at *
                by_cases hyx : y ≤ x
                · have Hres2 : Hid (res = 64) := Lib.hid (by rw [Hres.out, Hbad.out hyx]; rfl)
                  clear Hbad Hnx
                  go_wp2_with fail
                  go_quiet (fail)
                  go_wp2
                  go_ret
                  exact ⟨by rw [Hres2.out]; rfl, (have hba := Hba.out.trans (Hbw.out.mono (Nat.le_of_lt hl)); (by repeat' (first | with_reducible exact Below.refl _ _ | with_reducible assumption | with_reducible refine below_drewN ?_ _ | with_reducible refine Below.drew ?_ | with_reducible refine Below.alloc ?_ ?_ _ | with_reducible refine Below.setCell ?_ ?_ _ | with_reducible refine Below.trans ?_ (Below.mono (by with_reducible assumption) ?_) | with_reducible refine below_only ?_ (by with_reducible assumption) ?_ ?_ | (simp; done) | (simp; omega) | omega)))⟩
                · have Hasc2 := Lib.hid (Hnx.out hyx)
                  clear Hbad Hnx
                  go_wp2_with fail
                  go_quiet (fail)
                  go_wp2
                  go_roundw
                  case rel => exact ⟨k + 1, by omega, by omega, by go_num, Hasc2, (have hba := Hbw.out; (by repeat' (first | with_reducible exact Below.refl _ _ | with_reducible assumption | with_reducible refine below_drewN ?_ _ | with_reducible refine Below.drew ?_ | with_reducible refine Below.alloc ?_ ?_ _ | with_reducible refine Below.setCell ?_ ?_ _ | with_reducible refine Below.trans ?_ (Below.mono (by with_reducible assumption) ?_) | with_reducible refine below_only ?_ (by with_reducible assumption) ?_ ?_ | (simp; done) | (simp; omega) | omega)))⟩
                  case measure => simp [intOf]; omega
              · have hkn' : ¬ (k : Int) < (q.ls.length : Int) := by omega
                have Hres2 : Hid (res = 0) := Lib.hid (by
                  rw [Hres.out]
                  have : ascN q.ls q.ls.length = true := by
                    rcases hk with hk | hk
                    · rw [show q.ls.length = k by omega]; exact Hasc.out
                    · rcases Nat.eq_zero_or_pos q.ls.length with h0 | h0
                      · rw [h0]; rfl
                      · rw [show q.ls.length = k by omega]; exact Hasc.out
                  rw [this]; rfl)
                go_wp2
                go_ret
                exact ⟨by rw [Hres2.out]; rfl, (have hba := Hba.out.trans (Hbw.out.mono (Nat.le_of_lt hl)); (by repeat' (first | with_reducible exact Below.refl _ _ | with_reducible assumption | with_reducible refine below_drewN ?_ _ | with_reducible refine Below.drew ?_ | with_reducible refine Below.alloc ?_ ?_ _ | with_reducible refine Below.setCell ?_ ?_ _ | with_reducible refine Below.trans ?_ (Below.mono (by with_reducible assumption) ?_) | with_reducible refine below_only ?_ (by with_reducible assumption) ?_ ?_ | (simp; done) | (simp; omega) | omega)))⟩
end Go.Proofs.Ytjmbdfoegnfpnaa
