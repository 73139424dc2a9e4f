import Derived.Laws.EntriesVeiled
import Derived.Test.YtfmkmhhghmdakaaGreatDoorRR
import Derived.Test.YtfmkmhhghmdakaaGreatDoorRS
namespace Go.Proofs.YtfmkmhhghmdakaaGreatDoor
open Go.RowKit Go.Shelf
set_option linter.unusedVariables false
set_option linter.unusedSimpArgs false
set_option maxHeartbeats 64000000
set_option maxRecDepth 100000
theorem wrongP_any (v : Int) (C : Option Addr) (k cc X : Nat) (w : World) (c1 : w.cell? ⟨X, 1, none⟩ = some (.slice C k cc)) (hk0 : 0 ≤ v) (hk3 : v < (k : Int)) :
    Calls Tryz.prog 203 #[.int .i64 v, .pointer (some ⟨X, 0, none⟩)] w fun e w' => e = .returned (.bool false) ∧ w = w' := by
  have h1 : ¬ v < 0 := by omega
  have h2 : ¬ (k : Int) ≤ v := by omega
  go_enter Tryz.func203, Tryz.ntmps203
  go_wp2
  go_ret
  exact ⟨rfl, rfl⟩
theorem wrongR_any (x : Rc) (v : LV) (C : Option Addr) (k cc X Y : Nat) (w : World) (h0 : 0 ≤ x.cr) (h3 : x.cr < (k : Int)) (c1 : w.cell? ⟨X, 1, none⟩ = some (.slice C k cc)) (hX : X < w.heap.size) (cy : w.cell? ⟨Y, 0, none⟩ = some (.func (.func 203) #[] #[.pointer (some ⟨X, 0, none⟩)])) (hY : Y < w.heap.size) :
    Calls Tryz.prog 204 #[.agg #[.int .i64 x.yr, .int .i64 x.cr, .slice v.a x.rg.length v.c], .pointer (some ⟨Y, 0, none⟩)] w fun e w' => e = .returned (.bool false) ∧ Below w.heap.size w w' := by
  have eg : ∀ args w, (callFunc 203 args).run Tryz.prog w = .ok (.enter 203 args) w := enters_of Tryz.func203 (by kernel_rfl) rfl
  have HH := Lib.hid (fun W (h : Below w.heap.size w W) => wrongP_any x.cr C k cc X W ((h.cell (p := ⟨X, 1, none⟩) hX).trans c1) h0 h3)
  have Hcy := Lib.hid cy
  clear c1 cy
  go_enter Tryz.func204, Tryz.ntmps204
  go_upto_region 1 with fail
  obtain ⟨w1, hw1⟩ : ∃ w1 : World, w1 = w.alloc (.cells #[.int .i64 x.yr, .int .i64 x.cr, .slice v.a x.rg.length v.c] 172) := ⟨_, rfl⟩
  rw [← hw1]
  have hr1 : w1.heap[w.heap.size]? = some (.cells #[.int .i64 x.yr, .int .i64 x.cr, .slice v.a x.rg.length v.c] 172 (0, 0)) := by rw [hw1]; exact heap_alloc_new w _
  have Hb1 : Hid (Below w.heap.size w w1) := Lib.hid (by rw [hw1]; exact gBel)
  have d1 := cell_of_row _ _ 1 _ _ _ hr1
  have e0 := (Hb1.out.cell (p := ⟨Y, 0, none⟩) hY).trans Hcy.out
  clear hw1 hr1
  go_wp2_with (first
    | (go_at_call 203; refine (HH.out _ Hb1.out).mono ?_; rintro e w' ⟨rfl, rfl⟩)
    | fail)
  go_ret
  exact ⟨rfl, Hb1.out⟩
theorem checkPl_any (A : Option Addr) (n c : Nat) (l : RcL) (C : Option Addr) (k cc : Nat) (K : List Cp) (B : Option Addr) (m d : Nat) (P : List R4) (y pc cr sch t : Int) (w : World) (hA : SlRc w A n c l) (hl : HyW (k : Int) (rcs l)) (hC : SlC w C k cc K) (hK : cropsB K) (hB : SlR w B m d P) (hP : validP P = true) (hy : 0 ≤ y ∧ y ≤ 100) (hcr : 0 ≤ cr ∧ cr < (k : Int)) (ht : 2 ≤ t ∧ t ≤ 4) :
    Calls Tryz.prog 106 #[.agg #[.int .i64 y, .slice C k cc, .slice A n c, .slice none 0 0, .int .i64 0, .int .i64 pc, .slice B m d, .int .i64 cr, .int .i64 sch, .slice B m d], sameV t] w fun e w' => e = .returned (.int .i64 0) ∧ Below w.heap.size w w' := by
  have eg : ∀ args w, (callFunc 203 args).run Tryz.prog w = .ok (.enter 203 args) w := enters_of Tryz.func203 (by kernel_rfl) rfl
  have eg2 : ∀ args w, (callFunc 204 args).run Tryz.prog w = .ok (.enter 204 args) w := enters_of Tryz.func204 (by kernel_rfl) rfl
  have hy0 : ¬ y < 0 := by omega
  have hy1 : ¬ 100 < y := by omega
  have HK := Lib.hid (fun W (h : Below w.heap.size w W) => checkHy_any A n c l W (hA.below h) hl.hy)
  have HCC := Lib.hid (fun W (h : Below w.heap.size w W) => cropCheck_any C k cc K W (hC.below h) hK)
  have HO := Lib.hid (fun W => on_any none 0 0 [] 0 W ⟨rfl, Nat.le_refl _, by unfold maxLen; omega, .inl rfl, fun x hx => (by cases hx)⟩ ⟨fun x h => (by cases h), List.Pairwise.nil, by simp [fts]⟩ (by omega))
  have HV := Lib.hid (fun W (h : Below w.heap.size w W) => valid_any B m d P W (hB.below h))
  have HX := Lib.hid (fun W (h : Below w.heap.size w W) (X Y : Nat) (c1 : W.cell? ⟨X, 1, none⟩ = some (.slice C k cc)) (hX : X < W.heap.size) (cy : W.cell? ⟨Y, 0, none⟩ = some (.func (.func 203) #[] #[.pointer (some ⟨X, 0, none⟩)])) (hY : Y < W.heap.size) => show Calls Tryz.prog 116 #[.slice A n c, .func (.func 204) #[] #[.pointer (some ⟨Y, 0, none⟩)]] W fun e w' => e = .returned (.bool false) ∧ Below W.heap.size W w' from by
    have h1 := containsRc_any 204 #[.pointer (some ⟨Y, 0, none⟩)] (fun _ => false) A n c l W (hA.below h) eg2 (fun W2 hW2 x hx => by
      show Calls Tryz.prog 204 #[.agg #[.int .i64 x.1.yr, .int .i64 x.1.cr, .slice x.2.a x.1.rg.length x.2.c], .pointer (some ⟨Y, 0, none⟩)] W2 _
      exact wrongR_any x.1 x.2 C k cc X Y W2 (hl.hy.ok _ (List.mem_map_of_mem hx)).cr.1 (hl.cr _ (List.mem_map_of_mem hx)) ((hW2.cell (p := ⟨X, 1, none⟩) hX).trans c1) (Nat.lt_of_lt_of_le hX hW2.size) ((hW2.cell (p := ⟨Y, 0, none⟩) hY).trans cy) (Nat.lt_of_lt_of_le hY hW2.size))
    rw [show l.any (fun _ => false) = false from by simp] at h1
    exact h1)
  rw [hP] at HV
  clear hA hl hC hK hB hP hy
  go_enter Tryz.func106, Tryz.ntmps106
  go_upto_region 1 with fail
  obtain ⟨w1, hw1⟩ : ∃ w1 : World, w1 = (w.alloc (.cells #[.int .i64 y, .slice C k cc, .slice A n c, .slice none 0 0, .int .i64 0, .int .i64 pc, .slice B m d, .int .i64 cr, .int .i64 sch, .slice B m d] 163)).alloc (.cells #[.int .i64 6, .int .i64 t, .int .i64 0, .slice none 0 0] 84) := ⟨_, rfl⟩
  rw [← hw1]
  have Hr1 : Hid (w1.heap[w.heap.size]? = some (.cells #[.int .i64 y, .slice C k cc, .slice A n c, .slice none 0 0, .int .i64 0, .int .i64 pc, .slice B m d, .int .i64 cr, .int .i64 sch, .slice B m d] 163 (0, 0))) := Lib.hid (by rw [hw1]; exact (Below.heap_alloc _ _ _ (by simp)).trans (heap_alloc_new w _))
  have hq1 : w1.heap[w.heap.size + 1]? = some (.cells #[.int .i64 6, .int .i64 t, .int .i64 0, .slice none 0 0] 84 (0, 0)) := by rw [hw1]; exact heap_alloc2_new w _ _
  have Hb1 : Hid (Below w.heap.size w w1) := Lib.hid (by rw [hw1]; exact gBel)
  have hs1 : w.heap.size + 1 < w1.heap.size := by rw [hw1]; simp
  have q0 := cell_of_row _ _ 0 _ _ _ hq1; have q1 := cell_of_row _ _ 1 _ _ _ hq1; have q2 := cell_of_row _ _ 2 _ _ _ hq1; have q3 := cell_of_row _ _ 3 _ _ _ hq1
  clear hw1 hq1
  go_upto_region 2 with (first
    | (go_at_call 202
       refine (checkTm_any t ht _).mono ?_
       rintro e w2 ⟨rfl, hb2⟩
       have Hr2 := Lib.hid ((hb2.block w.heap.size (by omega)).trans Hr1.out)
       have Hb2 := Lib.hid (Hb1.out.trans (hb2.mono Hb1.out.size))
       have hs2 : w.heap.size + 1 < w2.heap.size := Nat.lt_of_lt_of_le hs1 hb2.size
       clear hb2 q0 q1 q2 q3)
    | fail)
  have e1 := cell_of_row _ _ 1 _ _ _ Hr2.out
  go_upto_region 7 with (first
    | (go_at_call 124
       refine (HCC.out _ Hb2.out).mono ?_
       rintro e w3 ⟨rfl, hb3⟩
       have Hr3 := Lib.hid ((hb3.block w.heap.size (by omega)).trans Hr2.out)
       have Hb3 := Lib.hid (Hb2.out.trans (hb3.mono Hb2.out.size))
       have hs3 : w.heap.size + 1 < w3.heap.size := Nat.lt_of_lt_of_le hs2 hb3.size
       clear hb3 e1)
    | fail)
  go_upto_region 8 with fail
  obtain ⟨w4, hw4⟩ : ∃ w4 : World, w4 = w3.alloc (.cells #[.func (.func 203) #[] #[.pointer (some ⟨w.heap.size, 0, none⟩)]] 156) := ⟨_, rfl⟩
  rw [← hw4]
  have hf4 : w4.heap[w3.heap.size]? = some (.cells #[.func (.func 203) #[] #[.pointer (some ⟨w.heap.size, 0, none⟩)]] 156 (0, 0)) := by rw [hw4]; exact heap_alloc_new w3 _
  have Hb34 : Hid (Below w3.heap.size w3 w4) := Lib.hid (by rw [hw4]; exact gBel)
  have hs4 : w3.heap.size < w4.heap.size := by rw [hw4]; simp
  have hr4 := (Hb34.out.block w.heap.size (by omega)).trans Hr3.out
  have Hr4 := Lib.hid hr4
  have Hb4 := Lib.hid (Hb3.out.trans (Hb34.out.mono Hb3.out.size))
  have cf := cell_of_row _ _ 0 _ _ _ hf4
  have c1 := cell_of_row _ _ 1 _ _ _ hr4
  have c2 := cell_of_row _ _ 2 _ _ _ hr4
  have c7 := cell_of_row _ _ 7 _ _ _ hr4
  have HW1 := Lib.hid (wrongP_any cr C k cc w.heap.size w4 c1 hcr.1 hcr.2)
  have HX4 := Lib.hid (HX.out w4 Hb4.out w.heap.size w3.heap.size c1 (by omega) cf hs4)
  clear hw4 hf4 hr4
  go_upto_region 10 with (first
    | (go_at_call 203; refine HW1.out.mono ?_; rintro e w' ⟨rfl, rfl⟩)
    | (go_at_call 116
       refine HX4.out.mono ?_
       rintro e w5 ⟨rfl, hb5⟩
       have hr5 := (hb5.block w.heap.size (by omega)).trans Hr4.out
       have Hr5 := Lib.hid hr5
       have g2 := cell_of_row _ _ 2 _ _ _ hr5
       have Hb5 := Lib.hid (Hb4.out.trans (hb5.mono Hb4.out.size))
       have hs5 : w.heap.size + 1 < w5.heap.size := Nat.lt_of_lt_of_le (by omega) hb5.size
       clear hb5 hr5 c1 c2 c7 cf)
    | fail)
  clear HX4 HW1
  go_upto_region 11 with (first
    | (go_at_call 98
       refine (HK.out _ Hb5.out).mono ?_
       rintro e w6 ⟨rfl, hb6⟩
       have hr6 := (hb6.block w.heap.size (by omega)).trans Hr5.out
       have Hr6 := Lib.hid hr6
       have g0 := cell_of_row _ _ 0 _ _ _ hr6
       have g3 := cell_of_row _ _ 3 _ _ _ hr6
       have g4 := cell_of_row _ _ 4 _ _ _ hr6
       have Hb6 := Lib.hid (Hb5.out.trans (hb6.mono Hb5.out.size))
       have hs6 : w.heap.size + 1 < w6.heap.size := Nat.lt_of_lt_of_le hs5 hb6.size
       clear hb6 hr6 g2)
    | fail)
  go_wp2_with (first
    | (go_at_call 19
       refine (HO.out _).mono ?_
       rintro e w7 ⟨mm, vv, rfl, hfo, hmm, hb7⟩
       have hr7 := (hb7.block w.heap.size (by omega)).trans Hr6.out
       have q5 := cell_of_row _ _ 5 _ _ _ hr7
       have q6 := cell_of_row _ _ 6 _ _ _ hr7
       have Hb7 := Lib.hid (Hb6.out.trans (hb7.mono Hb6.out.size))
       clear hb7 hr7 hfo hmm g0 g3 g4)
    | (go_at_call 48
       refine (HV.out _ Hb7.out).mono ?_
       rintro e w8 ⟨rfl, hb8⟩
       have Hb8 := Lib.hid (Hb7.out.trans (hb8.mono Hb7.out.size))
       clear hb8)
    | fail)
  go_ret
  exact ⟨rfl, Hb8.out⟩
def SqPost (w : World) (P1 P2 P3 : List R4) (e : Ending) (w' : World) : Prop :=
  ∃ (v1 v2 v3 : LV), e = .returned (.agg #[.slice v1.a P1.length v1.c, .slice v2.a P2.length v2.c, .slice v3.a P3.length v3.c]) ∧ w'.ownsRow w.heap.size 68 4 (.slice v1.a P1.length v1.c) P1.length (rCells P1) ∧ w'.ownsRow w.heap.size 68 4 (.slice v2.a P2.length v2.c) P2.length (rCells P2) ∧ w'.ownsRow w.heap.size 68 4 (.slice v3.a P3.length v3.c) P3.length (rCells P3) ∧ Below w.heap.size w w'
theorem sq3_cell {w : World} {g b j : Nat} {x y z : Value} (hb : b < w.heap.size) (h : b ≠ g) : (((w.setCell ⟨g, 0, none⟩ x).setCell ⟨g, 1, none⟩ y).setCell ⟨g, 2, none⟩ z).cell? ⟨b, j, none⟩ = w.cell? ⟨b, j, none⟩ := by
  have h1 := (sq3_only (w := w) (g := g) (x := x) (y := y) (z := z)).block b hb (by intro e; injection e with e; exact h e)
  unfold World.cell?
  rw [h1]
theorem sameTm_any (A : Option Addr) (n c : Nat) (l : RcL) (C : Option Addr) (k cc : Nat) (K : List Cp) (B : Option Addr) (m d : Nat) (P : List R4) (y pc cr sch t : Int) (N : Nat) (Bx : List Int) (w : World) (hA : SlRc w A n c l) (hl : HyW (k : Int) (rcs l)) (hn : n ≤ 100) (hk : k ≤ 8) (hC : SlC w C k cc K) (hB : SlR w B m d P) (hP : RgB Bx P) (hBx : Bx.length ≤ 2) (hy : 4 ≤ y ∧ y ≤ 100) (hcr : 0 ≤ cr ∧ cr < (k : Int)) (hN : 1 ≤ N ∧ N ≤ 3) (ht : t = (N : Int) + 1) :
    Calls Tryz.prog 279 #[.agg #[.int .i64 y, .slice C k cc, .slice A n c, .slice none 0 0, .int .i64 0, .int .i64 pc, .slice B m d, .int .i64 cr, .int .i64 sch, .slice B m d], .int .i64 t] w (SqPost w (sameYes P (rcs l) y (fun v => decide (famK K v = famK K cr)) N) (sameNo P (rcs l) y (fun v => decide (famK K v = famK K cr)) N) (chooseP notB (chooseP notB P (sameYes P (rcs l) y (fun v => decide (famK K v = famK K cr)) N)) (sameNo P (rcs l) y (fun v => decide (famK K v = famK K cr)) N))) := by
  have hm90 : m ≤ 90 := by have := hP.len; have := hB.len; omega
  obtain ⟨f, hf⟩ : ∃ f, famK K cr = f := ⟨_, rfl⟩
  obtain ⟨jc, hjc⟩ : ∃ jc : Nat, cr = (jc : Int) := ⟨cr.toNat, by omega⟩
  have hjK : jc < K.length := by rw [hC.len]; omega
  have hjk : (jc : Int) < (k : Int) := by omega
  have hfc : K[jc].fam = f := by rw [← hf, hjc, famK_at K jc hjK]
  have Hcc := Lib.hid (fun W (h : Below w.heap.size w W) => (hC.below h).at jc hjK)
  rw [hf]
  subst hjc
  have eg1 : ∀ args w, (callFunc 331 args).run Tryz.prog w = .ok (.enter 331 args) w := enters_of Tryz.func331 (by kernel_rfl) rfl
  have eg2 : ∀ args w, (callFunc 332 args).run Tryz.prog w = .ok (.enter 332 args) w := enters_of Tryz.func332 (by kernel_rfl) rfl
  have HK1 := Lib.hid (fun W (h : Below w.heap.size w W) (X Z : Nat) (c1 : W.cell? ⟨X, 1, none⟩ = some (.slice C k cc)) (hX : X < W.heap.size) (z0 : W.cell? ⟨Z, 0, none⟩ = some (.int .i64 f)) (hZ : Z < W.heap.size) (j : Nat) (hj : j < N) => knownTm_any A n c l C k cc B m d P y ((j + 1 : Nat) : Int) pc jc sch 331 #[.pointer (some ⟨X, 0, none⟩), .pointer (some ⟨Z, 0, none⟩)] (fun v => decide (famK K v = f)) W (hA.below h) hl hn hk (hB.below h) (by omega) hP.ins (by omega) eg1 (fun W2 v hW2 hv0 hv => by
    show Calls Tryz.prog 331 #[.int .i64 v, .pointer (some ⟨X, 0, none⟩), .pointer (some ⟨Z, 0, none⟩)] W2 _
    exact same1_any v C k cc X Z K f W2 (hC.below (h.trans (hW2.mono h.size))) ((hW2.cell (p := ⟨X, 1, none⟩) hX).trans c1) ((hW2.cell (p := ⟨Z, 0, none⟩) hZ).trans z0) hv0 hv))
  have HK2 := Lib.hid (fun W (h : Below w.heap.size w W) (X Z : Nat) (c1 : W.cell? ⟨X, 1, none⟩ = some (.slice C k cc)) (hX : X < W.heap.size) (z0 : W.cell? ⟨Z, 0, none⟩ = some (.int .i64 f)) (hZ : Z < W.heap.size) (j : Nat) (hj : j < N) => knownTm_any A n c l C k cc B m d P y ((j + 1 : Nat) : Int) pc jc sch 332 #[.pointer (some ⟨X, 0, none⟩), .pointer (some ⟨Z, 0, none⟩)] (fun v => !decide (famK K v = f)) W (hA.below h) hl hn hk (hB.below h) (by omega) hP.ins (by omega) eg2 (fun W2 v hW2 hv0 hv => by
    show Calls Tryz.prog 332 #[.int .i64 v, .pointer (some ⟨X, 0, none⟩), .pointer (some ⟨Z, 0, none⟩)] W2 _
    exact same2_any v C k cc X Z K f W2 (hC.below (h.trans (hW2.mono h.size))) ((hW2.cell (p := ⟨X, 1, none⟩) hX).trans c1) ((hW2.cell (p := ⟨Z, 0, none⟩) hZ).trans z0) hv0 hv))
  have HYr := Lib.hid (fun j => yes_rgb hl hP y (fun v => decide (famK K v = f)) j)
  have HNr := Lib.hid (fun j => no_rgb hl hP y (fun v => decide (famK K v = f)) j)
  have HQ1 := Lib.hid (fun j : Nat => hP.andB (rectsW_in hl (y - ((j + 1 : Nat) : Int)) (fun v => decide (famK K v = f))))
  have HQ2 := Lib.hid (fun j : Nat => hP.andB (rectsW_in hl (y - ((j + 1 : Nat) : Int)) (fun v => !decide (famK K v = f))))
  have HPr := Lib.hid hP
  have HBl := Lib.hid (fun W (h : Below w.heap.size w W) => hB.below h)
  have HBx := Lib.hid hBx
  have HPl := Lib.hid hB.len
  have Ht := Lib.hid ht
  clear hA hl hC hB hP eg1 eg2 hf hBx ht
  obtain ⟨YN, hYN⟩ : ∃ YN, sameYes P (rcs l) y (fun v => decide (famK K v = f)) N = YN := ⟨_, rfl⟩
  obtain ⟨NN, hNN⟩ : ∃ NN, sameNo P (rcs l) y (fun v => decide (famK K v = f)) N = NN := ⟨_, rfl⟩
  rw [hYN, hNN]
  obtain ⟨R3, hR3⟩ : ∃ R3, chooseP notB (chooseP notB P YN) NN = R3 := ⟨_, rfl⟩
  rw [hR3]
  have HYN := Lib.hid hYN
  have HNN := Lib.hid hNN
  have HR3 := Lib.hid hR3
  clear hYN hNN hR3
  go_enter Tryz.func279, Tryz.ntmps279
  go_upto_region 1 with fail
  obtain ⟨w1, hw1⟩ : ∃ w1 : World, w1 = (w.alloc (.cells #[.int .i64 y, .slice C k cc, .slice A n c, .slice none 0 0, .int .i64 0, .int .i64 pc, .slice B m d, .int .i64 (jc : Int), .int .i64 sch, .slice B m d] 163)).alloc (.cells #[.slice none 0 0, .slice none 0 0, .slice none 0 0] 166) := ⟨_, rfl⟩
  rw [← hw1]
  have hr1 : w1.heap[w.heap.size]? = some (.cells #[.int .i64 y, .slice C k cc, .slice A n c, .slice none 0 0, .int .i64 0, .int .i64 pc, .slice B m d, .int .i64 (jc : Int), .int .i64 sch, .slice B m d] 163 (0, 0)) := by rw [hw1]; exact (Below.heap_alloc _ _ _ (by simp)).trans (heap_alloc_new w _)
  have Hz1 : Hid (w1.heap[w.heap.size + 1]? = some (.cells #[.slice none 0 0, .slice none 0 0, .slice none 0 0] 166 (0, 0))) := Lib.hid (by rw [hw1]; exact heap_alloc2_new w _ _)
  have Hr1 := Lib.hid hr1
  have Hb1 : Hid (Below w.heap.size w w1) := Lib.hid (by rw [hw1]; exact gBel)
  have hs1 : w.heap.size + 1 < w1.heap.size := by rw [hw1]; simp
  obtain ⟨b, off, hCe, hbl, d0, d1, d2⟩ := Hcc.out w1 Hb1.out
  subst hCe
  rw [hfc] at d1
  have c1 := cell_of_row _ _ 1 _ _ _ hr1
  have c7 := cell_of_row _ _ 7 _ _ _ hr1
  clear hw1 hr1 d0 d2
  go_upto_region 2 with fail
  obtain ⟨w2, hw2⟩ : ∃ w2 : World, w2 = w1.alloc (.cells #[.int .i64 f] 3) := ⟨_, rfl⟩
  rw [← hw2]
  obtain ⟨Z, hZ⟩ : ∃ Z, Z = w1.heap.size := ⟨_, rfl⟩
  have Hf2 : Hid (w2.heap[Z]? = some (.cells #[.int .i64 f] 3 (0, 0))) := Lib.hid (by rw [hw2, hZ]; exact heap_alloc_new w1 _)
  have Hb12 : Hid (Below w1.heap.size w1 w2) := Lib.hid (by rw [hw2]; exact gBel)
  have hs2 : Z < w2.heap.size := by rw [hw2, hZ]; simp
  have hZw : w.heap.size + 1 < Z := by omega
  have Hr2 := Lib.hid ((Hb12.out.block w.heap.size (by omega)).trans Hr1.out)
  have Hz2 := Lib.hid ((Hb12.out.block (w.heap.size + 1) (by omega)).trans Hz1.out)
  have Hb2 := Lib.hid (Hb1.out.trans (Hb12.out.mono Hb1.out.size))
  have c9 := cell_of_row _ _ 9 _ _ _ Hr2.out
  rw [← hZ]
  clear hw2 hZ c1 c7 d1 Hr1 Hz1 Hb12
  go_upto_region 4 with fail
  clear c9
  go_loopw [6, 7, 8, 9, 10] (fun yv nv iv _ _ wr => ∃ j : Nat, j ≤ N ∧ iv = .int .i64 ((j + 1 : Nat) : Int) ∧ ((j = 0 ∧ yv = .slice B m d) ∨ (1 ≤ j ∧ wr.ownsRow (Z + 1) 68 4 yv (sameYes P (rcs l) y (fun v => decide (famK K v = f)) j).length (rCells (sameYes P (rcs l) y (fun v => decide (famK K v = f)) j)))) ∧ wr.ownsRow (Z + 1) 68 4 nv (sameNo P (rcs l) y (fun v => decide (famK K v = f)) j).length (rCells (sameNo P (rcs l) y (fun v => decide (famK K v = f)) j)) ∧ Below w.heap.size w wr ∧ wr.heap[w.heap.size]? = some (.cells #[.int .i64 y, .slice (some ⟨b, off, none⟩) k cc, .slice A n c, .slice none 0 0, .int .i64 0, .int .i64 pc, .slice B m d, .int .i64 (jc : Int), .int .i64 sch, .slice B m d] 163 (0, 0)) ∧ wr.heap[w.heap.size + 1]? = some (.cells #[.slice none 0 0, .slice none 0 0, .slice none 0 0] 166 (0, 0)) ∧ wr.heap[Z]? = some (.cells #[.int .i64 f] 3 (0, 0)) ∧ Z < wr.heap.size) (fun _ _ iv _ _ _ => 4 - (intOf iv).toNat)
  case atStart => exact ⟨0, by omega, rfl, .inl ⟨rfl, rfl⟩, by simpa [sameNo, rCells] using World.ownsRow_nil _ _ _ _, Hb2.out, Hr2.out, Hz2.out, Hf2.out, hs2⟩
  case round =>
    clear Hb2 Hr2 Hz2 Hf2
    obtain ⟨j, hj, rfl, hyv, hnv, hbw, hrr, hzr, hfr, hsr⟩ := hrel
    obtain ⟨wo, rfl⟩ : ∃ wo : World, wo = wr := ⟨_, rfl⟩
    have Hyv := Lib.hid hyv
    have Hnv := Lib.hid hnv
    have Hbw := Lib.hid hbw
    have Hrr := Lib.hid hrr
    have Hzr := Lib.hid hzr
    have Hfr := Lib.hid hfr
    obtain ⟨An, cn, rfl, _, _, _⟩ := own_slice hnv
    have HSn := Lib.hid (SlR.ofR hnv)
    clear hyv hnv hbw hrr hzr hfr
    have c0 := cell_of_row _ _ 0 _ _ _ Hrr.out
    have c1 := cell_of_row _ _ 1 _ _ _ Hrr.out
    have c2 := cell_of_row _ _ 2 _ _ _ Hrr.out
    have c3 := cell_of_row _ _ 3 _ _ _ Hrr.out
    have c4 := cell_of_row _ _ 4 _ _ _ Hrr.out
    have c5 := cell_of_row _ _ 5 _ _ _ Hrr.out
    have c6 := cell_of_row _ _ 6 _ _ _ Hrr.out
    have c7 := cell_of_row _ _ 7 _ _ _ Hrr.out
    have c8 := cell_of_row _ _ 8 _ _ _ Hrr.out
    have c9 := cell_of_row _ _ 9 _ _ _ Hrr.out
    by_cases hjN : j < N
    · have hlt : ((j + 1 : Nat) : Int) < t := by have := Ht.out; omega
      have HY : Hid (∃ q : LV, u6 = .slice q.a (sameYes P (rcs l) y (fun v => decide (famK K v = f)) j).length q.c ∧ SlR wo q.a (sameYes P (rcs l) y (fun v => decide (famK K v = f)) j).length q.c (sameYes P (rcs l) y (fun v => decide (famK K v = f)) j)) := Lib.hid (by
        rcases Hyv.out with ⟨rfl, h2⟩ | ⟨h1, h2⟩
        · have h3 := HPl.out
          have h4 := HBl.out wo Hbw.out
          refine ⟨⟨B, d⟩, ?_, ?_⟩
          · rw [h2]; show Value.slice B m d = Value.slice B P.length d; rw [h3]
          · show SlR wo B P.length d P
            rw [h3]; exact h4
        · obtain ⟨A9, c9, e9, h9⟩ := SlR.of_own h2
          exact ⟨⟨A9, c9⟩, e9, h9⟩)
      obtain ⟨q, hq, hSy⟩ := HY.out
      have HSy := Lib.hid hSy
      subst hq
      have HK1j := Lib.hid (HK1.out wo Hbw.out w.heap.size Z c1 (by omega) (cell_of_row _ _ 0 _ _ _ Hfr.out) hsr j hjN)
      have HK2j := Lib.hid (fun W (h : Below wo.heap.size wo W) => HK2.out W (Hbw.out.trans (h.mono Hbw.out.size)) w.heap.size Z ((h.cell (p := ⟨w.heap.size, 1, none⟩) (by show w.heap.size < _; omega)).trans c1) (Nat.lt_of_lt_of_le (by omega) h.size) ((h.cell (p := ⟨Z, 0, none⟩) hsr).trans (cell_of_row _ _ 0 _ _ _ Hfr.out)) (Nat.lt_of_lt_of_le hsr h.size) j hjN)
      have hy1 := (HYr.out j).len
      have hn1 := (HNr.out j).len
      have hq1 := (HQ1.out j).len
      have hq2 := (HQ2.out j).len
      have hbx := HBx.out
      have Hyp := Lib.hid (HYr.out j).ins.pos
      have Hnp := Lib.hid (HNr.out j).ins.pos
      have Hq1p := Lib.hid (HQ1.out j).ins.pos
      have Hq2p := Lib.hid (HQ2.out j).ins.pos
      have Hy' : Hid (sameYes P (rcs l) y (fun v => decide (famK K v = f)) (j + 1) = chooseP andB (sameYes P (rcs l) y (fun v => decide (famK K v = f)) j) (chooseP andB P (rectsP (rcs l) (y - ((j + 1 : Nat) : Int)) (fun v => decide (famK K v = f))))) := Lib.hid rfl
      have Hn' : Hid (sameNo P (rcs l) y (fun v => decide (famK K v = f)) (j + 1) = chooseP orB (sameNo P (rcs l) y (fun v => decide (famK K v = f)) j) (chooseP andB P (rectsP (rcs l) (y - ((j + 1 : Nat) : Int)) (fun v => !decide (famK K v = f))))) := Lib.hid rfl
      generalize sameYes P (rcs l) y (fun v => decide (famK K v = f)) j = Yj at *
      generalize sameNo P (rcs l) y (fun v => decide (famK K v = f)) j = Nj at *
      generalize chooseP andB P (rectsP (rcs l) (y - ((j + 1 : Nat) : Int)) (fun v => decide (famK K v = f))) = Q1 at *
      generalize chooseP andB P (rectsP (rcs l) (y - ((j + 1 : Nat) : Int)) (fun v => !decide (famK K v = f))) = Q2 at *
      have HC1 := Lib.hid (fun W B' m' d' (h1 : SlR W q.a Yj.length q.c Yj) (h2 : SlR W B' m' d' Q1) => choose_any q.a B' Yj.length q.c m' d' 273 #[] andB Yj Q1 W h1 h2 (by omega) (by have := h2.len; omega) Hyp.out Hq1p.out (enters_of Tryz.func273 (by kernel_rfl) rfl) (termB_fn W))
      have HC2 := Lib.hid (fun W B' m' d' (h1 : SlR W An Nj.length cn Nj) (h2 : SlR W B' m' d' Q2) => choose_any An B' Nj.length cn m' d' 274 #[] orB Nj Q2 W h1 h2 (by omega) (by have := h2.len; omega) Hnp.out Hq2p.out (enters_of Tryz.func274 (by kernel_rfl) rfl) (termE_fn W))
      generalize chooseP andB Yj Q1 = R1 at *
      generalize chooseP orB Nj Q2 = R2 at *
      go_upto_region 7 with (first
        | (go_at_call 280
           refine HK1j.out.mono ?_
           rintro e w3 ⟨v3, rfl, hown3, hb3⟩
           obtain ⟨A3, c3', rfl, hS3⟩ := SlR.of_own hown3
           have HS3 := Lib.hid hS3
           have Hb3 := Lib.hid hb3
           have hr3 := (hb3.block w.heap.size (by omega)).trans Hrr.out
           have e0 := cell_of_row _ _ 0 _ _ _ hr3
           have e1 := cell_of_row _ _ 1 _ _ _ hr3
           have e2 := cell_of_row _ _ 2 _ _ _ hr3
           have e3 := cell_of_row _ _ 3 _ _ _ hr3
           have e4 := cell_of_row _ _ 4 _ _ _ hr3
           have e5 := cell_of_row _ _ 5 _ _ _ hr3
           have e6 := cell_of_row _ _ 6 _ _ _ hr3
           have e7 := cell_of_row _ _ 7 _ _ _ hr3
           have e8 := cell_of_row _ _ 8 _ _ _ hr3
           have e9 := cell_of_row _ _ 9 _ _ _ hr3
           clear hown3 hb3 hS3 hr3 c0 c1 c2 c3 c4 c5 c6 c7 c8 c9)
        | fail)
      go_upto_region 8 with (first
        | (go_at_call 280
           refine (HK2j.out _ Hb3.out).mono ?_
           rintro e w4 ⟨v4, rfl, hown4, hb4⟩
           obtain ⟨A4, c4', rfl, hS4⟩ := SlR.of_own hown4
           have HS4 := Lib.hid hS4
           have HS34 := Lib.hid (HS3.out.below hb4)
           have Hb4 := Lib.hid (Hb3.out.trans (hb4.mono Hb3.out.size))
           clear hown4 hb4 hS4 e0 e1 e2 e3 e4 e5 e6 e7 e8 e9)
        | fail)
      go_wp2_with (first
        | (go_at_call_of 54 (Value.slice A3 Q1.length c3')
           refine (HC1.out _ _ _ _ (HSy.out.below Hb4.out) HS34.out).mono ?_
           rintro e w5 ⟨v5, rfl, hown5, hb5⟩
           have Hown5 := Lib.hid hown5
           have HS45 := Lib.hid (HS4.out.below hb5)
           have Hb45 := Lib.hid hb5
           have Hb5 := Lib.hid (Hb4.out.trans (hb5.mono Hb4.out.size))
           clear hown5 hb5)
        | (go_at_call 54
           refine (HC2.out _ _ _ _ (HSn.out.below Hb5.out) HS45.out).mono ?_
           rintro e w6 ⟨v6, rfl, hown6, hb6⟩
           have Hown6 := Lib.hid hown6
           have Hb56 := Lib.hid hb6
           have Hb6 := Lib.hid (Hb5.out.trans (hb6.mono Hb5.out.size))
           clear hown6 hb6)
        | fail)
      have hs4 := Hb4.out.size
      have hs5 := Hb5.out.size
      go_roundw
      case rel => exact ⟨j + 1, by omega, by go_num, .inr ⟨by omega, by rw [Hy'.out]; exact ownsRow_below (own_rebase Hown5.out (by omega)) Hb56.out⟩, by rw [Hn'.out]; exact own_rebase Hown6.out (by omega), Hbw.out.trans (Hb6.out.mono Hbw.out.size), (Hb6.out.block w.heap.size (by omega)).trans Hrr.out, (Hb6.out.block (w.heap.size + 1) (by omega)).trans Hzr.out, (Hb6.out.block Z hsr).trans Hfr.out, Nat.lt_of_lt_of_le hsr Hb6.out.size⟩
      case measure => simp [intOf]; omega
    · have hlt : ¬ ((j + 1 : Nat) : Int) < t := by have := Ht.out; omega
      obtain rfl : j = N := by omega
      have h0 := (Hyv.out.resolve_left (fun h => by omega)).2
      rw [HYN.out] at h0
      have Hy2 := Lib.hid h0
      obtain ⟨Ay, cy, hye, _, _, _⟩ := own_slice h0
      subst hye
      have h1 := Hnv.out
      rw [HNN.out] at h1
      have Hnv2 := Lib.hid h1
      rw [HNN.out]
      have HSy := Lib.hid (SlR.ofR h0)
      have HSn2 := Lib.hid (SlR.ofR h1)
      have hbx := HBx.out
      have hYr := HYr.out j
      have hNr := HNr.out j
      rw [HYN.out] at hYr
      rw [HNN.out] at hNr
      have hy1 := hYr.len
      have hn1 := hNr.len
      have hrs := restTm_any A n c (some ⟨b, off, none⟩) k cc B m d P y pc jc sch Bx Ay _ cy _ An _ cn _ wo (HBl.out wo Hbw.out) (by omega) HPr.out hbx HSy.out (by omega) hYr HSn2.out (by omega) hNr
      rw [HR3.out] at hrs
      have HRs := Lib.hid hrs
      clear h0 h1 hYr hNr hrs
      go_wp2_with (first
        | (go_at_call 275
           refine HRs.out.mono ?_
           rintro e w4 ⟨v4, rfl, hown4, hb4⟩
           obtain ⟨A4, c4', rfl, _, _, _⟩ := own_slice hown4
           have Hown4 := Lib.hid (own_rebase (base' := Z + 1) hown4 (by omega))
           have Hoy := Lib.hid (ownsRow_below Hy2.out hb4)
           have Hon := Lib.hid (ownsRow_below Hnv2.out hb4)
           have hz4 := (hb4.block (w.heap.size + 1) (by omega)).trans Hzr.out
           have Hz4 := Lib.hid hz4
           have z0 := cell_of_row _ _ 0 _ _ _ hz4
           have z1 := cell_of_row _ _ 1 _ _ _ hz4
           have z2 := cell_of_row _ _ 2 _ _ _ hz4
           have g0 := frozen_of_row _ _ 0 _ _ hz4
           have g1 := frozen_of_row _ _ 1 _ _ hz4
           have g2 := frozen_of_row _ _ 2 _ _ hz4
           have Hb4 := Lib.hid (Hbw.out.trans (hb4.mono Hbw.out.size))
           clear hown4 hb4 hz4 c0 c1 c2 c3 c4 c5 c6 c7 c8 c9)
        | fail)
      have hz5 := sq3 (x := .slice Ay YN.length cy) (y := .slice An NN.length cn) (z := .slice A4 R3.length c4') Hz4.out
      have y0 := cell_of_row _ _ 0 _ _ _ hz5
      have y1 := cell_of_row _ _ 1 _ _ _ hz5
      have y2 := cell_of_row _ _ 2 _ _ _ hz5
      refine bodyPost_ret (v := .agg #[.slice Ay YN.length cy, .slice An NN.length cn, .slice A4 R3.length c4']) (by simp only [results, Tryz.results279, go_sem, y0, y1, y2]; first | rfl | simp [go_sem, *]) rfl ?_
      exact ⟨⟨Ay, cy⟩, ⟨An, cn⟩, ⟨A4, c4'⟩, rfl, own_rebase (own_other Hoy.out sq3_only (fun k hk e => by injection e with e; have := own_base Hoy.out k hk; omega)) (by omega), own_rebase (own_other Hon.out sq3_only (fun k hk e => by injection e with e; have := own_base Hon.out k hk; omega)) (by omega), own_rebase (own_other Hown4.out sq3_only (fun k hk e => by injection e with e; have := own_base Hown4.out k hk; omega)) (by omega), sq3_below Hb4.out (by omega)⟩
theorem atomSm_any (A : Option Addr) (n c : Nat) (C : Option Addr) (k cc : Nat) (B : Option Addr) (m d : Nat) (y pc cr sch t : Int) (Q1 Q2 Q3 : List R4) (w : World) (HQ : ∀ W, Below w.heap.size w W → Calls Tryz.prog 279 #[.agg #[.int .i64 y, .slice C k cc, .slice A n c, .slice none 0 0, .int .i64 0, .int .i64 pc, .slice B m d, .int .i64 cr, .int .i64 sch, .slice B m d], .int .i64 t] W (SqPost W Q1 Q2 Q3)) :
    Calls Tryz.prog 207 #[.agg #[.int .i64 y, .slice C k cc, .slice A n c, .slice none 0 0, .int .i64 0, .int .i64 pc, .slice B m d, .int .i64 cr, .int .i64 sch, .slice B m d], sameV t] w (SqPost w Q1 Q2 Q3) := by
  have HAt := Lib.hid HQ
  clear HQ
  go_enter Tryz.func207, Tryz.ntmps207
  go_upto_region 1 with fail
  obtain ⟨w1, hw1⟩ : ∃ w1 : World, w1 = ((w.alloc (.cells #[.int .i64 y, .slice C k cc, .slice A n c, .slice none 0 0, .int .i64 0, .int .i64 pc, .slice B m d, .int .i64 cr, .int .i64 sch, .slice B m d] 163)).alloc (.cells #[.int .i64 6, .int .i64 t, .int .i64 0, .slice none 0 0] 84)).alloc (.cells #[.slice none 0 0, .slice none 0 0, .slice none 0 0] 166) := ⟨_, rfl⟩
  rw [← hw1]
  have hr1 : w1.heap[w.heap.size]? = some (.cells #[.int .i64 y, .slice C k cc, .slice A n c, .slice none 0 0, .int .i64 0, .int .i64 pc, .slice B m d, .int .i64 cr, .int .i64 sch, .slice B m d] 163 (0, 0)) := by rw [hw1]; exact (Below.heap_alloc _ _ _ (by simp; omega)).trans ((Below.heap_alloc _ _ _ (by simp)).trans (heap_alloc_new w _))
  have hq1 : w1.heap[w.heap.size + 1]? = some (.cells #[.int .i64 6, .int .i64 t, .int .i64 0, .slice none 0 0] 84 (0, 0)) := by rw [hw1]; exact (Below.heap_alloc _ _ _ (by simp)).trans (heap_alloc2_new w _ _)
  have Hz1 : Hid (w1.heap[w.heap.size + 1 + 1]? = some (.cells #[.slice none 0 0, .slice none 0 0, .slice none 0 0] 166 (0, 0))) := Lib.hid (by rw [hw1]; have h3 := heap_alloc_new ((w.alloc (.cells #[.int .i64 y, .slice C k cc, .slice A n c, .slice none 0 0, .int .i64 0, .int .i64 pc, .slice B m d, .int .i64 cr, .int .i64 sch, .slice B m d] 163)).alloc (.cells #[.int .i64 6, .int .i64 t, .int .i64 0, .slice none 0 0] 84)) (.cells #[.slice none 0 0, .slice none 0 0, .slice none 0 0] 166); simpa using h3)
  have Hb1 : Hid (Below w.heap.size w w1) := Lib.hid (by rw [hw1]; exact gBel)
  have hs1 : w.heap.size + 1 + 1 < w1.heap.size := by rw [hw1]; simp
  have c0 := cell_of_row _ _ 0 _ _ _ hr1; have c1 := cell_of_row _ _ 1 _ _ _ hr1; have c2 := cell_of_row _ _ 2 _ _ _ hr1; have c3 := cell_of_row _ _ 3 _ _ _ hr1; have c4 := cell_of_row _ _ 4 _ _ _ hr1; have c5 := cell_of_row _ _ 5 _ _ _ hr1; have c6 := cell_of_row _ _ 6 _ _ _ hr1; have c7 := cell_of_row _ _ 7 _ _ _ hr1; have c8 := cell_of_row _ _ 8 _ _ _ hr1; have c9 := cell_of_row _ _ 9 _ _ _ hr1
  have q0 := cell_of_row _ _ 0 _ _ _ hq1; have q1 := cell_of_row _ _ 1 _ _ _ hq1; have q2 := cell_of_row _ _ 2 _ _ _ hq1; have q3 := cell_of_row _ _ 3 _ _ _ hq1
  clear hw1 hr1 hq1
  go_wp2_with (first
    | (go_at_call 279
       refine (HAt.out _ Hb1.out).mono ?_
       rintro e w2 ⟨v1, v2, v3, rfl, hown1, hown2, hown3, hb2⟩
       have Hown1 := Lib.hid (own_rebase (base' := w.heap.size + 1 + 1 + 1) hown1 (by omega))
       have Hown2 := Lib.hid (own_rebase (base' := w.heap.size + 1 + 1 + 1) hown2 (by omega))
       have Hown3 := Lib.hid (own_rebase (base' := w.heap.size + 1 + 1 + 1) hown3 (by omega))
       have hz2 := (hb2.block (w.heap.size + 1 + 1) hs1).trans Hz1.out
       have Hz2 := Lib.hid hz2
       have z0 := cell_of_row _ _ 0 _ _ _ hz2
       have z1 := cell_of_row _ _ 1 _ _ _ hz2
       have z2 := cell_of_row _ _ 2 _ _ _ hz2
       have g0 := frozen_of_row _ _ 0 _ _ hz2
       have g1 := frozen_of_row _ _ 1 _ _ hz2
       have g2 := frozen_of_row _ _ 2 _ _ hz2
       have Hb2 := Lib.hid (Hb1.out.trans (hb2.mono Hb1.out.size))
       clear hown1 hown2 hown3 hb2 hz2 c0 c1 c2 c3 c4 c5 c6 c7 c8 c9 q0 q1 q2 q3)
    | fail)
  have hz5 := sq3 (x := .slice v1.a Q1.length v1.c) (y := .slice v2.a Q2.length v2.c) (z := .slice v3.a Q3.length v3.c) Hz2.out
  have y0 := cell_of_row _ _ 0 _ _ _ hz5
  have y1 := cell_of_row _ _ 1 _ _ _ hz5
  have y2 := cell_of_row _ _ 2 _ _ _ hz5
  refine bodyPost_ret (v := .agg #[.slice v1.a Q1.length v1.c, .slice v2.a Q2.length v2.c, .slice v3.a Q3.length v3.c]) (by simp only [results, Tryz.results207, go_sem, y0, y1, y2]; first | rfl | simp [go_sem, *]) rfl ?_
  exact ⟨v1, v2, v3, rfl, own_rebase (own_other Hown1.out sq3_only (fun k hk e => by injection e with e; have := own_base Hown1.out k hk; omega)) (by omega), own_rebase (own_other Hown2.out sq3_only (fun k hk e => by injection e with e; have := own_base Hown2.out k hk; omega)) (by omega), own_rebase (own_other Hown3.out sq3_only (fun k hk e => by injection e with e; have := own_base Hown3.out k hk; omega)) (by omega), sq3_below Hb2.out (by omega)⟩
theorem evalPl_any (A : Option Addr) (n c : Nat) (C : Option Addr) (k cc : Nat) (B : Option Addr) (m d : Nat) (y pc cr sch t : Int) (Q1 Q2 Q3 : List R4) (w : World) (HQ : ∀ W, Below w.heap.size w W → Calls Tryz.prog 207 #[.agg #[.int .i64 y, .slice C k cc, .slice A n c, .slice none 0 0, .int .i64 0, .int .i64 pc, .slice B m d, .int .i64 cr, .int .i64 sch, .slice B m d], sameV t] W (SqPost W Q1 Q2 Q3)) :
    Calls Tryz.prog 107 #[.agg #[.int .i64 y, .slice C k cc, .slice A n c, .slice none 0 0, .int .i64 0, .int .i64 pc, .slice B m d, .int .i64 cr, .int .i64 sch, .slice B m d], sameV t] w (SqPost w Q1 Q2 Q3) := by
  have HAt := Lib.hid HQ
  clear HQ
  go_enter Tryz.func107, Tryz.ntmps107
  go_upto_region 1 with fail
  obtain ⟨w1, hw1⟩ : ∃ w1 : World, w1 = ((w.alloc (.cells #[.int .i64 y, .slice C k cc, .slice A n c, .slice none 0 0, .int .i64 0, .int .i64 pc, .slice B m d, .int .i64 cr, .int .i64 sch, .slice B m d] 163)).alloc (.cells #[.int .i64 6, .int .i64 t, .int .i64 0, .slice none 0 0] 84)).alloc (.cells #[.slice none 0 0, .slice none 0 0, .slice none 0 0] 166) := ⟨_, rfl⟩
  rw [← hw1]
  have hr1 : w1.heap[w.heap.size]? = some (.cells #[.int .i64 y, .slice C k cc, .slice A n c, .slice none 0 0, .int .i64 0, .int .i64 pc, .slice B m d, .int .i64 cr, .int .i64 sch, .slice B m d] 163 (0, 0)) := by rw [hw1]; exact (Below.heap_alloc _ _ _ (by simp; omega)).trans ((Below.heap_alloc _ _ _ (by simp)).trans (heap_alloc_new w _))
  have hq1 : w1.heap[w.heap.size + 1]? = some (.cells #[.int .i64 6, .int .i64 t, .int .i64 0, .slice none 0 0] 84 (0, 0)) := by rw [hw1]; exact (Below.heap_alloc _ _ _ (by simp)).trans (heap_alloc2_new w _ _)
  have Hz1 : Hid (w1.heap[w.heap.size + 1 + 1]? = some (.cells #[.slice none 0 0, .slice none 0 0, .slice none 0 0] 166 (0, 0))) := Lib.hid (by rw [hw1]; have h3 := heap_alloc_new ((w.alloc (.cells #[.int .i64 y, .slice C k cc, .slice A n c, .slice none 0 0, .int .i64 0, .int .i64 pc, .slice B m d, .int .i64 cr, .int .i64 sch, .slice B m d] 163)).alloc (.cells #[.int .i64 6, .int .i64 t, .int .i64 0, .slice none 0 0] 84)) (.cells #[.slice none 0 0, .slice none 0 0, .slice none 0 0] 166); simpa using h3)
  have Hb1 : Hid (Below w.heap.size w w1) := Lib.hid (by rw [hw1]; exact gBel)
  have hs1 : w.heap.size + 1 + 1 < w1.heap.size := by rw [hw1]; simp
  have c0 := cell_of_row _ _ 0 _ _ _ hr1; have c1 := cell_of_row _ _ 1 _ _ _ hr1; have c2 := cell_of_row _ _ 2 _ _ _ hr1; have c3 := cell_of_row _ _ 3 _ _ _ hr1; have c4 := cell_of_row _ _ 4 _ _ _ hr1; have c5 := cell_of_row _ _ 5 _ _ _ hr1; have c6 := cell_of_row _ _ 6 _ _ _ hr1; have c7 := cell_of_row _ _ 7 _ _ _ hr1; have c8 := cell_of_row _ _ 8 _ _ _ hr1; have c9 := cell_of_row _ _ 9 _ _ _ hr1
  have q0 := cell_of_row _ _ 0 _ _ _ hq1; have q1 := cell_of_row _ _ 1 _ _ _ hq1; have q2 := cell_of_row _ _ 2 _ _ _ hq1; have q3 := cell_of_row _ _ 3 _ _ _ hq1
  clear hw1 hr1 hq1
  go_upto_region 3 with fail
  go_loopw [5, 7, 8, 12] (fun lv _ _ iv wr => lv = .slice none 0 0 ∧ iv = .int .i64 0 ∧ wr = w1) (fun _ _ _ _ _ => 0)
  case atStart => exact ⟨rfl, rfl, rfl⟩
  case round =>
    obtain ⟨rfl, rfl, rfl⟩ := hrel
    go_wp2_with (first
      | (go_at_call 207
         refine (HAt.out _ Hb1.out).mono ?_
         rintro e w2 ⟨v1, v2, v3, rfl, hown1, hown2, hown3, hb2⟩
         have Hown1 := Lib.hid (own_rebase (base' := w.heap.size + 1 + 1 + 1) hown1 (by omega))
         have Hown2 := Lib.hid (own_rebase (base' := w.heap.size + 1 + 1 + 1) hown2 (by omega))
         have Hown3 := Lib.hid (own_rebase (base' := w.heap.size + 1 + 1 + 1) hown3 (by omega))
         have hz2 := (hb2.block (w.heap.size + 1 + 1) hs1).trans Hz1.out
         have Hz2 := Lib.hid hz2
         have z0 := cell_of_row _ _ 0 _ _ _ hz2
         have z1 := cell_of_row _ _ 1 _ _ _ hz2
         have z2 := cell_of_row _ _ 2 _ _ _ hz2
         have g0 := frozen_of_row _ _ 0 _ _ hz2
         have g1 := frozen_of_row _ _ 1 _ _ hz2
         have g2 := frozen_of_row _ _ 2 _ _ hz2
         have Hb2 := Lib.hid (Hb1.out.trans (hb2.mono Hb1.out.size))
         clear hown1 hown2 hown3 hb2 hz2 c0 c1 c2 c3 c4 c5 c6 c7 c8 c9 q0 q1 q2 q3)
      | fail)
    have hz5 := sq3 (x := .slice v1.a Q1.length v1.c) (y := .slice v2.a Q2.length v2.c) (z := .slice v3.a Q3.length v3.c) Hz2.out
    have y0 := cell_of_row _ _ 0 _ _ _ hz5
    have y1 := cell_of_row _ _ 1 _ _ _ hz5
    have y2 := cell_of_row _ _ 2 _ _ _ hz5
    refine bodyPost_ret (v := .agg #[.slice v1.a Q1.length v1.c, .slice v2.a Q2.length v2.c, .slice v3.a Q3.length v3.c]) (by simp only [results, Tryz.results107, go_sem, y0, y1, y2]; first | rfl | simp [go_sem, *]) rfl ?_
    exact ⟨v1, v2, v3, rfl, own_rebase (own_other Hown1.out sq3_only (fun k hk e => by injection e with e; have := own_base Hown1.out k hk; omega)) (by omega), own_rebase (own_other Hown2.out sq3_only (fun k hk e => by injection e with e; have := own_base Hown2.out k hk; omega)) (by omega), own_rebase (own_other Hown3.out sq3_only (fun k hk e => by injection e with e; have := own_base Hown3.out k hk; omega)) (by omega), sq3_below Hb2.out (by omega)⟩
theorem ofTm_any (B : Option Addr) (m d : Nat) (P : List R4) (w : World) (hB : SlR w B m d P) (hm : m ≤ 1000000) :
    Calls Tryz.prog 108 #[.slice B m d] w fun e w' => ∃ v : LV, e = .returned (.agg #[.slice v.a m v.c]) ∧ w'.ownsRow w.heap.size 68 4 (.slice v.a m v.c) m (rCells P) ∧ Below w.heap.size w w' := by
  have HC := Lib.hid (fun W (h : Below w.heap.size w W) => cloneR_any B m d P W (hB.below h) hm)
  clear hB
  go_enter Tryz.func108, Tryz.ntmps108
  go_upto_region 1 with fail
  obtain ⟨w1, hw1⟩ : ∃ w1 : World, w1 = w.alloc (.cells #[.slice none 0 0] 33) := ⟨_, rfl⟩
  rw [← hw1]
  have Hz1 : Hid (w1.heap[w.heap.size]? = some (.cells #[.slice none 0 0] 33 (0, 0))) := Lib.hid (by rw [hw1]; exact heap_alloc_new w _)
  have Hb1 : Hid (Below w.heap.size w w1) := Lib.hid (by rw [hw1]; exact gBel)
  have hs1 : w.heap.size < w1.heap.size := by rw [hw1]; simp
  clear hw1
  go_wp2_with (first
    | (go_at_call 109
       refine (HC.out _ Hb1.out).mono ?_
       rintro e w4 ⟨v4, rfl, hown4, hb4⟩
       obtain ⟨A4, c4, rfl, _, _, _⟩ := own_slice hown4
       have Hown4 := Lib.hid (own_rebase (base' := w.heap.size + 1) hown4 (by omega))
       have hz4 := (hb4.block w.heap.size (by omega)).trans Hz1.out
       have Hb4 := Lib.hid (Hb1.out.trans (hb4.mono (by omega)))
       have z0 := cell_of_row _ _ 0 _ _ _ hz4
       have f0 := frozen_of_row _ _ 0 _ _ hz4
       have csame : (w4.setCell ⟨w.heap.size, 0, none⟩ (.slice A4 m c4)).cell? ⟨w.heap.size, 0, none⟩ = some (.slice A4 m c4) := by
         rw [cell_of_row _ w.heap.size 0 _ _ _ (heap_setCell_same w4 w.heap.size 0 _ _ _ hz4)]
         simp
       clear hown4 hb4 hz4)
    | fail)
  refine bodyPost_ret (v := .agg #[.slice A4 m c4]) (by simp [results, Tryz.results108, go_sem, *]) rfl ?_
  exact ⟨⟨A4, c4⟩, rfl, own_rebase (own_other Hown4.out (only_setCell (g := w.heap.size) (World.grownBy.refl _ _) (.inl rfl) _) (fun k hk e => by injection e with e; have := own_base Hown4.out k hk; omega)) (by omega), Hb4.out.setCell (Nat.le_refl _) _⟩
end Go.Proofs.YtfmkmhhghmdakaaGreatDoor
