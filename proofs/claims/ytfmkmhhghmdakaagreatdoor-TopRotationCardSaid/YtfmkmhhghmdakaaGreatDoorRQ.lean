import Derived.Test.YtfmkmhhghmdakaaGreatDoorRI
import Derived.Test.YtfmkmhhghmdakaaGreatDoorRP
namespace Go.Proofs.YtfmkmhhghmdakaaGreatDoor
open Go.RowKit Go.Shelf
set_option linter.unusedVariables false
set_option linter.unusedSimpArgs false
set_option maxHeartbeats 64000000
set_option maxRecDepth 100000
def CropFnW (nc : Int) (f : Nat) (la lb : Array Value) (p : Int → Bool) (w : World) : Prop :=
  ∀ W (c : Int), Below w.heap.size w W → 0 ≤ c → c < nc → Calls Tryz.prog f (la ++ #[.int .i64 c] ++ lb) W fun e w' => e = .returned (.bool (p c)) ∧ Below W.heap.size W w'
theorem CropFnW.below {nc : Int} {f : Nat} {la lb : Array Value} {p : Int → Bool} {w w' : World} (h : CropFnW nc f la lb p w) (hb : Below w.heap.size w w') : CropFnW nc f la lb p w' := fun W c hW => h W c (hb.trans (hW.mono hb.size))
theorem rects_leB (b : Nat) (y : Int) (p : Int → Bool) : ∀ {l : List Rc}, (∀ x ∈ l, x.rg.length ≤ b) → (rectsP l y p).length ≤ b * l.length
  | [], _ => Nat.zero_le _
  | x :: t, h => by
    have h1 := rects_leB b y p (l := t) fun z hz => h z (List.mem_cons_of_mem _ hz)
    have h2 := h x (by simp)
    have e : rectsP (x :: t) y p = (if x.yr = y ∧ p x.cr = true then x.rg else []) ++ rectsP t y p := by simp [rectsP]
    rw [e, List.length_append, List.length_cons, Nat.mul_succ]
    split <;> (try simp only [List.length_nil]) <;> omega
def famK (K : List Cp) (c : Int) : Int := match K[c.toNat]? with | some x => x.fam | none => 0
theorem famK_at (K : List Cp) (j : Nat) (h : j < K.length) : famK K (j : Int) = K[j].fam := by
  unfold famK
  rw [Int.toNat_natCast, List.getElem?_eq_getElem h]
theorem famK_bd {K : List Cp} (hK : cropsB K) (c : Int) (h0 : 0 ≤ c) (h : c < (K.length : Int)) : 0 ≤ famK K c ∧ famK K c ≤ 40 := by
  obtain ⟨j, rfl⟩ : ∃ j : Nat, c = (j : Int) := ⟨c.toNat, by omega⟩
  rw [famK_at K j (by omega)]
  exact (hK.2.1 _ (List.getElem_mem _)).2.1
theorem rectsW_any (A : Option Addr) (n c : Nat) (l : RcL) (y : Int) (f : Nat) (la lb : Array Value) (p : Int → Bool) (w : World) (hA : SlRc w A n c l) (nc : Int) (hl : HyW nc (rcs l)) (hn : n ≤ 100)
    (eg : ∀ args w, (callFunc f args).run Tryz.prog w = .ok (.enter f args) w) (hp : CropFnW nc f la lb p w) :
    Calls Tryz.prog 100 #[.slice A n c, .int .i64 y, .func (.func f) la lb] w fun e w' => ∃ v, e = .returned v ∧ w'.ownsRow w.heap.size 68 4 v (rectsP (rcs l) y p).length (rCells (rectsP (rcs l) y p)) ∧ Below w.heap.size w w' := by
  obtain ⟨i0, hi, hz0, hz1, hz2⟩ := info_parts Tryz.infoRect
  have HA := Lib.hid hA
  have HL := Lib.hid hl
  have Hln := Lib.hid hA.len
  have HP := Lib.hid hp
  clear hA hl hp
  go_enter Tryz.func100, Tryz.ntmps100
  go_upto_region 3 with fail
  go_loopw [7, 9, 12] (fun lv _ iv wr => ∃ k : Nat, k ≤ n ∧ iv = .int .i64 (k : Int) ∧ wr.ownsRow w.heap.size 68 4 lv (rectsP ((rcs l).take k) y p).length (rCells (rectsP ((rcs l).take k) y p)) ∧ Below w.heap.size w wr) (fun _ _ iv _ => n - (intOf iv).toNat)
  case atStart => exact ⟨0, Nat.zero_le _, rfl, World.ownsRow_nil _ _ _ _, Below.refl _ _⟩
  case round =>
    obtain ⟨k, hk, rfl, hown, hbw⟩ := hrel
    obtain ⟨wo, rfl⟩ : ∃ wo : World, wo = wr := ⟨_, rfl⟩
    have Hown := Lib.hid hown
    have Hbw := Lib.hid hbw
    have hsw := hbw.size
    clear hown hbw
    by_cases hkn : k < n
    · have hkn' : (k : Int) < (n : Int) := by omega
      have hkl : k < l.length := by rw [Hln.out]; exact hkn
      obtain ⟨b, off, rfl, hbl, c0, c1, c2, hS⟩ := (HA.out.below Hbw.out).at k hkl
      have hmem : l[k].1 ∈ rcs l := List.mem_map_of_mem (List.getElem_mem hkl)
      have hc0 := (HL.out.hy.ok l[k].1 hmem).cr.1
      have hc3 := HL.out.cr l[k].1 hmem
      have hrl : l[k].1.rg.length ≤ 90 := HL.out.len90 hmem
      have Hs := Lib.hid (rects_take (rcs l) y p k (by rw [rcs_len]; exact hkl))
      rw [rcs_get l k hkl] at Hs
      have hPl : (rectsP ((rcs l).take k) y p).length ≤ 90 * 100 := by
        refine Nat.le_trans (rects_leB 90 y p fun x hx => HL.out.len90 (List.mem_of_mem_take hx)) (Nat.mul_le_mul_left _ ?_)
        rw [List.length_take]; omega
      obtain ⟨x, hx⟩ : ∃ x, x = l[k] := ⟨_, rfl⟩
      rw [← hx] at c0 c1 c2 hS hrl hc0 hc3 Hs
      have HS := Lib.hid hS
      have HO := Lib.hid (fun W (h : Below w.heap.size w W) => HP.out W x.1.cr h hc0 hc3)
      obtain ⟨Y, hY⟩ : ∃ Y, x.1.yr = Y := ⟨_, rfl⟩
      obtain ⟨b2, hb2⟩ : ∃ b2, p x.1.cr = b2 := ⟨_, rfl⟩
      rw [hY, hb2] at Hs
      rw [hY] at c0
      simp only [hb2] at HO
      generalize rectsP ((rcs l).take k) y p = P at *
      clear hS hx hmem hc0 hc3 hY hb2
      go_upto_region 5 with fail
      obtain ⟨w1, hw1⟩ : ∃ w1 : World, w1 = wo.alloc (.cells #[.int .i64 Y, .int .i64 x.1.cr, .slice x.2.a x.1.rg.length x.2.c] 172) := ⟨_, rfl⟩
      rw [← hw1]
      have hr1 : w1.heap[wo.heap.size]? = some (.cells #[.int .i64 Y, .int .i64 x.1.cr, .slice x.2.a x.1.rg.length x.2.c] 172 (0, 0)) := by rw [hw1]; exact heap_alloc_new wo _
      have Hr1 := Lib.hid hr1
      have Hb1 : Hid (Below wo.heap.size wo w1) := Lib.hid (by rw [hw1]; exact gBel)
      have hs1 : wo.heap.size < w1.heap.size := by rw [hw1]; simp
      have d0 := cell_of_row _ _ 0 _ _ _ hr1
      have d1 := cell_of_row _ _ 1 _ _ _ hr1
      have d2 := cell_of_row _ _ 2 _ _ _ hr1
      clear hw1 hr1 c0 c1 c2
      by_cases hyr : Y = y
      · have hyd : (Y == y) = true := by simp [hyr]
        have hyi : decide (Y = y) = true := decide_eq_true hyr
        have Hyr := Lib.hid hyr
        clear hyr
        cases b2 with
        | false =>
          go_wp2_with (first
            | (go_at_fn f
               refine (HO.out _ (Hbw.out.trans (Hb1.out.mono hsw))).mono ?_
               rintro e w3 ⟨rfl, hb3⟩
               have Hb3 := Lib.hid (Hb1.out.trans (hb3.mono (by omega)))
               clear hb3)
            | fail)
          go_roundw
          case rel => exact ⟨k + 1, by omega, by go_num, by rw [Hs.out, if_neg (fun h => by cases h.2), List.append_nil]; exact ownsRow_below Hown.out Hb3.out, Hbw.out.trans (Hb3.out.mono hsw)⟩
          case measure => simp [intOf]; omega
        | true =>
          go_wp2_with (first
            | (go_at_fn f
               refine (HO.out _ (Hbw.out.trans (Hb1.out.mono hsw))).mono ?_
               rintro e w3 ⟨rfl, hb3⟩
               have hr3 := (hb3.block wo.heap.size hs1).trans Hr1.out
               have Hb3 := Lib.hid (Hb1.out.trans (hb3.mono (by omega)))
               have hs3 : wo.heap.size ≤ w3.heap.size := Nat.le_trans (Nat.le_of_lt hs1) hb3.size
               have g2 := cell_of_row _ _ 2 _ _ _ hr3
               clear hb3 hr3 d0 d1 d2)
            | (at_builtin
               go_loud (refine wpList_append_any _ rfl (.tmp 26) (.tmp 29) _ rfl w.heap.size 68 i0 _ 4 32 Tryz.underlying31 hi hz0 hz1 hz2 rfl (by omega) _ P.length (rCells P) rfl (ownsRow_below Hown.out Hb3.out) wo.heap.size x.2.a x.1.rg.length x.2.c (rCells x.1.rg) rfl (HS.out.rd4.below Hb3.out) (rCells_one _) (by simp only [maxLen]; omega) (by omega) (Nat.le_trans hsw hs3) ?_)
               intro v5 w5 hown5 hg5 hat5
               have Hown5 := Lib.hid hown5
               have Hb5 := Lib.hid ((Hbw.out.trans (Hb3.out.mono hsw)).grown hg5 (Nat.le_trans hsw hs3) (own_base (ownsRow_below Hown.out Hb3.out)))
               clear hown5 hg5 hat5)
            | fail)
          go_roundw
          case rel => exact ⟨k + 1, by omega, by go_num, by rw [Hs.out, if_pos (by simp [Hyr.out]), List.length_append, rCells_app]; exact Hown5.out, Hb5.out⟩
          case measure => simp [intOf]; omega
      · have hyd : (Y == y) = false := by simp [hyr]
        have hyi : decide (Y = y) = false := decide_eq_false hyr
        have Hyr := Lib.hid hyr
        clear hyr
        go_wp2
        go_roundw
        case rel => exact ⟨k + 1, by omega, by go_num, by rw [Hs.out, if_neg (fun h => Hyr.out h.1), List.append_nil]; exact ownsRow_below Hown.out Hb1.out, Hbw.out.trans (Hb1.out.mono hsw)⟩
        case measure => simp [intOf]; omega
    · have hkn' : ¬ (k : Int) < (n : Int) := by omega
      have Hend : Hid ((rcs l).take k = rcs l) := Lib.hid (List.take_of_length_le (by rw [rcs_len, Hln.out]; omega))
      rw [Hend.out] at Hown
      go_wp2
      go_ret
      exact ⟨_, rfl, Hown.out, Hbw.out⟩
theorem listed1W_any (x : Rc) (v : LV) (C : Option Addr) (k cc g : Nat) (w : World) (hc : x.cr < (k : Int)) (hg : w.cell? ⟨g, 0, none⟩ = some (.slice C k cc)) (hgl : g < w.heap.size) :
    Calls Tryz.prog 201 #[.agg #[.int .i64 x.yr, .int .i64 x.cr, .slice v.a x.rg.length v.c], .pointer (some ⟨g, 0, none⟩)] w fun e w' => e = .returned (.bool false) ∧ Below w.heap.size w w' := by
  have h3 : ¬ (k : Int) ≤ x.cr := by omega
  have Hg := Lib.hid hg
  clear hg
  go_enter Tryz.func201, Tryz.ntmps201
  go_upto_region 1 with fail
  obtain ⟨w1, hw1⟩ : ∃ w1 : World, w1 = w.alloc (.cells #[.int .i64 x.yr, .int .i64 x.cr, .slice v.a x.rg.length v.c] 172) := ⟨_, rfl⟩
  rw [← hw1]
  have hr1 : w1.heap[w.heap.size]? = some (.cells #[.int .i64 x.yr, .int .i64 x.cr, .slice v.a x.rg.length v.c] 172 (0, 0)) := by rw [hw1]; exact heap_alloc_new w _
  have Hb1 : Hid (Below w.heap.size w w1) := Lib.hid (by rw [hw1]; exact gBel)
  have hg1 := (Hb1.out.cell (p := ⟨g, 0, none⟩) hgl).trans Hg.out
  have d1 := cell_of_row _ _ 1 _ _ _ hr1
  clear hw1 hr1
  go_wp2
  go_ret
  exact ⟨rfl, Hb1.out⟩
theorem listedW_any (A : Option Addr) (n c : Nat) (l : RcL) (C : Option Addr) (k cc : Nat) (K : List Cp) (w : World) (hA : SlRc w A n c l) (hl : HyW (k : Int) (rcs l)) (hC : SlC w C k cc K) (hK : cropsB K) :
    Calls Tryz.prog 102 #[.slice A n c, .slice C k cc] w fun e w' => e = .returned (.int .i64 0) ∧ Below w.heap.size w w' := by
  have eg : ∀ args w, (callFunc 201 args).run Tryz.prog w = .ok (.enter 201 args) w := enters_of Tryz.func201 (by kernel_rfl) rfl
  have HK := Lib.hid (fun W (h : Below w.heap.size w W) => checkHy_any A n c l W (hA.below h) hl.hy)
  have HCC := Lib.hid (fun W (h : Below w.heap.size w W) => cropCheck_any C k cc K W (hC.below h) hK)
  have HX := Lib.hid (fun W (h : Below w.heap.size w W) (g : Nat) (hg : W.cell? ⟨g, 0, none⟩ = some (.slice C k cc)) (hgl : g < W.heap.size) => show Calls Tryz.prog 116 #[.slice A n c, .func (.func 201) #[] #[.pointer (some ⟨g, 0, none⟩)]] W fun e w' => e = .returned (.bool false) ∧ Below W.heap.size W w' from by
    have h1 := containsRc_any 201 #[.pointer (some ⟨g, 0, none⟩)] (fun _ => false) A n c l W (hA.below h) eg (fun W2 hW2 x hx => by
      show Calls Tryz.prog 201 #[.agg #[.int .i64 x.1.yr, .int .i64 x.1.cr, .slice x.2.a x.1.rg.length x.2.c], .pointer (some ⟨g, 0, none⟩)] W2 _
      exact listed1W_any x.1 x.2 C k cc g W2 (hl.cr _ (List.mem_map_of_mem hx)) ((hW2.cell (p := ⟨g, 0, none⟩) hgl).trans hg) (Nat.lt_of_lt_of_le hgl hW2.size))
    rw [show l.any (fun _ => false) = false from by simp] at h1
    exact h1)
  clear hA hl hC hK eg
  go_enter Tryz.func102, Tryz.ntmps102
  go_upto_region 1 with fail
  obtain ⟨w1, hw1⟩ : ∃ w1 : World, w1 = w.alloc (.cells #[.slice C k cc] 29) := ⟨_, rfl⟩
  rw [← hw1]
  have Hr1 : Hid (w1.heap[w.heap.size]? = some (.cells #[.slice C k cc] 29 (0, 0))) := Lib.hid (by rw [hw1]; exact heap_alloc_new w _)
  have Hb1 : Hid (Below w.heap.size w w1) := Lib.hid (by rw [hw1]; exact gBel)
  have hs1 : w.heap.size < w1.heap.size := by rw [hw1]; simp
  clear hw1
  go_wp2_with (first
    | (go_at_call 98
       refine (HK.out _ Hb1.out).mono ?_
       rintro e w2 ⟨rfl, hb2⟩
       have hr2 := (hb2.block w.heap.size hs1).trans Hr1.out
       have Hr2 := Lib.hid hr2
       have Hb2 := Lib.hid (Hb1.out.trans (hb2.mono (by omega)))
       have hs2 : w.heap.size < w2.heap.size := Nat.lt_of_lt_of_le hs1 hb2.size
       have e2 := cell_of_row _ _ 0 _ _ _ hr2
       clear hb2 hr2)
    | (go_at_call 124
       refine (HCC.out _ Hb2.out).mono ?_
       rintro e w3 ⟨rfl, hb3⟩
       have hr3 := (hb3.block w.heap.size hs2).trans Hr2.out
       have Hb3 := Lib.hid (Hb2.out.trans (hb3.mono (by omega)))
       have hs3 : w.heap.size < w3.heap.size := Nat.lt_of_lt_of_le hs2 hb3.size
       have He3 := Lib.hid (cell_of_row _ _ 0 _ _ _ hr3)
       clear hb3 hr3 e2)
    | (go_at_call 116
       refine (HX.out _ Hb3.out w.heap.size He3.out hs3).mono ?_
       rintro e w4 ⟨rfl, hb4⟩
       have Hb4 := Lib.hid (Hb3.out.trans (hb4.mono (by omega)))
       clear hb4)
    | fail)
  go_ret
  exact ⟨rfl, Hb4.out⟩
theorem kin1_any (t : Int) (C : Option Addr) (k cc g h : Nat) (K : List Cp) (f : Int) (w : World) (hC : SlC w C k cc K) (c0 : w.cell? ⟨g, 0, none⟩ = some (.slice C k cc)) (c1 : w.cell? ⟨h, 0, none⟩ = some (.int .i64 f)) (ht0 : 0 ≤ t) (ht : t < (k : Int)) :
    Calls Tryz.prog 215 #[.int .i64 t, .pointer (some ⟨g, 0, none⟩), .pointer (some ⟨h, 0, none⟩)] w fun e w' => e = .returned (.bool (decide (famK K t = f))) ∧ Below w.heap.size w w' := by
  obtain ⟨j, rfl⟩ : ∃ j : Nat, t = (j : Int) := ⟨t.toNat, by omega⟩
  have hj : j < K.length := by rw [hC.len]; omega
  have hjk : (j : Int) < (k : Int) := ht
  obtain ⟨b, off, rfl, hb, d0, d1, d2⟩ := hC.at j hj
  rw [famK_at K j hj]
  generalize K[j].fam = F at *
  clear hC d0 d2
  go_enter Tryz.func215, Tryz.ntmps215
  go_upto_region 1 with fail
  go_quiet (fail)
  go_wp2
  go_ret
  exact ⟨rfl, gBel⟩
theorem kin2_any (t : Int) (C : Option Addr) (k cc g h : Nat) (K : List Cp) (f : Int) (w : World) (hC : SlC w C k cc K) (c0 : w.cell? ⟨g, 0, none⟩ = some (.slice C k cc)) (c1 : w.cell? ⟨h, 0, none⟩ = some (.int .i64 f)) (ht0 : 0 ≤ t) (ht : t < (k : Int)) :
    Calls Tryz.prog 126 #[.int .i64 t, .pointer (some ⟨g, 0, none⟩), .pointer (some ⟨h, 0, none⟩)] w fun e w' => e = .returned (.bool (decide (famK K t = f))) ∧ Below w.heap.size w w' := by
  obtain ⟨j, rfl⟩ : ∃ j : Nat, t = (j : Int) := ⟨t.toNat, by omega⟩
  have hj : j < K.length := by rw [hC.len]; omega
  have hjk : (j : Int) < (k : Int) := ht
  obtain ⟨b, off, rfl, hb, d0, d1, d2⟩ := hC.at j hj
  rw [famK_at K j hj]
  generalize K[j].fam = F at *
  clear hC d0 d2
  go_enter Tryz.func126, Tryz.ntmps126
  go_upto_region 1 with fail
  go_quiet (fail)
  go_wp2
  go_ret
  exact ⟨rfl, gBel⟩
theorem kept2_fn (w : World) : BoolFn 216 #[] andB w := by
  intro W x y _
  show Calls Tryz.prog 216 #[.bool x, .bool y] W _
  cases x <;> cases y
  all_goals go_enter Tryz.func216, Tryz.ntmps216
  all_goals go_wp2
  all_goals go_ret
  all_goals exact ⟨rfl, gBel⟩
theorem keptW_any (A : Option Addr) (n c : Nat) (l : RcL) (C : Option Addr) (k cc : Nat) (K : List Cp) (y0 f : Int) (m : Nat) (w : World) (hA : SlRc w A n c l) (hl : HyW (k : Int) (rcs l)) (hn : n ≤ 100) (hk : k ≤ 8) (hC : SlC w C k cc K) (hy : 0 ≤ y0 ∧ y0 ≤ 100) (hm : m ≤ 100) :
    Calls Tryz.prog 125 #[.slice A n c, .slice C k cc, .int .i64 y0, .int .i64 (y0 + (m : Int)), .int .i64 f] w (RowPost w (keptP (rcs l) y0 (fun t => decide (famK K t = f)) m)) := by
  have eg : ∀ args w, (callFunc 215 args).run Tryz.prog w = .ok (.enter 215 args) w := enters_of Tryz.func215 (by kernel_rfl) rfl
  have HR := Lib.hid (fun W (h : Below w.heap.size w W) (g : Nat) (h0 : W.cell? ⟨g, 0, none⟩ = some (.slice C k cc)) (h1 : W.cell? ⟨g + 1, 0, none⟩ = some (.int .i64 f)) (hgl : g + 1 < W.heap.size) (z : Int) => rectsW_any A n c l z 215 #[] #[.pointer (some ⟨g, 0, none⟩), .pointer (some ⟨g + 1, 0, none⟩)] (fun t => decide (famK K t = f)) W (hA.below h) (k : Int) hl hn eg (fun W2 t hW2 ht0 ht => by
    show Calls Tryz.prog 215 #[.int .i64 t, .pointer (some ⟨g, 0, none⟩), .pointer (some ⟨g + 1, 0, none⟩)] W2 _
    exact kin1_any t C k cc g (g + 1) K f W2 (hC.below (h.trans (hW2.mono h.size))) ((hW2.cell (p := ⟨g, 0, none⟩) (by show g < _; omega)).trans h0) ((hW2.cell (p := ⟨g + 1, 0, none⟩) hgl).trans h1) ht0 ht))
  have HS := Lib.hid (fun W (j : Nat) B q e B' q' e' (h : SlR W B q e (keptP (rcs l) y0 (fun t => decide (famK K t = f)) j)) (h' : SlR W B' q' e' (rectsP (rcs l) (y0 + ((j + 1 : Nat) : Int)) (fun t => decide (famK K t = f)))) => choose_any B B' q e q' e' 216 #[] andB _ _ W h h' (by have := h.len; have := kept_len hl (by omega) y0 (fun t => decide (famK K t = f)) j; omega) (by have := h'.len; have := rectsW_len hl (by omega) (y0 + ((j + 1 : Nat) : Int)) (fun t => decide (famK K t = f)); omega) (kept_in hl y0 _ j).pos (rectsW_in hl _ _).pos (enters_of Tryz.func216 (by kernel_rfl) rfl) (kept2_fn W))
  clear hA hl hC eg
  go_enter Tryz.func125, Tryz.ntmps125
  go_upto_region 2 with fail
  obtain ⟨w1, hw1⟩ : ∃ w1 : World, w1 = (w.alloc (.cells #[.slice C k cc] 29)).alloc (.cells #[.int .i64 f] 3) := ⟨_, rfl⟩
  rw [← hw1]
  have Hr1 : Hid (w1.heap[w.heap.size]? = some (.cells #[.slice C k cc] 29 (0, 0))) := Lib.hid (by rw [hw1]; exact (Below.heap_alloc _ _ _ (by simp)).trans (heap_alloc_new w _))
  have Hq1 : Hid (w1.heap[w.heap.size + 1]? = some (.cells #[.int .i64 f] 3 (0, 0))) := Lib.hid (by rw [hw1]; exact heap_alloc2_new w _ _)
  have Hb1 : Hid (Below w.heap.size w w1) := Lib.hid (by rw [hw1]; exact gBel)
  have hs1 : w.heap.size + 1 < w1.heap.size := by rw [hw1]; simp
  have H01 := Lib.hid (cell_of_row _ _ 0 _ _ _ Hr1.out)
  have H11 := Lib.hid (cell_of_row _ _ 0 _ _ _ Hq1.out)
  clear hw1
  have hwy : IntKind.i64.wrap (y0 + 1) = y0 + ((0 + 1 : Nat) : Int) := by rw [IntWalk.i64_in _ (by omega)]; omega
  go_upto_region 4 with (first
    | (go_at_call 100
       refine (HR.out _ Hb1.out w.heap.size H01.out H11.out hs1 y0).mono ?_
       rintro e w2 ⟨v2, rfl, hown2, hb2⟩
       have Hown2 := Lib.hid (own_rebase (base' := w.heap.size) hown2 (by omega))
       have Hr2 := Lib.hid ((hb2.block w.heap.size (by omega)).trans Hr1.out)
       have Hq2 := Lib.hid ((hb2.block (w.heap.size + 1) (by omega)).trans Hq1.out)
       have Hb2 := Lib.hid (Hb1.out.trans (hb2.mono (by omega)))
       have hs2 : w.heap.size + 1 < w2.heap.size := Nat.lt_of_lt_of_le hs1 hb2.size
       clear hown2 hb2)
    | fail)
  clear H01 H11 Hr1 Hq1 Hb1 hwy
  go_loopw [12, 13] (fun ov nv wr => ∃ j : Nat, j ≤ m ∧ nv = .int .i64 (y0 + ((j + 1 : Nat) : Int)) ∧ wr.ownsRow w.heap.size 68 4 ov (keptP (rcs l) y0 (fun t => decide (famK K t = f)) j).length (rCells (keptP (rcs l) y0 (fun t => decide (famK K t = f)) j)) ∧ Below w.heap.size w wr ∧ wr.heap[w.heap.size]? = some (.cells #[.slice C k cc] 29 (0, 0)) ∧ wr.heap[w.heap.size + 1]? = some (.cells #[.int .i64 f] 3 (0, 0)) ∧ w.heap.size + 1 < wr.heap.size) (fun _ nv _ => (y0 + (m : Int) + 1 - intOf nv).toNat)
  case atStart => exact ⟨0, by omega, rfl, Hown2.out, Hb2.out, Hr2.out, Hq2.out, hs2⟩
  case round =>
    clear Hown2 Hb2 Hr2 Hq2
    obtain ⟨j, hj, rfl, hown, hbw, hrr, hqr, hsr⟩ := hrel
    obtain ⟨wo, rfl⟩ : ∃ wo : World, wo = wr := ⟨_, rfl⟩
    have Hown := Lib.hid hown
    have Hbw := Lib.hid hbw
    have Hrr := Lib.hid hrr
    have Hqr := Lib.hid hqr
    clear hown hbw hrr hqr
    obtain ⟨A1, c1, rfl, _, _, _⟩ := own_slice Hown.out
    obtain ⟨Y, hY⟩ : ∃ Y, Y = y0 + ((j + 1 : Nat) : Int) := ⟨_, rfl⟩
    obtain ⟨U, hU⟩ : ∃ U, U = y0 + (m : Int) := ⟨_, rfl⟩
    have hYb : 0 ≤ Y ∧ Y ≤ 300 := by omega
    rw [← hY, ← hU]
    by_cases hjm : j < m
    · have hle : Y ≤ U := by omega
      have hle' : ¬ U < Y := by omega
      have hyw : IntKind.i64.wrap (Y + 1) = Y + 1 := IntWalk.i64_in _ (by omega)
      have HSk := Lib.hid (fun W B q e B' q' e' h h' => HS.out W j B q e B' q' e' h h')
      have HRk := Lib.hid (HR.out wo Hbw.out w.heap.size (cell_of_row _ _ 0 _ _ _ Hrr.out) (cell_of_row _ _ 0 _ _ _ Hqr.out) hsr Y)
      have Hnx : Hid (keptP (rcs l) y0 (fun t => decide (famK K t = f)) (j + 1) = chooseP andB (keptP (rcs l) y0 (fun t => decide (famK K t = f)) j) (rectsP (rcs l) (y0 + ((j + 1 : Nat) : Int)) (fun t => decide (famK K t = f)))) := Lib.hid rfl
      rw [← hY] at Hnx
      simp only [← hY] at HSk
      have HYe := Lib.hid hY
      have HUe := Lib.hid hU
      clear hY hU
      generalize keptP (rcs l) y0 (fun t => decide (famK K t = f)) j = P at *
      generalize rectsP (rcs l) Y (fun t => decide (famK K t = f)) = R at *
      generalize chooseP andB P R = Z at *
      go_wp2_with (first
        | (go_at_call 100
           refine HRk.out.mono ?_
           rintro e w3 ⟨v3, rfl, hown3, hb3⟩
           obtain ⟨A3, c3, rfl, hS3⟩ := SlR.of_own hown3
           have HS3 := Lib.hid hS3
           have Ho3 := Lib.hid (SlR.ofR (ownsRow_below Hown.out hb3))
           have Hr3 := Lib.hid ((hb3.block w.heap.size (by omega)).trans Hrr.out)
           have Hq3 := Lib.hid ((hb3.block (w.heap.size + 1) (by omega)).trans Hqr.out)
           have Hb3 := Lib.hid (Hbw.out.trans (hb3.mono (by omega)))
           have hs3 : w.heap.size + 1 < w3.heap.size := Nat.lt_of_lt_of_le hsr hb3.size
           clear hown3 hb3 hS3)
        | (go_at_call 54
           refine (HSk.out _ _ _ _ _ _ _ Ho3.out HS3.out).mono ?_
           rintro e w4 ⟨v4, rfl, hown4, hb4⟩
           have Hown4 := Lib.hid (own_rebase (base' := w.heap.size) hown4 (by omega))
           have Hr4 := Lib.hid ((hb4.block w.heap.size (by omega)).trans Hr3.out)
           have Hq4 := Lib.hid ((hb4.block (w.heap.size + 1) (by omega)).trans Hq3.out)
           have Hb4 := Lib.hid (Hb3.out.trans (hb4.mono (by omega)))
           have hs4 : w.heap.size + 1 < w4.heap.size := Nat.lt_of_lt_of_le hs3 hb4.size
           clear hown4 hb4)
        | fail)
      go_roundw
      case rel => exact ⟨j + 1, by omega, by have := HYe.out; congr 1; omega, by rw [Hnx.out]; exact Hown4.out, Hb4.out, Hr4.out, Hq4.out, hs4⟩
      case measure => have h1 := HYe.out; have h2 := HUe.out; simp [intOf]; omega
    · have hle : ¬ Y ≤ U := by omega
      have hle' : U < Y := by omega
      obtain rfl : j = m := by omega
      clear hY hU
      go_wp2
      go_ret
      exact ⟨_, rfl, Hown.out, Hbw.out⟩
theorem joinedW (l : List R4) (h : InS 30 l) (hb : ∃ B : List Int, B.length ≤ 2 ∧ InB B l) (hn : l.length ≤ 50000) (A : Option Addr) (n c : Nat) (w : World) (hA : SlR w A n c l) : Calls Tryz.prog 76 #[.slice A n c] w (RegPost w (canonP l, 0)) := by
  have h1 := joined_big A n c _ w hA (by have := hA.len; omega) (Nat.le_trans (cuts_side30 h) (by omega)) h.pos
  obtain ⟨B, hB, hb⟩ := hb
  have h2 := (canon_rgb h hb).len
  unfold limP at h1
  rw [if_neg (by omega)] at h1
  exact h1
theorem cropFam_any (C : Option Addr) (k cc : Nat) (K : List Cp) (t : Int) (w : World) (hC : SlC w C k cc K) (hK : cropsB K) (ht0 : 0 ≤ t) (ht : t < (k : Int)) :
    Calls Tryz.prog 40 #[.slice C k cc, .int .i64 t] w fun e w' => e = .returned (.tuple #[.int .i64 (famK K t), .int .i64 0]) ∧ Below w.heap.size w w' := by
  obtain ⟨j, rfl⟩ : ∃ j : Nat, t = (j : Int) := ⟨t.toNat, by omega⟩
  have hj : j < K.length := by rw [hC.len]; omega
  have hjk : (j : Int) < (k : Int) := ht
  have hj0 : ¬ (j : Int) < 0 := by omega
  have hjk' : ¬ (k : Int) ≤ (j : Int) := by omega
  have HCC := Lib.hid (cropCheck_any C k cc K w hC hK)
  have HA := Lib.hid (fun W (h : Below w.heap.size w W) => (hC.below h).at j hj)
  rw [famK_at K j hj]
  generalize K[j].fam = F at *
  clear hC hK
  go_enter Tryz.func40, Tryz.ntmps40
  go_upto_region 2 with (first
    | (go_at_call 124; refine HCC.out.mono ?_; rintro e w2 ⟨rfl, hb2⟩; have Hb2 := Lib.hid hb2; clear hb2)
    | fail)
  obtain ⟨b, off, rfl, hb, d0, d1, d2⟩ := HA.out w2 Hb2.out
  go_wp2
  go_ret2
  exact ⟨rfl, Hb2.out⟩
theorem familyW_any (A : Option Addr) (n c : Nat) (l : RcL) (C : Option Addr) (k cc : Nat) (K : List Cp) (y f : Int) (w : World) (hA : SlRc w A n c l) (hl : HyW (k : Int) (rcs l)) (hn : n ≤ 100) (hk : k ≤ 8) (hC : SlC w C k cc K) (hK : cropsB K) (hy : 0 ≤ y ∧ y ≤ 100) (hf : 0 ≤ f ∧ f ≤ 40) :
    Calls Tryz.prog 42 #[.slice A n c, .slice C k cc, .int .i64 y, .int .i64 f] w (RegPost w (canonP (rectsP (rcs l) y fun t => decide (famK K t = f)), 0)) := by
  have eg : ∀ args w, (callFunc 126 args).run Tryz.prog w = .ok (.enter 126 args) w := enters_of Tryz.func126 (by kernel_rfl) rfl
  have HL := Lib.hid (fun W (h : Below w.heap.size w W) => listedW_any A n c l C k cc K W (hA.below h) hl (hC.below h) hK)
  have HW := Lib.hid (fun W => wrong_any y W hy)
  have HJ := Lib.hid (fun B m e W h => joinedW (rectsP (rcs l) y fun t => decide (famK K t = f)) (rectsW_in hl _ _) (by obtain ⟨B, h1, h2⟩ := rectsW_inb hl y; exact ⟨B, h1, h2 _⟩) (Nat.le_trans (rectsW_len hl (by omega) _ _) (by omega)) B m e W h)
  have HR := Lib.hid (fun W (h : Below w.heap.size w W) (g : Nat) (h0 : W.cell? ⟨g, 0, none⟩ = some (.slice C k cc)) (h1 : W.cell? ⟨g + 1, 0, none⟩ = some (.int .i64 f)) (hgl : g + 1 < W.heap.size) => rectsW_any A n c l y 126 #[] #[.pointer (some ⟨g, 0, none⟩), .pointer (some ⟨g + 1, 0, none⟩)] (fun t => decide (famK K t = f)) W (hA.below h) (k : Int) hl hn eg (fun W2 t hW2 ht0 ht => by
    show Calls Tryz.prog 126 #[.int .i64 t, .pointer (some ⟨g, 0, none⟩), .pointer (some ⟨g + 1, 0, none⟩)] W2 _
    exact kin2_any t C k cc g (g + 1) K f W2 (hC.below (h.trans (hW2.mono h.size))) ((hW2.cell (p := ⟨g, 0, none⟩) (by show g < _; omega)).trans h0) ((hW2.cell (p := ⟨g + 1, 0, none⟩) hgl).trans h1) ht0 ht))
  have hf0 : ¬ f < 0 := by omega
  have hf1 : ¬ 40 < f := by omega
  clear hA hl hC hK eg hy hf
  generalize (rectsP (rcs l) y fun t => decide (famK K t = f)) = P at *
  generalize canonP P = R at *
  go_enter Tryz.func42, Tryz.ntmps42
  go_upto_region 1 with fail
  obtain ⟨w1, hw1⟩ : ∃ w1 : World, w1 = ((w.alloc (.cells #[.slice C k cc] 29)).alloc (.cells #[.int .i64 f] 3)).alloc (.cells #[.slice none 0 0] 33) := ⟨_, rfl⟩
  rw [← hw1]
  have Hr1 : Hid (w1.heap[w.heap.size]? = some (.cells #[.slice C k cc] 29 (0, 0))) := Lib.hid (by rw [hw1]; exact (Below.heap_alloc _ _ _ (by simp; omega)).trans ((Below.heap_alloc _ _ _ (by simp)).trans (heap_alloc_new w _)))
  have Hq1 : Hid (w1.heap[w.heap.size + 1]? = some (.cells #[.int .i64 f] 3 (0, 0))) := Lib.hid (by rw [hw1]; exact (Below.heap_alloc _ _ _ (by simp)).trans (heap_alloc2_new w _ _))
  have Hz1 : Hid (w1.heap[w.heap.size + 1 + 1]? = some (.cells #[.slice none 0 0] 33 (0, 0))) := Lib.hid (by rw [hw1]; have h3 := heap_alloc_new ((w.alloc (.cells #[.slice C k cc] 29)).alloc (.cells #[.int .i64 f] 3)) (.cells #[.slice none 0 0] 33); simpa using h3)
  have Hb1 : Hid (Below w.heap.size w w1) := Lib.hid (by rw [hw1]; exact gBel)
  have hs1 : w.heap.size + 1 + 1 < w1.heap.size := by rw [hw1]; simp
  have e1 := cell_of_row _ _ 0 _ _ _ Hr1.out
  clear hw1
  go_wp2_with (first
    | (go_at_call 102
       refine (HL.out _ Hb1.out).mono ?_
       rintro e w2 ⟨rfl, hb2⟩
       have Hr2 := Lib.hid (cell_of_row _ _ 0 _ _ _ ((hb2.block w.heap.size (by omega)).trans Hr1.out))
       have hq2 := cell_of_row _ _ 0 _ _ _ ((hb2.block (w.heap.size + 1) (by omega)).trans Hq1.out)
       have Hq2 := Lib.hid hq2
       have Hz2 := Lib.hid ((hb2.block (w.heap.size + 1 + 1) (by omega)).trans Hz1.out)
       have Hb2 := Lib.hid (Hb1.out.trans (hb2.mono (by omega)))
       have hs2 : w.heap.size + 1 + 1 < w2.heap.size := Nat.lt_of_lt_of_le hs1 hb2.size
       clear hb2 e1)
    | (go_at_call 99
       refine (HW.out _).mono ?_
       rintro e w' ⟨rfl, rfl⟩)
    | (go_at_call 100
       refine (HR.out _ Hb2.out w.heap.size Hr2.out Hq2.out (by omega)).mono ?_
       rintro e w3 ⟨v3, rfl, hown3, hb3⟩
       obtain ⟨B3, c3, rfl, hS3⟩ := SlR.of_own hown3
       have HS3 := Lib.hid hS3
       have Hz3 := Lib.hid ((hb3.block (w.heap.size + 1 + 1) (by omega)).trans Hz2.out)
       have Hb3 := Lib.hid (Hb2.out.trans (hb3.mono (by omega)))
       have hs3 : w.heap.size + 1 + 1 < w3.heap.size := Nat.lt_of_lt_of_le hs2 hb3.size
       clear hown3 hb3 hS3 hq2)
    | (go_at_call 76
       refine (HJ.out _ _ _ _ HS3.out).mono ?_
       rintro e w4 ⟨v4, rfl, hown4, hb4⟩
       dsimp only at hown4
       obtain ⟨A4, c4, rfl, _, _, _⟩ := own_slice hown4
       have Hown4 := Lib.hid (own_rebase (base' := w.heap.size + 1 + 1 + 1) hown4 (by omega))
       have hz4 := (hb4.block (w.heap.size + 1 + 1) (by omega)).trans Hz3.out
       have Hb4 := Lib.hid (Hb3.out.trans (hb4.mono (by omega)))
       have z0 := cell_of_row _ _ 0 _ _ _ hz4
       have f0 := frozen_of_row _ _ 0 _ _ hz4
       have csame : (w4.setCell ⟨w.heap.size + 1 + 1, 0, none⟩ (.slice A4 R.length c4)).cell? ⟨w.heap.size + 1 + 1, 0, none⟩ = some (.slice A4 R.length c4) := by
         rw [cell_of_row _ (w.heap.size + 1 + 1) 0 _ _ _ (heap_setCell_same w4 (w.heap.size + 1 + 1) 0 _ _ _ hz4)]
         simp
       clear hown4 hb4 hz4)
    | fail)
  refine bodyPost_ret (v := .tuple #[.agg #[.slice A4 R.length c4], .int .i64 0]) (by simp [results, Tryz.results42, go_sem, *]) rfl ?_
  refine ⟨_, rfl, ?_, Hb4.out.setCell (by show w.heap.size ≤ w.heap.size + 1 + 1; omega) _⟩
  exact own_other (own_rebase Hown4.out (by omega)) (only_setCell (g := w.heap.size + 1 + 1) (World.grownBy.refl _ _) (.inl rfl) _) (fun k hk e => by injection e with e; have := own_base Hown4.out k hk; omega)
theorem sameW_any (A : Option Addr) (n c : Nat) (l : RcL) (C : Option Addr) (k cc : Nat) (K : List Cp) (y0 : Int) (m : Nat) (w : World) (hA : SlRc w A n c l) (hl : HyW (k : Int) (rcs l)) (hn : n ≤ 100) (hk : k ≤ 8) (hC : SlC w C k cc K) (hK : cropsB K) (hy : 0 ≤ y0 ∧ y0 + (m : Int) ≤ 100) :
    Calls Tryz.prog 41 #[.slice A n c, .slice C k cc, .int .i64 y0, .int .i64 (y0 + (m : Int))] w (RegPost w (canonP (sameAll (famK K) (rcs l) y0 m 41), 0)) := by
  obtain ⟨i0, hi, hz0, hz1, hz2⟩ := info_parts Tryz.infoRect
  have HL := Lib.hid (fun W (h : Below w.heap.size w W) => listedW_any A n c l C k cc K W (hA.below h) hl (hC.below h) hK)
  have HKp := Lib.hid (fun W (h : Below w.heap.size w W) (f : Int) => keptW_any A n c l C k cc K y0 f m W (hA.below h) hl hn hk (hC.below h) (by omega) (by omega))
  have HJ := Lib.hid (fun B q e W h => joinedW (sameAll (famK K) (rcs l) y0 m 41) (sameAll_in hl _ _ _ _) (sameAll_inb hl _ _ _ _) (Nat.le_trans (sameAll_len hl (by omega) _ _ _ 41) (by omega)) B q e W h)
  have Hlen := Lib.hid (fun j => sameAll_len hl (by omega) (famK K) y0 m j)
  have Hkl := Lib.hid (fun f => kept_len hl (by omega) y0 (fun t => decide (famK K t = f)) m)
  have hu1 : ¬ y0 < 0 := by omega
  have hu2 : ¬ (y0 + (m : Int)) < y0 := by omega
  have hu3 : ¬ 100 < (y0 + (m : Int)) := by omega
  obtain ⟨U, hU⟩ : ∃ U, y0 + (m : Int) = U := ⟨_, rfl⟩
  rw [hU] at HKp hu2 hu3 ⊢
  clear hA hl hC hK hy hU
  go_enter Tryz.func41, Tryz.ntmps41
  go_upto_region 1 with fail
  obtain ⟨w1, hw1⟩ : ∃ w1 : World, w1 = w.alloc (.cells #[.slice none 0 0] 33) := ⟨_, rfl⟩
  rw [← hw1]
  have Hz1 : Hid (w1.heap[w.heap.size]? = some (.cells #[.slice none 0 0] 33 (0, 0))) := Lib.hid (by rw [hw1]; exact heap_alloc_new w _)
  have Hb1 : Hid (Below w.heap.size w w1) := Lib.hid (by rw [hw1]; exact gBel)
  have hs1 : w.heap.size < w1.heap.size := by rw [hw1]; simp
  clear hw1
  go_upto_region 8 with (first
    | (go_at_call 102
       refine (HL.out _ Hb1.out).mono ?_
       rintro e w2 ⟨rfl, hb2⟩
       have Hz2 := Lib.hid ((hb2.block w.heap.size hs1).trans Hz1.out)
       have Hb2 := Lib.hid (Hb1.out.trans (hb2.mono (by omega)))
       have hs2 : w.heap.size < w2.heap.size := Nat.lt_of_lt_of_le hs1 hb2.size
       clear hb2)
    | fail)
  clear Hz1 Hb1
  go_loopw [11, 12, 32] (fun ov _ iv wr => ∃ j : Nat, j ≤ 41 ∧ iv = .int .i64 (j : Int) ∧ wr.ownsRow (w.heap.size + 1) 68 4 ov (sameAll (famK K) (rcs l) y0 m j).length (rCells (sameAll (famK K) (rcs l) y0 m j)) ∧ Below w.heap.size w wr ∧ wr.heap[w.heap.size]? = some (.cells #[.slice none 0 0] 33 (0, 0)) ∧ w.heap.size < wr.heap.size) (fun _ _ iv _ => 41 - (intOf iv).toNat)
  case atStart => exact ⟨0, by omega, rfl, by simpa [sameAll, rCells] using World.ownsRow_nil _ _ _ _, Hb2.out, Hz2.out, hs2⟩
  case round =>
    clear Hb2 Hz2
    obtain ⟨j, hj, rfl, hown, hbw, hz, hsr⟩ := hrel
    obtain ⟨wo, rfl⟩ : ∃ wo : World, wo = wr := ⟨_, rfl⟩
    have Hown := Lib.hid hown
    have Hbw := Lib.hid hbw
    have Hz := Lib.hid hz
    clear hown hbw hz
    by_cases hj41 : j < 41
    · have hj41' : (j : Int) < 41 := by omega
      have Hnx := Lib.hid (sameAll_succ (famK K) (rcs l) y0 m j)
      have hPl : (sameAll (famK K) (rcs l) y0 m j).length ≤ 30000 := Nat.le_trans (Hlen.out j) (by omega)
      have hQl := Hkl.out (j : Int)
      have HKj := Lib.hid (HKp.out wo Hbw.out (j : Int))
      generalize sameAll (famK K) (rcs l) y0 m j = P at *
      generalize keptP (rcs l) y0 (fun c => decide (famK K c = (j : Int))) m = Q at *
      go_upto_region 11 with (first
        | (go_at_call 125
           refine HKj.out.mono ?_
           rintro e w3 ⟨v3, rfl, hown3, hb3⟩
           obtain ⟨A3, c3, rfl, hS3⟩ := SlR.of_own hown3
           have HS3 := Lib.hid hS3
           have Hz3 := Lib.hid ((hb3.block w.heap.size (by omega)).trans Hz.out)
           have Ho3 := Lib.hid (ownsRow_below Hown.out hb3)
           have Hb3 := Lib.hid (Hbw.out.trans (hb3.mono (by omega)))
           have hs3 : w.heap.size < w3.heap.size := Nat.lt_of_lt_of_le hsr hb3.size
           clear hown3 hb3 hS3)
        | (at_builtin
           go_loud (refine wpList_append_any _ rfl (.tmp 35) (.tmp 41) _ rfl (w.heap.size + 1) 68 i0 _ 4 32 Tryz.underlying31 hi hz0 hz1 hz2 rfl (by omega) _ P.length (rCells P) rfl Ho3.out w3.heap.size A3 Q.length c3 (rCells Q) rfl HS3.out.rd4 (rCells_one _) (by simp only [maxLen]; omega) (by omega) (by omega) ?_)
           intro v5 w5 hown5 hg5 hat5
           have Hn5 := Lib.hid hown5
           have Hg5 := Lib.hid hg5
           clear hown5 hg5 hat5)
        | fail)
      have hob := own_base Ho3.out
      have Hz5 := Lib.hid ((Hg5.out.block w.heap.size (by omega) (fun e => by have := hob _ e.symm; omega)).trans Hz3.out)
      have Hb5 := Lib.hid (Hb3.out.grown Hg5.out (by omega) (fun g hg => by have := hob g hg; omega))
      have hs5 : w.heap.size < w5.heap.size := Nat.lt_of_lt_of_le hs3 Hg5.out.size
      clear hob
      go_wp2
      go_roundw
      case rel => exact ⟨j + 1, by omega, by go_num, by rw [Hnx.out, List.length_append, rCells_app]; exact Hn5.out, Hb5.out, Hz5.out, hs5⟩
      case measure => simp [intOf]; omega
    · have hj41' : ¬ (j : Int) < 41 := by omega
      obtain rfl : j = 41 := by omega
      generalize sameAll (famK K) (rcs l) y0 m 41 = P at *
      generalize canonP P = R at *
      obtain ⟨A1, c1, rfl, _, _, _⟩ := own_slice Hown.out
      have HS1 := Lib.hid (SlR.ofR Hown.out)
      go_wp2_with (first
        | (go_at_call 76
           refine (HJ.out _ _ _ _ HS1.out).mono ?_
           rintro e w4 ⟨v4, rfl, hown4, hb4⟩
           dsimp only at hown4
           obtain ⟨A4, c4, rfl, _, _, _⟩ := own_slice hown4
           have Hown4 := Lib.hid (own_rebase (base' := w.heap.size + 1) hown4 (by omega))
           have hz4 := (hb4.block w.heap.size (by omega)).trans Hz.out
           have Hb4 := Lib.hid (Hbw.out.trans (hb4.mono (by omega)))
           have z0 := cell_of_row _ _ 0 _ _ _ hz4
           have f0 := frozen_of_row _ _ 0 _ _ hz4
           have csame : (w4.setCell ⟨w.heap.size, 0, none⟩ (.slice A4 R.length c4)).cell? ⟨w.heap.size, 0, none⟩ = some (.slice A4 R.length c4) := by
             rw [cell_of_row _ w.heap.size 0 _ _ _ (heap_setCell_same w4 w.heap.size 0 _ _ _ hz4)]
             simp
           clear hown4 hb4 hz4)
        | fail)
      refine bodyPost_ret (v := .tuple #[.agg #[.slice A4 R.length c4], .int .i64 0]) (by simp [results, Tryz.results41, go_sem, *]) rfl ?_
      refine ⟨_, rfl, ?_, Hb4.out.setCell (Nat.le_refl _) _⟩
      exact own_other (own_rebase Hown4.out (by omega)) (only_setCell (g := w.heap.size) (World.grownBy.refl _ _) (.inl rfl) _) (fun k hk e => by injection e with e; have := own_base Hown4.out k hk; omega)
end Go.Proofs.YtfmkmhhghmdakaaGreatDoor
