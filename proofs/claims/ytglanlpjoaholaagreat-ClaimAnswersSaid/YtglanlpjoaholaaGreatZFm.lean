/- ClaimAnswers: the walk. -/
import Derived.Test.YtglanlpjoaholaaGreatZM1
import Derived.Test.YtglanlpjoaholaaGreatQ
namespace Go.Proofs.YtglanlpjoaholaaGreat
open Go.RowKit Go.Shelf
set_option linter.unusedVariables false
set_option linter.unusedSimpArgs false

theorem rects_few {L : List Ln} (p : Ln → Bool) {k m : Nat} (hk : L.length ≤ k) (h : ∀ x ∈ L, x.rg.length ≤ m) : (rectsP p L).length ≤ k * m :=
  Nat.le_trans (rectsP_len p m L h) (Nat.mul_le_mul_right _ hk)
theorem SlL.grow {w w' : World} {A : Option Addr} {n c : Nat} {l : LL} (h : SlL w A n c l) (hb : Below w.heap.size w w') : SlL w' A n c l := h.below hb
/-- A region's slice does not lie in a box of a region. -/
theorem SlR.notBox {w : World} {D : Option Addr} {n k X b c : Nat} {a : Option Addr} {t : TypeId} {fr : Nat × Nat} {l : List R4} (h : SlR w D n k l) (hX : w.heap[X]? = some (.cells #[.slice a b c] t fr)) (b' off : Nat) (e : D = some ⟨b', off, none⟩) : some X ≠ some b' ∨ n = 0 := by
  by_cases hn : n = 0
  · exact .inr hn
  refine .inl fun he => ?_
  injection he with he
  obtain ⟨b2, o2, e2, -, hc⟩ := h.lies.resolve_left hn
  rw [e] at e2
  injection e2 with e2
  injection e2 with e3 e4
  subst e3 e4 he
  cases l with
  | nil => have := h.len; simp at this; omega
  | cons q t =>
    have h1 := hc 0 (.int .i64 q.l) (by simp [rCells, R4.cells])
    rw [cell_of_row w X _ _ _ _ hX] at h1
    rcases Nat.eq_zero_or_pos off with h0 | h0
    · subst h0; simp at h1
    · rw [Array.getElem?_eq_none (by simp; omega)] at h1; cases h1
/-- A region that a call has handed back, in a box of its own. -/
def RegBox (wb : World) (rr : List R4) (re : Int) (s1 s2 : Value) (wx : World) : Prop :=
  ∃ (X : Nat) (DE : Option Addr) (kE : Nat), s1 = .pointer (some ⟨X, 0, none⟩) ∧ s2 = .int .i64 re ∧ wb.heap.size ≤ X ∧ wx.heap[X]? = some (.cells #[.slice DE rr.length kE] 33 (0, 0)) ∧ SlR wx DE rr.length kE rr ∧ Below wb.heap.size wb wx
theorem boxA {wb wE : World} {rr : List R4} {re : Int} {DE : Option Addr} {kE : Nat} (hb : Below (wb.alloc (.cells #[.slice none 0 0] 33)).drew.heap.size (wb.alloc (.cells #[.slice none 0 0] 33)).drew wE) (hS : SlR wE DE rr.length kE rr) :
    RegBox wb rr re (.pointer (some ⟨wb.heap.size, 0, none⟩)) (.int .i64 re) (wE.setCell ⟨wb.heap.size, 0, none⟩ (.slice DE rr.length kE)) := by
  have hlt : wb.heap.size < (wb.alloc (.cells #[.slice none 0 0] 33)).drew.heap.size := by show _ < (wb.alloc _).heap.size; simp
  have hr := (hb.block _ hlt).trans (heap_alloc_new wb _)
  refine ⟨wb.heap.size, DE, kE, rfl, rfl, Nat.le_refl _, ?_, hS.grownX (row := some wb.heap.size) (only_setCell (g := wb.heap.size) (World.grownBy.refl _ _) (.inl rfl) _) (fun b off e => hS.notBox hr b off e), ?_⟩
  · have := heap_setCell_same wE wb.heap.size 0 _ _ (.slice DE rr.length kE) hr
    simpa using this
  · have h1 : Below wb.heap.size wb wE := (Below.drew ((Below.refl wb.heap.size wb).alloc (Nat.le_refl _) _)).trans (hb.mono (Nat.le_of_lt hlt))
    exact h1.setCell (Nat.le_refl _) _
theorem boxB {wb wE : World} {rr : List R4} {re : Int} {DE : Option Addr} {kE : Nat} (hb : Below wb.drew.heap.size wb.drew wE) (hS : SlR wE DE rr.length kE rr) :
    RegBox wb rr re (.pointer (some ⟨wE.heap.size, 0, none⟩)) (.int .i64 re) (wE.alloc (.cells #[.slice DE rr.length kE] 33)) := by
  have hb' : Below wb.heap.size wb wE := (Below.drew (Below.refl _ _)).trans hb
  exact ⟨wE.heap.size, DE, kE, rfl, rfl, hb'.size, heap_alloc_new wE _, hS.alloc _, hb'.alloc hb'.size _⟩
set_option maxHeartbeats 64000000 in
set_option maxRecDepth 100000 in
theorem answersLaw13 (AL : Option Addr) (n cl : Nat) (l : LL) (D : Option Addr) (kk : Nat) (ra : List R4) (schs sch by_ : Int) (A : Option Addr) (zn c : Nat) (zs : List Int) (w : World)
    (hL : SlL w AL n cl l) (hD : SlR w D ra.length kk ra) (hsc : (Lit.int .i64 sch).wf = true) (hby : (Lit.int .i64 by_).wf = true)
    (hn : zs.length = zn) (hc : zn ≤ c) (hm : c ≤ maxLen) (hw : ∀ z ∈ zs, (Lit.int .i64 z).wf = true) (hA : Lies w A zn (zs.map (.int .i64))) :
    Calls Tryz.prog 8 #[.slice AL n cl, .agg #[.slice D ra.length kk], .int .i64 schs, .int .i64 sch, .int .i64 by_, .slice A zn c] w fun e w' => e = .returned (.bool true) ∧ Below w.heap.size w w' := by
  obtain ⟨i0, hi, hz0, hz1, hz2⟩ := info_parts Tryz.infoInt
  have HM5 := Lib.hid (fun W => mod_any by_ 5 W (bounds_i64 hby) (by omega))
  have HM3 := Lib.hid (fun W => mod_any by_ 3 W (bounds_i64 hby) (by omega))
  have HM18 := Lib.hid (fun W => mod_any sch 18 W (bounds_i64 hsc) (by omega))
  have Hb3 := Lib.hid (modV_bd by_ 3 (by omega))
  have Hb18 := Lib.hid (modV_bd sch 18 (by omega))
  have Hby := Lib.hid hby
  generalize modV by_ 5 = m5 at *
  generalize modV by_ 3 = m3 at *
  generalize modV sch 18 = m18 at *
  clear hsc hby
  go_enter Tryz.func8, Tryz.ntmps8
  go_upto_region 1 with fail
  obtain ⟨wa, hwa⟩ : ∃ wa : World, wa = w.alloc (.cells #[.slice D ra.length kk] 33) := ⟨_, rfl⟩
  rw [← hwa]
  have Hra : Hid (wa.heap[w.heap.size]? = some (.cells #[.slice D ra.length kk] 33 (0, 0))) := Lib.hid (by rw [hwa]; exact heap_alloc_new w _)
  have Hba : Hid (Below w.heap.size w wa) := Lib.hid (by rw [hwa]; exact (by repeat' (first | with_reducible exact Below.refl _ _ | with_reducible refine below_drewN ?_ _ | with_reducible refine Below.drew ?_ | with_reducible refine Below.alloc ?_ ?_ _ | with_reducible refine Below.setCell ?_ ?_ _ | with_reducible refine Below.trans ?_ (Below.mono (by with_reducible assumption) ?_) | (simp; done) | (simp; omega) | omega)))
  have hsa : w.heap.size < wa.heap.size := by rw [hwa]; simp
  have HL := Lib.hid (hL.below Hba.out)
  have HD := Lib.hid (hD.below Hba.out)
  have HN := Lib.hid (new_any A zn c zs wa hn hc hm hw (hA.below Hba.out))
  have cx0 := cell_of_row _ _ 0 _ _ _ Hra.out
  have hlen := hL.len
  have Hlen := Lib.hid hlen
  clear hwa hL hD hA hw hn hlen
  by_cases h1 : 25 < n
  · have h1' : (25 : Int) < (n : Int) := by omega
    have h1d : decide (25 < n) = true := decide_eq_true h1
    go_wp2_with (first | (go_at_call 16; refine (awake13_any _).mono ?_; rintro e w1 ⟨rfl, hb1⟩; have Hb1 := Lib.hid hb1; clear hb1) | fail)
    go_ret
    exact ⟨rfl, Hba.out.trans (Hb1.out.mono (by omega))⟩
  have h1' : ¬ (25 : Int) < (n : Int) := by omega
  have h1d : decide (25 < n) = false := decide_eq_false h1
  by_cases h2 : 5 < ra.length
  · have h2' : (5 : Int) < (ra.length : Int) := by omega
    have h2d : decide (5 < ra.length) = true := decide_eq_true h2
    go_wp2_with (first | (go_at_call 16; refine (awake13_any _).mono ?_; rintro e w1 ⟨rfl, hb1⟩; have Hb1 := Lib.hid hb1; clear hb1) | fail)
    go_ret
    exact ⟨rfl, Hba.out.trans (Hb1.out.mono (by omega))⟩
  have h2' : ¬ (5 : Int) < (ra.length : Int) := by omega
  have h2d : decide (5 < ra.length) = false := decide_eq_false h2
  go_upto_region 3 with fail
  clear cx0
  go_wp2_with fail
  go_loopw [56] (fun iv wr => ∃ k : Nat, iv = .int .i64 (k : Int) ∧ k ≤ n ∧ Hid (∀ x ∈ (lns l).take k, x.rg.length ≤ 3) ∧ wr = wa) (fun iv _ => n - (intOf iv).toNat)
  case atStart => exact ⟨0, rfl, by omega, Lib.hid (fun a h => by simp at h), rfl⟩
  case round =>
    obtain ⟨k, rfl, hkn, Hsm, rfl⟩ := hrel
    by_cases hk : k < n
    · have hk' : (k : Int) < (n : Int) := by omega
      have hkl : k < l.length := by have := Hlen.out; omega
      obtain ⟨b, off, rfl, hb, g0, g1, g2, g3, _⟩ := HL.out.at k hkl
      have Hnx : Hid (l[k].1.rg.length ≤ 3 → ∀ x ∈ (lns l).take (k + 1), x.rg.length ≤ 3) := Lib.hid (fun h x hx => by
        have hg : (lns l)[k]'(by rw [lns_len]; exact hkl) = l[k].1 := by simp [lns]
        rw [List.take_succ_eq_append_getElem (by rw [lns_len]; exact hkl), hg] at hx
        rcases List.mem_append.1 hx with hx | hx
        · exact Hsm.out x hx
        · rw [List.mem_singleton] at hx; rw [hx]; exact h)
      obtain ⟨q, hq⟩ : ∃ q, l[k].1.rg.length = q := ⟨_, rfl⟩
      obtain ⟨E, hE⟩ : ∃ E, l[k].2.a = E := ⟨_, rfl⟩
      obtain ⟨d, hd⟩ : ∃ d, l[k].2.c = d := ⟨_, rfl⟩
      rw [hq] at Hnx
      rw [hq, hE, hd] at g1
      clear hq hE hd g0 g2 g3
      by_cases h5 : 3 < q
      · have h5' : (3 : Int) < (q : Int) := by omega
        go_wp2_with (first | (go_at_call 16; refine (awake13_any _).mono ?_; rintro e w1 ⟨rfl, hb1⟩; have Hb1 := Lib.hid hb1; clear hb1) | fail)
        go_ret
        exact ⟨rfl, Hba.out.trans (Hb1.out.mono (by omega))⟩
      · have h5' : ¬ (3 : Int) < (q : Int) := by omega
        go_wp2
        go_roundw
        case rel => exact ⟨k + 1, by go_num, by omega, Lib.hid (Hnx.out (by omega)), trivial⟩
        case measure => simp [intOf]; omega
    · obtain rfl : k = n := by omega
      have Hsr : Hid (∀ x ∈ lns l, x.rg.length ≤ 3) := Lib.hid (by
        have := Hsm.out
        rwa [List.take_of_length_le (by rw [lns_len, Hlen.out]; exact Nat.le_refl _)] at this)
      clear Hsm hkn hk
      obtain ⟨n, rfl⟩ : ∃ n : Nat, n = k := ⟨_, rfl⟩
      obtain ⟨wa, rfl⟩ : ∃ wa : World, wa = wr := ⟨_, rfl⟩
      have hnn : ¬ (n : Int) < (n : Int) := by omega
      go_wp2_with fail
      refine HN.out.mono ?_
      rintro e w1 ⟨g, rfl, hwg, ht1, hb1⟩
      have Ht1 := Lib.hid ht1
      have Hb1 := Lib.hid hb1
      have hg1 := ht1.lt
      have hs1 := hb1.size
      clear ht1 hb1 HN hnn
      go_wp2_with fail
      refine (crops_any g _ w1 Ht1.out).mono ?_
      rintro e w2 ⟨C, CA, cc, r2, rfl, hC, ht2, hg2, hCl, hCb⟩
      have Ht2 := Lib.hid ht2
      have Hg2 := Lib.hid hg2
      have hs2 := hg2.size
      have Hco := Lib.hid (cropsF_of (cpK_ok C hCl.2 hCb))
      have hKl := cpK_len C 0
      have hKc := cpK_cells C 0 (by omega)
      have HC : Hid (w2.ownsRow w1.heap.size 57 3 (.slice CA (cpK 0 C).length cc) (cpK 0 C).length (kCells (cpK 0 C))) := Lib.hid (by rw [hKl, ← hKc]; exact hC)
      rw [← hKl] at hCl ⊢
      generalize cpK 0 C = K at *
      obtain ⟨nc, hnc⟩ : ∃ nc, K.length = nc := ⟨_, rfl⟩
      have Hnc := Lib.hid hnc
      rw [hnc] at hCl ⊢
      clear hC ht2 hg2 Ht1 hCb hKl hKc hnc
      go_wp2_with fail
      refine (lines_any g r2 CA nc cc 4 w2 Ht2.out (by omega) (Nat.le_refl _)).mono ?_
      rintro e w3 ⟨L, LA, lc, R, NA, kc, RA, rc, r3, k, rfl, hL3, hnu, hRo, ht3, hg3, hpc, hm1, hok, hk4⟩
      have HL3 := Lib.hid hL3
      have Ht3 := Lib.hid ht3
      have hs3 := hg3.size
      have hg2' : g < w2.heap.size := Ht2.out.lt
      have hLl : L.length ≤ 4 := by have := hok.len; rw [lns_len] at this; omega
      have hR3 : R.length ≤ 3 := by have := hpc.m; rwa [rgs_len] at this
      have HLx : Hid (∀ x ∈ lns L, InS 30 x.rg ∧ x.rg.length ≤ 120) := Lib.hid (fun x hx => ⟨(hok.ok x hx).reg.ins, (hok.ok x hx).reg.len⟩)
      have Hnu := Lib.hid hnu
      have HRo := Lib.hid hRo
      have Hg3 := Lib.hid hg3
      clear hL3 ht3 hok hpc hnu hRo hg3
      go_wp2_with fail
      refine (spoilt13_any g r3 LA L.length lc w2.heap.size L by_ w3 Ht3.out HL3.out hg2' hs3 rfl (by omega) Hby.out).mono ?_
      rintro e w4 ⟨O, OA, oc, r4, ob, rfl, hO, ht4, hg4, hOl, hob, hOx⟩
      have HO := Lib.hid hO
      have Ht4 := Lib.hid ht4
      have Hg4 := Lib.hid hg4
      have hs4 := hg4.size
      have HOx := Lib.hid hOx
      clear hO ht4 hg4 hOx Ht3
      go_wp2_with fail
      refine (next_any g r4 8 w4 Ht4.out (by omega)).mono ?_
      rintro e w5 ⟨rfl, ht5, hg5⟩
      have hzb := nx_bd r4 8 (by omega)
      obtain ⟨z, hz⟩ : ∃ z, nx r4 8 = z := ⟨_, rfl⟩
      rw [hz] at hzb ⊢
      have Ht5 := Lib.hid ht5
      have Hg35 := Lib.hid (only_trans Hg4.out hg5)
      have hs5 := hg5.size
      generalize r4.tail = r5 at *
      have hnl := nums_len R.length
      have HM : Hid (Made w5 w1.heap.size NA kc (nums R.length) RA rc R CA cc K LA lc L OA oc O) := Lib.hid (by
        have h1 := own_rebase Hnu.out hs2
        have h2 := HRo.out.rebase hs2
        have h3 := HL3.out.rebase hs2
        refine Made.only (w := w4) ?_ hg5 hg1
        refine ⟨?_, ownsRow_only h2.o Hg4.out hg1, fun x hx => ownsRow_only (h2.fs x hx) Hg4.out hg1, ?_, ?_, HO.out.rebase hs2⟩
        · rw [hnl]; exact ownsRow_only h1 Hg4.out hg1
        · exact ownsRow_only (ownsRow_only HC.out Hg3.out hg1) Hg4.out hg1
        · exact ⟨ownsRow_only h3.o Hg4.out hg1, fun x hx => ownsRow_only (h3.fs x hx) Hg4.out hg1⟩)
      have Hb5 : Hid (Below wa.heap.size wa w5) := Lib.hid (below_only Hb1.out (only_trans (only_trans Hg2.out Hg3.out) Hg35.out) hwg hs1)
      obtain ⟨N, hN⟩ : ∃ N, nums R.length = N := ⟨_, rfl⟩
      rw [hN] at HM hnl
      rw [← hnl]
      obtain ⟨m, hmR⟩ : ∃ m, R.length = m := ⟨_, rfl⟩
      have HmR := Lib.hid hmR
      rw [hmR] at hnl hR3 hm1
      have HNm := Lib.hid hnl
      have hNl : N.length ≤ 3 := by omega
      have hNp : 0 < N.length := by omega
      have hs15 : w1.heap.size ≤ w5.heap.size := by omega
      have hgB : g < w1.heap.size := hg1
      clear ht5 hg5 hz hN hmR Hnu HRo HL3 HO Hg2 Hg3 Hg4 Hg35 HC Ht2 Ht4 hs2 hs3 hs4
      go_upto_block 2 with fail
      go_cut [17] (fun nv wx => Begun wa g w1.heap.size RA rc m CA cc nc LA lc L OA oc O nv wx)
      case first =>
        have hm0 : 0 < m := by omega
        rcases (show z = 0 ∨ z = 1 ∨ z = 2 ∨ z = 3 ∨ z = 4 ∨ z = 5 ∨ z = 6 ∨ z = 7 by omega) with rfl | rfl | rfl | rfl | rfl | rfl | rfl | rfl
        · have hm7 : m ≤ 7 := by omega
          have Hrd : Hid (Reads w5 w5.heap.size 1 NA m (N.map (.int .i64))) := Lib.hid (by
            obtain ⟨A', c', e, h1, h2, h3⟩ := own_slice HM.out.hn
            injection e with e1 e2 e3
            subst e1
            have := h1.reads (size := 1) (by simp)
            rwa [HNm.out] at this)
          go_wp2_with (first
            | (at_builtin
               refine wpList_append_any _ rfl (.tmp 88) (.tmp 89) _ rfl w5.heap.size 3 i0 (.int .i64 0) 1 8 Tryz.underlying22 hi hz0 hz1 hz2 rfl (by omega) (.slice (some ⟨w5.heap.size, 0, none⟩) 0 0) 0 [] rfl (own_zero w5 w5.heap.size 3 1 (Nat.le_refl _)) _ NA m kc (N.map (Value.int .i64)) rfl (Hrd.out.below ((Below.refl _ _).alloc (Nat.le_refl _) _)) (ints_oneCell .i64 N) (by simp only [maxLen]; omega) (by omega) (by simp) ?_
               intro v5 w6 hown5 hg5 hat5
               rw [Nat.zero_add, List.nil_append] at hown5
               have Hown5 := Lib.hid hown5
               have Hb6 : Hid (Below w5.heap.size w5 w6) := Lib.hid (Below.grown ((Below.refl w5.heap.size w5).alloc (Nat.le_refl _) _) hg5 (by simp) (fun b hb => by simp [Value.ownBlock] at hb; omega))
               have hs56 := Hb6.out.size
               clear hown5 hg5 hat5)
            | (at_builtin
               refine wpList_append_any _ rfl (.tmp 90) (.tmp 92) _ rfl w5.heap.size 3 i0 (.int .i64 0) 1 8 Tryz.underlying22 hi hz0 hz1 hz2 rfl (by omega) v5 m (N.map (Value.int .i64)) rfl (Hown5.out.alloc _) _ _ 1 1 [.int .i64 by_] rfl ⟨rfl, fun _ => ⟨_, rfl, Nat.lt_succ_self _, fun j u hu => (by exact news_any _ _ _ j u hu)⟩⟩ (by simp [Value.oneCell']) (by simp only [maxLen]; omega) (by omega) (by simp; omega) ?_
               intro v7 w7 hown6 hg6 hat6
               obtain ⟨A6, e6, rfl, _, _, _⟩ := own_slice hown6
               have Hown6 := Lib.hid hown6
               have Hb7 : Hid (Below w5.heap.size w5 w7) := Lib.hid (Below.grown ((Hb6.out).alloc Hb6.out.size _) hg6 (by simp; have := Hb6.out.size; omega) (own_base Hown5.out))
               clear hown6 hg6 hat6)
            | fail)
          go_meet
          case rel =>
            have hM := HM.out.below Hb7.out
            refine ⟨N ++ [by_], A6, e6, R, K, r5, by rw [List.length_append, HNm.out]; rfl, ⟨?_, hM.hr, hM.hrs, hM.hc, hM.hl, hM.ho⟩, HmR.out, Hnc.out, Hco.out, Ht5.out.below Hb7.out (by omega), Hb5.out.trans (Hb7.out.mono (by have := Hb5.out.size; omega)), by simp; omega⟩
            rw [List.length_append, List.map_append, HNm.out]
            exact own_rebase Hown6.out hs15
        · obtain ⟨G, kc', e0, hGw, hG5, hnc', hcm, hcells, hfz⟩ := own_at HM.out.hn hNp
          injection e0 with e1 e2 e3
          subst e1 e3
          obtain ⟨y0, hy0⟩ : ∃ y0, (N.map (Value.int .i64))[0]? = some y0 := ⟨_, List.getElem?_eq_getElem (by simpa using hNp)⟩
          have g0 := hcells 0 y0 hy0
          have f0 := hfz 0
          have hmi : (0 : Int) < (m : Int) := by omega
          clear hcells hfz hy0 e2
          go_wp2_with (first | (go_at_call 26; refine (HM5.out _).mono ?_; rintro e w' ⟨rfl, rfl⟩) | fail)
          go_meet
          case rel => exact ⟨N.set 0 m5, some ⟨G, 0, none⟩, kc, R, K, r5, by rw [List.length_set, HNm.out], HM.out.setInt m5, HmR.out, Hnc.out, Hco.out, Ht5.out.setCell (by show g < G; omega) _, Hb5.out.setCell (by show wa.heap.size ≤ G; omega) _, by rw [List.length_set]; omega⟩
        · have h7 := mkBrk_two r5 9 (by omega)
          have HB := Lib.hid (broken_any g r5 9 2 w5 Ht5.out (by omega) (by omega))
          obtain ⟨⟨nb, r7⟩, hp⟩ : ∃ p, mkBrk r5 9 2 = p := ⟨_, rfl⟩
          rw [hp] at HB h7
          obtain ⟨G, rc', e0, hGw, hG5, hnc', hcm, hcells, hfz⟩ := own_at HM.out.hr (by rw [HmR.out]; exact hm0)
          injection e0 with e1 e2 e3
          subst e1 e3
          obtain ⟨y0, hy0⟩ : ∃ y0, (rgCells R)[0]? = some y0 := ⟨_, List.getElem?_eq_getElem (by simp [rgCells]; rw [HmR.out]; exact hm0)⟩
          have g0 := hcells 0 y0 hy0
          have f0 := hfz 0
          have hmi : (0 : Int) < (m : Int) := by omega
          clear hcells hfz hy0 e2 hp
          go_wp2_with (first
            | (go_at_call 27
               refine HB.out.mono ?_
               rintro e w7 ⟨v7, rfl, hown7, ht7, hg7⟩
               dsimp only at hown7 ht7
               obtain ⟨D7, dc7, rfl, -, -, -⟩ := own_slice hown7
               have Hown7 := Lib.hid hown7
               have Ht7 := Lib.hid ht7
               have Hg7 := Lib.hid hg7
               have k1 := (tcell hg7).1 G 0 hG5 (by omega)
               have k2 := (tcell hg7).2 G 0 hG5 (by omega)
               rw [g0] at k1
               rw [f0] at k2
               clear hown7 ht7 hg7)
            | fail)
          go_meet
          case rel => exact ⟨N, NA, kc, R.set 0 (nb, ⟨D7, dc7⟩), K, r7, by rw [HNm.out], (HM.out.only Hg7.out hgB).setReg (nb, ⟨D7, dc7⟩) (own_rebase Hown7.out (by omega)), by rw [List.length_set]; exact HmR.out, Hnc.out, Hco.out, Ht7.out.setCell (by show g < G; omega) _, (below_only Hb5.out Hg7.out hwg (by have := Hb5.out.size; omega)).setCell (by show wa.heap.size ≤ G; omega) _, by omega⟩
        · obtain ⟨G, cc', e0, hGw, hG5, hnc', hcm, hcells, hfz⟩ := own_at HM.out.hc (by rw [Hnc.out]; omega)
          injection e0 with e1 e2 e3
          subst e1 e3
          obtain ⟨y0, hy0⟩ : ∃ y0, (kCells K)[1]? = some y0 := ⟨_, List.getElem?_eq_getElem (by rw [kCells_len, Hnc.out]; omega)⟩
          have g0 := hcells 1 y0 hy0
          have f0 := hfz 1
          have hmi : (0 : Int) < (nc : Int) := by omega
          clear hcells hfz hy0 e2
          go_wp2
          go_meet
          case rel => exact ⟨N, NA, kc, R, setFam K by_, r5, by rw [HNm.out], HM.out.setFm (by rw [Hnc.out]; omega) by_, HmR.out, by rw [setFam_len]; exact Hnc.out, cropsF_set Hco.out by_, Ht5.out.setCell (by show g < G; omega) _, Hb5.out.setCell (by show wa.heap.size ≤ G; omega) _, by omega⟩
        all_goals (
          go_wp2
          go_meet
          case rel => exact ⟨N, NA, kc, R, K, r5, by rw [HNm.out], HM.out, HmR.out, Hnc.out, Hco.out, Ht5.out, Hb5.out, by omega⟩)
      case rest =>
        obtain ⟨wS, rfl⟩ : ∃ wS : World, wS = wc := ⟨_, rfl⟩
        obtain ⟨N', NA', kc', R', C', r6, rfl, hM6, hRm, hCn, hcf, ht6, hb6, hNl'⟩ := hcut
        have HM6 := Lib.hid hM6
        have Hb6 := Lib.hid hb6
        have Ht6 := Lib.hid ht6
        have Hcf := Lib.hid hcf
        have HRm := Lib.hid hRm
        have HCn := Lib.hid hCn
        have hs6 := hb6.size
        have hg6 : g < wS.heap.size := ht6.lt
        clear hM6 hb6 ht6 hcf hRm hCn HM Hb5 Ht5 HM5
        obtain ⟨nl, hnlq⟩ : ∃ nl, N'.length = nl := ⟨_, rfl⟩
        have Hnlq := Lib.hid hnlq
        rw [hnlq] at hNl' ⊢
        clear hnlq
        have hzb4 := nx_bd r6 4 (by omega)
        obtain ⟨k4, hk4'⟩ := Int.eq_ofNat_of_zero_le hzb4.1
        rw [hk4'] at hzb4
        have hk44 : k4 < 4 := by omega
        have hk4i : (k4 : Int) < 4 := by omega
        obtain ⟨M, HMk⟩ : ∃ M : Int, Hid ((#[Value.int .i64 31, .int .i64 schs, .int .i64 15, .int .i64 7] : Array Value).toList[k4]? = some (.int .i64 M)) := by
          rcases (show k4 = 0 ∨ k4 = 1 ∨ k4 = 2 ∨ k4 = 3 by omega) with rfl | rfl | rfl | rfl
          · exact ⟨31, Lib.hid rfl⟩
          · exact ⟨schs, Lib.hid rfl⟩
          · exact ⟨15, Lib.hid rfl⟩
          · exact ⟨7, Lib.hid rfl⟩
        have Hk4 := Lib.hid hk4'
        clear hk4' hzb4
        go_upto_region 23 with (first
          | (go_at_call 25
             refine (next_any g r6 4 _ (Ht6.out.alloc _) (by omega)).mono ?_
             rintro e w7 ⟨rfl, ht7, hg7⟩
             rw [Hk4.out]
             have c7 := rowCellL ((hg7.block wS.heap.size (by simp) (fun e => by injection e; omega)).trans (heap_alloc_new wS _)) HMk.out
             have Hg7 : Hid (wS.grownBy w7 (some g)) := Lib.hid (only_trans (only_alloc (World.grownBy.refl _ _) _) hg7)
             have Ht7 := Lib.hid ht7
             have hs7 := Hg7.out.size
             clear ht7 hg7)
          | fail)
        clear c7
        have HM7 := Lib.hid (HM6.out.only Hg7.out hgB)
        have Hb7 : Hid (Below wa.heap.size wa w7) := Lib.hid (below_only Hb6.out Hg7.out hwg (by omega))
        have hg7' : g < w7.heap.size := by omega
        obtain ⟨lw, hlw⟩ : ∃ lw, L.length = lw := ⟨_, rfl⟩
        obtain ⟨ow, how⟩ : ∃ ow, O.length = ow := ⟨_, rfl⟩
        have Hlw := Lib.hid hlw
        have How := Lib.hid how
        rw [hlw] at hLl hOl
        rw [how] at hOl
        rw [hlw, how]
        clear hlw how Hg7 HM6 Hb6 Ht6 HMk Hk4 hs6 hg6
        generalize r6.tail = r7 at *
        go_upto_region 24 with fail
        obtain ⟨w8, hw8⟩ : ∃ w8 : World, w8 = w7.alloc (.cells #[.slice AL n cl, .slice LA lw lc, .slice OA ow oc] 25) := ⟨_, rfl⟩
        rw [← hw8]
        have HY : Hid (w8.heap[w7.heap.size]? = some (.cells #[.slice AL n cl, .slice LA lw lc, .slice OA ow oc] 25 (0, 0))) := Lib.hid (by rw [hw8]; exact heap_alloc_new w7 _)
        have hb78 : Below w7.heap.size w7 w8 := by rw [hw8]; exact (Below.refl _ _).alloc (Nat.le_refl _) _
        have hs78 : w7.heap.size < w8.heap.size := by rw [hw8]; simp
        obtain ⟨Y, hY⟩ : ∃ Y, w7.heap.size = Y := ⟨_, rfl⟩
        have HM8 := Lib.hid (HM7.out.below hb78)
        have HT8 := Lib.hid (Ht7.out.below hb78 hg7')
        have Hb8 : Hid (Below wa.heap.size wa w8) := Lib.hid (Hb7.out.trans (hb78.mono (by omega)))
        rw [hY] at HY hs78 hg7' ⊢
        have hs8 := Hb8.out.size
        have hg8 : g < w8.heap.size := by omega
        have HA : Hid (∀ W, w8.grownBy W (some g) → W.cell? ⟨w.heap.size, 0, none⟩ = some (.slice D ra.length kk) ∧ SlR W D ra.length kk ra) := Lib.hid (fun W hW => ⟨cell_of_row _ _ 0 _ _ _ ((hW.block _ (by omega) (fun e => by injection e; omega)).trans ((Hb8.out.block _ hsa).trans Hra.out)), HD.out.below (below_only Hb8.out hW hwg (by omega))⟩)
        have HPc : Hid (∀ W, w8.grownBy W (some g) → PcW W NA' nl kc' N' RA m rc R' CA nc cc C') := Lib.hid (fun W hW => by
          have h := (HM8.out.only hW hgB).pcw Hcf.out
          rwa [Hnlq.out, HRm.out, HCn.out] at h)
        have Hthree : Hid (∀ j, j < 3 → ∃ (XA : Option Addr) (xn xc : Nat) (xl : LL), xn ≤ 25 ∧ CutsL (lns xl) ∧ (∀ p, (rectsP p (lns xl)).length ≤ 750) ∧ ∀ W, w8.grownBy W (some g) → W.cell? ⟨Y, j, none⟩ = some (.slice XA xn xc) ∧ SlL W XA xn xc xl) := Lib.hid (by
          intro j hj
          have hcell : ∀ W, w8.grownBy W (some g) → W.heap[Y]? = _ := fun W hW => (hW.block Y hs78 (fun e => by injection e; omega)).trans HY.out
          rcases (show j = 0 ∨ j = 1 ∨ j = 2 by omega) with rfl | rfl | rfl
          · have hll : (lns l).length ≤ 25 := by rw [lns_len, Hlen.out]; omega
            refine ⟨AL, n, cl, l, by omega, cuts_few hll Hsr.out, fun p => Nat.le_trans (rects_few p hll Hsr.out) (by omega), fun W hW => ⟨cell_of_row _ _ 0 _ _ _ (hcell W hW), HL.out.below (below_only Hb8.out hW hwg (by omega))⟩⟩
          · have hll : (lns L).length ≤ 4 := by rw [lns_len, Hlw.out]; exact hLl
            refine ⟨LA, lw, lc, L, by omega, cuts_made (b := []) (by simp) (fun x hx => .inl (HLx.out x hx).1), fun p => Nat.le_trans (rects_few p hll (fun x hx => (HLx.out x hx).2)) (by omega), fun W hW => ⟨cell_of_row _ _ 1 _ _ _ (hcell W hW), ?_⟩⟩
            have h := (HM8.out.only hW hgB).hl.sll
            rwa [Hlw.out] at h
          · have hll : (lns O).length ≤ 5 := by rw [lns_len, How.out]; omega
            have hOO : ∀ x ∈ lns O, (∃ y ∈ lns L, x.rg = y.rg) ∨ x.rg = ob := fun x hx => by
              obtain ⟨y, hy, rfl⟩ := List.mem_map.1 hx
              rcases HOx.out y hy with ⟨u, hu, hq⟩ | h
              · exact .inl ⟨u.1, List.mem_map_of_mem hu, hq⟩
              · exact .inr h
            refine ⟨OA, ow, oc, O, by omega, cuts_made (b := ob) (by omega) (fun x hx => ?_), fun p => Nat.le_trans (rects_few p hll (m := 120) (fun x hx => ?_)) (by omega), fun W hW => ⟨cell_of_row _ _ 2 _ _ _ (hcell W hW), ?_⟩⟩
            · rcases hOO x hx with ⟨y, hy, hq⟩ | h
              · exact .inl (by rw [hq]; exact (HLx.out y hy).1)
              · exact .inr h
            · rcases hOO x hx with ⟨y, hy, hq⟩ | h
              · rw [hq]; exact (HLx.out y hy).2
              · rw [h]; omega
            · have h := (HM8.out.only hW hgB).ho.sll
              rwa [How.out] at h)
        have Hba8 : Hid (Below w.heap.size w w8) := Lib.hid (Hba.out.trans (Hb8.out.mono (by omega)))
        have hY8 : Y < w8.heap.size := hs78
        have hwg' : w.heap.size < g := by omega
        have hww8 : w.heap.size < w8.heap.size := by omega
        clear hw8 hb78 hY HM8 HM7 Hb7 Hb8 Ht7 HY Hsr HLx HOx Hlw How HL HD Hra Hba Hcf HRm HCn Hnlq HNm HmR Hnc Hco Hb1 Hby hi hz0 hz1 hz2
        go_wp2_with fail
        go_loopw [123] (fun iv wr => ∃ (j : Nat) (r' : List Int), iv = .int .i64 (j : Int) ∧ j ≤ 3 ∧ TapeAt wr g r' ∧ w8.grownBy wr (some g)) (fun iv _ => 3 - (intOf iv).toNat)
        case atStart => exact ⟨0, r7, rfl, by omega, HT8.out, World.grownBy.refl _ _⟩
        case round =>
          obtain ⟨j, r', rfl, hj3, ht, hkr⟩ := hrel
          obtain ⟨wo, rfl⟩ : ∃ wo : World, wo = wr := ⟨_, rfl⟩
          have HT := Lib.hid ht
          have Hkr := Lib.hid hkr
          have hsr := hkr.size
          clear ht hkr
          by_cases hj : j < 3
          · as_aux_lemma =>
              have hj' : (j : Int) < 3 := by omega
              obtain ⟨XA, xn, xc, xl, hx25, hxcut, hxre, hX⟩ := Hthree.out j hj
              have HX := Lib.hid hX
              have Hcut := Lib.hid hxcut
              have Hxre := Lib.hid hxre
              have cY := (hX wo Hkr.out).1
              have HXr := Lib.hid (hX wo Hkr.out).2
              have HPr := Lib.hid (HPc.out wo Hkr.out)
              have hgo : g < wo.heap.size := by omega
              have HAl := Lib.hid (fun W (hW : Below wo.heap.size wo W) => allG_any XA xn xc xl NA' nl kc' N' RA m rc R' CA nc cc C' M W (HXr.out.below hW) (HPr.out.below hW))
              have HAr := Lib.hid (fun W (hW : Below wo.heap.size wo W) => all13_any XA xn xc xl NA' nl kc' N' RA m rc R' CA nc cc C' M W (HXr.out.below hW) (HPr.out.below hW))
              obtain ⟨⟨p1, p2⟩, hpq⟩ : ∃ p, allP (checkP N' (rgs R') C' M) (lns xl) = p := ⟨_, rfl⟩
              rw [hpq] at HAl HAr
              clear hX hxcut hxre hpq
              go_upto_region 30 with (first
                | (go_at_call 19
                   refine (HAl.out _ (Below.refl _ _)).mono ?_
                   rintro e w9 ⟨rfl, hb9⟩
                   have Hb9 := Lib.hid hb9
                   clear hb9)
                | (go_at_call 28
                   refine (HAr.out _ Hb9.out).mono ?_
                   rintro e wA ⟨rfl, hbA⟩
                   have HbA := Lib.hid (Hb9.out.trans (hbA.mono Hb9.out.size))
                   clear hbA)
                | fail)
              have hsA := HbA.out.size
              have hXlen : xl.length = xn := HXr.out.len
              have HXlen := Lib.hid hXlen
              clear cY HAl HAr hXlen Hb9
              go_wp2_with fail
              go_loopw [155] (fun iv wr => ∃ t : Nat, iv = .int .i64 (t : Int) ∧ t ≤ xn ∧ Below wA.heap.size wA wr) (fun iv _ => xn - (intOf iv).toNat)
              case atStart => exact ⟨0, rfl, by omega, Below.refl _ _⟩
              case round =>
                obtain ⟨t, rfl, htx, hbt⟩ := hrel
                have Hbt := Lib.hid (HbA.out.trans (hbt.mono hsA))
                have HbtA := Lib.hid hbt
                have hst := hbt.size
                clear hbt
                by_cases htn : t < xn
                · have htn' : (t : Int) < (xn : Int) := by omega
                  have htl : t < xl.length := by have := HXlen.out; omega
                  have HXt := HXr.out.below Hbt.out
                  obtain ⟨b2, o2, rfl, hb2, g0, g1, g2, g3, hS⟩ := HXt.at t htl
                  have HC1 := Lib.hid (fun W (hW : Below wr.heap.size wr W) => checkG_any NA' nl kc' N' RA m rc R' CA nc cc C' M xl[t].1 xl[t].2 W ((HPr.out.below Hbt.out).below hW) (hS.below hW))
                  have HC2 := Lib.hid (fun W (hW : Below wr.heap.size wr W) => check13_any NA' nl kc' N' RA m rc R' CA nc cc C' M xl[t].1 xl[t].2 W ((HPr.out.below Hbt.out).below hW) (hS.below hW))
                  obtain ⟨y, hy⟩ : ∃ y, xl[t] = y := ⟨_, rfl⟩
                  rw [hy] at HC1 HC2 g0 g1 g2 g3
                  clear hy hS HXt
                  obtain ⟨⟨ypc, yrg, ycr, ysch⟩, ⟨ya, yc⟩⟩ := y
                  dsimp only at *
                  generalize checkP N' (rgs R') C' M ⟨ypc, yrg, ycr, ysch⟩ = ck at *
                  go_upto_region 33 with fail
                  refine wp_region_below (W := wr) wr.heap.size (Nat.le_refl _) (by kernel_rfl) (by kernel_rfl) ?_
                  intro I _ F hFc hFb hFs
                  repeat (go_big_quiet_step ((first
                    | (go_at_call 29; with_reducible exact class_call hFb hFs (Nat.le_refl _) (HC1.out _ (hFb _)))
                    | (go_at_call 30; with_reducible exact class_call hFb hFs (Nat.le_refl _) (HC2.out _ (hFb _))))))
                  refine wpQuiet_nil ?_
                  rintro _ ⟨iq, rfl⟩
                  go_wp2
                  go_roundw
                  case rel => exact ⟨t + 1, by go_num, by omega, HbtA.out.trans ((hFb iq).mono hst)⟩
                  case measure => simp [intOf]; omega
                · obtain rfl : t = xn := by omega
                  obtain ⟨wB, rfl⟩ : ∃ wB : World, wB = wr := ⟨_, rfl⟩
                  obtain ⟨xn, rfl⟩ : ∃ xn : Nat, xn = t := ⟨_, rfl⟩
                  have hsB : wo.heap.size ≤ wB.heap.size := Hbt.out.size
                  have HkB : Hid (w8.grownBy wB (some g)) := Lib.hid (only_below Hkr.out Hbt.out hsr)
                  have HTB : Hid (TapeAt wB g r') := Lib.hid (HT.out.below Hbt.out hgo)
                  have cx := (HA.out wB HkB.out).1
                  obtain ⟨⟨nb, rB⟩, hp⟩ : ∃ p, mkBrk r' 20 3 = p := ⟨_, rfl⟩
                  have HBk := Lib.hid (fun W (hW : TapeAt W g r') => broken_any g r' 20 3 W hW (by omega) (by omega))
                  have hnb92 := mkBrk_len r' 20 3 (by omega) (by omega)
                  rw [hp] at HBk hnb92
                  dsimp only at hnb92
                  clear hp Hbt HbtA HbA hst hsA HXr HPr HT Hkr HXlen hgo htx htn
                  have hnn : ¬ (xn : Int) < (xn : Int) := by omega
                  go_upto_region 36 with fail
                  have cxd : wB.drew.cell? ⟨w.heap.size, 0, none⟩ = some (.slice D ra.length kk) := cx
                  clear cx hnn
                  go_region_held3 (fun w' => w'.cell? ⟨w.heap.size, 0, none⟩ = some (.slice D ra.length kk)) (first | with_reducible exact cxd | with_reducible exact cxC | go_keep)
                    (first
                      | (go_at_call 27
                         refine (HBk.out _ HTB.out.drew).mono ?_
                         rintro e wC ⟨vC, rfl, hownC, htC, hgC⟩
                         simp only at hownC htC ⊢
                         obtain ⟨DC, kC, rfl, hSC⟩ := SlR.of_own hownC
                         have HSC := Lib.hid hSC
                         have HTC := Lib.hid htC
                         have hsC : wB.heap.size ≤ wC.heap.size := hgC.size
                         have HkC : Hid (w8.grownBy wC (some g)) := Lib.hid (only_trans (only_drew HkB.out) hgC)
                         have cxC := (HA.out wC HkC.out).1
                         clear hownC htC hgC hSC)
                      | fail)
                  obtain ⟨wD, hwD⟩ : ∃ wD : World, wD = wC.alloc (.cells #[.slice D ra.length kk, .slice DC nb.length kC] 33) := ⟨_, rfl⟩
                  rw [← hwD]
                  have HZ : Hid (wD.heap[wC.heap.size]? = some (.cells #[.slice D ra.length kk, .slice DC nb.length kC] 33 (0, 0))) := Lib.hid (by rw [hwD]; exact heap_alloc_new wC _)
                  have hbCD : Below wC.heap.size wC wD := by rw [hwD]; exact (Below.refl _ _).alloc (Nat.le_refl _) _
                  have hsCD : wC.heap.size < wD.heap.size := by rw [hwD]; simp
                  have hgC : g < wC.heap.size := by omega
                  have HTD : Hid (TapeAt wD g rB) := Lib.hid (HTC.out.below hbCD hgC)
                  have HkD : Hid (w8.grownBy wD (some g)) := Lib.hid (only_below HkC.out hbCD (by omega))
                  obtain ⟨Z, hZ⟩ : ∃ Z, wC.heap.size = Z := ⟨_, rfl⟩
                  rw [hZ] at HZ hsCD ⊢
                  have Htwo : Hid (∀ i, i < 2 → ∃ (B : Option Addr) (mB dB : Nat) (rb : List R4), mB ≤ 92 ∧ ∀ W, Below wD.heap.size wD W → W.cell? ⟨Z, i, none⟩ = some (.slice B mB dB) ∧ SlR W B mB dB rb) := Lib.hid (by
                    intro i hi
                    have hcell : ∀ W, Below wD.heap.size wD W → W.heap[Z]? = _ := fun W hW => (hW.block Z hsCD).trans HZ.out
                    rcases (show i = 0 ∨ i = 1 by omega) with rfl | rfl
                    · exact ⟨D, ra.length, kk, ra, by omega, fun W hW => ⟨cell_of_row _ _ 0 _ _ _ (hcell W hW), (HA.out W (only_below HkD.out hW (by omega))).2⟩⟩
                    · exact ⟨DC, nb.length, kC, nb, hnb92, fun W hW => ⟨cell_of_row _ _ 1 _ _ _ (hcell W hW), (HSC.out.below hbCD).below hW⟩⟩)
                  have HXD := Lib.hid (HX.out wD HkD.out).2
                  have hZD : Z < wD.heap.size := hsCD
                  have hgD : g < wD.heap.size := by omega
                  have hs8D : w8.heap.size ≤ wD.heap.size := HkD.out.size
                  clear hwD HZ hbCD hZ HSC HTC HkC cxC cxd HBk HTB HkB
                  go_wp2_with fail
                  go_loopw [183] (fun iv wr => ∃ i : Nat, iv = .int .i64 (i : Int) ∧ i ≤ 2 ∧ Below wD.heap.size wD wr) (fun iv _ => 2 - (intOf iv).toNat)
                  case atStart => exact ⟨0, rfl, by omega, Below.refl _ _⟩
                  case round =>
                    obtain ⟨i, rfl, hi2, hbi⟩ := hrel
                    have Hbi := Lib.hid hbi
                    have hsi := hbi.size
                    clear hbi
                    by_cases hi : i < 2
                    · have hi' : (i : Int) < 2 := by omega
                      obtain ⟨B, mB, dB, rb, hm92, hBW⟩ := Htwo.out i hi
                      obtain ⟨cZ, hSB⟩ := hBW wr Hbi.out
                      have HSB := Lib.hid hSB
                      have HXi := Lib.hid (HXD.out.below Hbi.out)
                      have hZr : Z < wr.heap.size := by omega
                      clear hBW hSB
                      have Hbb : Hid (Below wr.heap.size wr (wr.alloc (.cells #[.slice B mB dB] 33))) := Lib.hid (by repeat' (first | with_reducible exact Below.refl _ _ | with_reducible refine below_drewN ?_ _ | with_reducible refine Below.drew ?_ | with_reducible refine Below.alloc ?_ ?_ _ | with_reducible refine Below.setCell ?_ ?_ _ | with_reducible refine Below.trans ?_ (Below.mono (by with_reducible assumption) ?_) | (simp; done) | (simp; omega) | omega))
                      have hrow := heap_alloc_new wr (.cells #[.slice B mB dB] 33)
                      have hlb : wr.heap.size < (wr.alloc (.cells #[.slice B mB dB] 33)).heap.size := by simp
                      go_upto_region 39 with fail
                      obtain ⟨T, hT⟩ : ∃ T, wr.heap.size = T := ⟨_, rfl⟩
                      rw [hT] at hrow hlb ⊢
                      generalize wr.alloc (.cells #[.slice B mB dB] 33) = wb at *
                      have HTr := Lib.hid hrow
                      have hsb := Hbb.out.size
                      have t0 : wb.drew.cell? ⟨T, 0, none⟩ = some (.slice B mB dB) := cell_of_row wb T 0 _ _ _ hrow
                      have hb3 := Hb3.out
                      have hw3 : IntKind.i64.wrap (1 + m3) = 1 + m3 := IntWalk.i64_in _ (by omega)
                      have HR1 := Lib.hid (fun W (hW : Below wb.heap.size wb W) => restC_any XA xn xc xl (1 + m3) B mB dB rb W ((HXi.out.below Hbb.out).below hW) ((HSB.out.below Hbb.out).below hW) (Hxre.out _))
                      have HR2 := Lib.hid (fun W (hW : Below wb.heap.size wb W) => rest13_any XA xn xc xl (1 + m3) B mB dB rb W ((HXi.out.below Hbb.out).below hW) ((HSB.out.below Hbb.out).below hW) Hcut.out hm92)
                      have HCl1 := Lib.hid (fun W (hW : Below wb.heap.size wb W) => clipC_any XA xn xc xl B mB dB rb W ((HXi.out.below Hbb.out).below hW) ((HSB.out.below Hbb.out).below hW))
                      have HCl2 := Lib.hid (fun W (hW : Below wb.heap.size wb W) => clip13_any XA xn xc xl B mB dB rb W ((HXi.out.below Hbb.out).below hW) ((HSB.out.below Hbb.out).below hW))
                      obtain ⟨⟨rr, re⟩, hrr⟩ : ∃ p, restCP (lns xl) (1 + m3) rb = p := ⟨_, rfl⟩
                      obtain ⟨⟨cl1, ce⟩, hcl⟩ : ∃ p, clipCP (lns xl) rb = p := ⟨_, rfl⟩
                      rw [hrr] at HR1 HR2
                      rw [hcl] at HCl1 HCl2
                      clear hrr hcl hrow cZ hT HSB HXi
                      go_cut [30, 31] (fun s1 s2 wx => RegBox wb rr re s1 s2 wx)
                      case first =>
                        have hTl : T < wb.heap.size := by omega
                        have t0a : (wb.alloc (.cells #[.slice none 0 0] 33)).drew.cell? ⟨T, 0, none⟩ = some (.slice B mB dB) := (World.cell?_alloc_lt wb _ ⟨T, 0, none⟩ hTl).trans t0
                        go_region_held3 (fun w' => w'.cell? ⟨T, 0, none⟩ = some (.slice B mB dB)) (first | with_reducible exact t0 | with_reducible exact t0a | with_reducible exact tE | with_reducible exact tEs _ | with_reducible exact tEa _ | go_keep)
                          (first
                            | (go_at_call 26; refine (HM3.out _).mono ?_; rintro e w' ⟨rfl, rfl⟩)
                            | (go_at_call 17
                               refine (HR1.out _ (by repeat' (first | with_reducible exact Below.refl _ _ | with_reducible refine below_drewN ?_ _ | with_reducible refine Below.drew ?_ | with_reducible refine Below.alloc ?_ ?_ _ | with_reducible refine Below.setCell ?_ ?_ _ | with_reducible refine Below.trans ?_ (Below.mono (by with_reducible assumption) ?_) | (simp; done) | (simp; omega) | omega))).mono ?_
                               rintro e wE ⟨vE, rfl, hownE, hbE⟩
                               dsimp only at hownE ⊢
                               obtain ⟨DE, kE, rfl, hSE⟩ := SlR.of_own hownE
                               have HSE := Lib.hid hSE
                               have tE : wE.cell? ⟨T, 0, none⟩ = some (.slice B mB dB) := cell_of_row wE T 0 _ _ _ (((show Below wb.heap.size wb wE from (by have hbq := hbE; exact (by repeat' (first | with_reducible exact Below.refl _ _ | with_reducible assumption | with_reducible refine below_drewN ?_ _ | with_reducible refine Below.drew ?_ | with_reducible refine Below.alloc ?_ ?_ _ | with_reducible refine Below.setCell ?_ ?_ _ | with_reducible refine Below.trans ?_ (Below.mono (by with_reducible assumption) ?_) | with_reducible refine below_only ?_ (by with_reducible assumption) ?_ ?_ | (simp; done) | (simp; omega) | omega)))).block T hlb).trans HTr.out)
                               have tEl : T < wE.heap.size := (by have := World.new_ne wE ⟨T, 0, none⟩ tE; exact World.block_lt_of_cell? wE ⟨T, 0, none⟩ tE)
                               have tEa : ∀ o, (wE.alloc o).cell? ⟨T, 0, none⟩ = some (.slice B mB dB) := fun o => (World.cell?_alloc_lt wE o ⟨T, 0, none⟩ tEl).trans tE
                               have tEs : ∀ u, (wE.setCell ⟨wb.heap.size, 0, none⟩ u).cell? ⟨T, 0, none⟩ = some (.slice B mB dB) := fun u => (World.cell?_setCell_far wE ⟨wb.heap.size, 0, none⟩ ⟨T, 0, none⟩ u (by show wb.heap.size ≠ T; omega)).trans tE
                               (try (have hxr : wE.heap[wb.heap.size]? = some (.cells #[.slice none 0 0] 33 (0, 0)) := (hbE.block wb.heap.size (by show _ < (wb.alloc _).heap.size; simp)).trans (heap_alloc_new wb _); have xE := cell_of_row wE wb.heap.size 0 _ _ _ hxr; have fE := frozen_of_row wE wb.heap.size 0 _ _ hxr))
                               clear hownE hSE)
                            | fail)
                        all_goals go_wp2
                        all_goals go_meet
                        all_goals first
                          | (with_reducible exact boxA hbE HSE.out)
                          | (with_reducible exact boxB hbE HSE.out)
                      case rest =>
                      obtain ⟨wF, rfl⟩ : ∃ wF : World, wF = wc := ⟨_, rfl⟩
                      obtain ⟨Fb, DE, kE, rfl, rfl, hFb, hF, hSF, hbF⟩ := hcut
                      have HF := Lib.hid hF
                      have HSF := Lib.hid hSF
                      have HbF := Lib.hid hbF
                      have hsEF : Fb < wF.heap.size := (Array.getElem?_eq_some_iff.1 hF).1
                      have hsbF := hbF.size
                      clear hF hSF hbF t0
                      go_upto_region 40 with fail
                      go_cut [32, 33] (fun s1 s2 wx => RegBox wF rr re s1 s2 wx)
                      case first =>
                        have t0 : wF.drew.cell? ⟨T, 0, none⟩ = some (.slice B mB dB) := cell_of_row wF T 0 _ _ _ ((HbF.out.block T hlb).trans HTr.out)
                        have hTl : T < wF.heap.size := by omega
                        have t0a : (wF.alloc (.cells #[.slice none 0 0] 33)).drew.cell? ⟨T, 0, none⟩ = some (.slice B mB dB) := (World.cell?_alloc_lt wF _ ⟨T, 0, none⟩ hTl).trans t0
                        go_region_held3 (fun w' => w'.cell? ⟨T, 0, none⟩ = some (.slice B mB dB)) (first | with_reducible exact t0 | with_reducible exact t0a | with_reducible exact tG | with_reducible exact tGs _ | with_reducible exact tGa _ | go_keep)
                          (first
                            | (go_at_call 26; refine (HM3.out _).mono ?_; rintro e w' ⟨rfl, rfl⟩)
                            | (go_at_call 31
                               have hbW := HbF.out
                               refine (HR2.out _ (by repeat' (first | with_reducible exact Below.refl _ _ | with_reducible assumption | with_reducible refine below_drewN ?_ _ | with_reducible refine Below.drew ?_ | with_reducible refine Below.alloc ?_ ?_ _ | with_reducible refine Below.setCell ?_ ?_ _ | with_reducible refine Below.trans ?_ (Below.mono (by with_reducible assumption) ?_) | with_reducible refine below_only ?_ (by with_reducible assumption) ?_ ?_ | (simp; done) | (simp; omega) | omega))).mono ?_
                               rintro e wG ⟨DG, kG, rfl, hSG, hbG⟩
                               dsimp only at hSG ⊢
                               have HSG := Lib.hid hSG
                               have tG : wG.cell? ⟨T, 0, none⟩ = some (.slice B mB dB) := cell_of_row wG T 0 _ _ _ (((show Below wb.heap.size wb wG from (by have hbq := hbG; exact (by repeat' (first | with_reducible exact Below.refl _ _ | with_reducible assumption | with_reducible refine below_drewN ?_ _ | with_reducible refine Below.drew ?_ | with_reducible refine Below.alloc ?_ ?_ _ | with_reducible refine Below.setCell ?_ ?_ _ | with_reducible refine Below.trans ?_ (Below.mono (by with_reducible assumption) ?_) | with_reducible refine below_only ?_ (by with_reducible assumption) ?_ ?_ | (simp; done) | (simp; omega) | omega)))).block T hlb).trans HTr.out)
                               have tGl : T < wG.heap.size := (by have := World.new_ne wG ⟨T, 0, none⟩ tG; exact World.block_lt_of_cell? wG ⟨T, 0, none⟩ tG)
                               have tGa : ∀ o, (wG.alloc o).cell? ⟨T, 0, none⟩ = some (.slice B mB dB) := fun o => (World.cell?_alloc_lt wG o ⟨T, 0, none⟩ tGl).trans tG
                               have tGs : ∀ u, (wG.setCell ⟨wF.heap.size, 0, none⟩ u).cell? ⟨T, 0, none⟩ = some (.slice B mB dB) := fun u => (World.cell?_setCell_far wG ⟨wF.heap.size, 0, none⟩ ⟨T, 0, none⟩ u (by show wF.heap.size ≠ T; omega)).trans tG
                               (try (have hxr : wG.heap[wF.heap.size]? = some (.cells #[.slice none 0 0] 33 (0, 0)) := (hbG.block wF.heap.size (by show _ < (wF.alloc _).heap.size; simp)).trans (heap_alloc_new wF _); have xE := cell_of_row wG wF.heap.size 0 _ _ _ hxr; have fE := frozen_of_row wG wF.heap.size 0 _ _ hxr))
                               clear hSG hbW)
                            | fail)
                        all_goals go_wp2
                        all_goals go_meet
                        all_goals first
                          | (with_reducible exact boxA hbG HSG.out)
                          | (with_reducible exact boxB hbG HSG.out)
                      case rest =>
                      obtain ⟨wH, rfl⟩ : ∃ wH : World, wH = wc := ⟨_, rfl⟩
                      obtain ⟨Hb', DG, kG, rfl, rfl, hHb', hH, hSH, hbFH⟩ := hcut
                      have HH := Lib.hid hH
                      have HSH := Lib.hid hSH
                      have HbFH := Lib.hid hbFH
                      have HbH := Lib.hid (HbF.out.trans (hbFH.mono hsbF))
                      have hsGH : Hb' < wH.heap.size := (Array.getElem?_eq_some_iff.1 hH).1
                      have hsbH := HbH.out.size
                      have hsFH := hbFH.size
                      clear hH hSH hbFH
                      have t0 := cell_of_row wH T 0 _ _ _ ((HbH.out.block T hlb).trans HTr.out)
                      go_upto_region 43 with (first
                        | (go_at_call 21
                           refine (HCl1.out _ HbH.out).mono ?_
                           rintro e wI ⟨OI, AI, cI, rfl, hOI, hownI, hbI⟩
                           dsimp only at hOI ⊢
                           have HOI := Lib.hid hOI
                           have HownI := Lib.hid hownI
                           have HbHI := Lib.hid hbI
                           have HbI := Lib.hid (HbH.out.trans (hbI.mono hsbH))
                           have hsI := HbI.out.size
                           have tI := cell_of_row wI T 0 _ _ _ ((HbI.out.block T hlb).trans HTr.out)
                           clear hOI hownI hbI)
                        | (go_at_call 32
                           refine (HCl2.out _ HbI.out).mono ?_
                           rintro e wJ ⟨OJ, AJ, cJ, rfl, hOJ, hownJ, hbJ⟩
                           dsimp only at hOJ ⊢
                           have HOJ := Lib.hid hOJ
                           have HSI := Lib.hid (HownI.out.below hbJ).sll
                           have HSJ := Lib.hid hownJ.sll
                           have HbHJ := Lib.hid (HbHI.out.trans (hbJ.mono HbHI.out.size))
                           have HbJ := Lib.hid (HbI.out.trans (hbJ.mono hsI))
                           have hsJ := HbJ.out.size
                           clear hOJ hownJ hbJ)
                        | fail)
                      clear t0 tI HownI HbHI
                      have F0 := cell_of_row wJ Fb 0 _ _ _ ((HbHJ.out.block Fb (by omega)).trans ((HbFH.out.block Fb hsEF).trans HF.out))
                      have H0 := cell_of_row wJ Hb' 0 _ _ _ ((HbHJ.out.block Hb' hsGH).trans HH.out)
                      have HSm1 := Lib.hid (sameRef_any DE DG rr.length kE rr.length kG rr rr wJ ((HSF.out.below HbFH.out).below HbHJ.out) (HSH.out.below HbHJ.out))
                      rw [decide_eq_true rfl] at HSm1
                      have HSm2 := Lib.hid (fun W (hW : Below wJ.heap.size wJ W) => sameL_any AI OI.length cI OI AJ OJ.length cJ OJ W (HSI.out.below hW) (HSJ.out.below hW) (by rw [HOI.out, HOJ.out]))
                      go_wp2_with (first
                        | (go_at_call 18
                           refine HSm1.out.mono ?_
                           rintro e wK ⟨rfl, hbK⟩
                           have HbK := Lib.hid hbK
                           clear hbK)
                        | (go_at_call 22
                           refine (HSm2.out _ HbK.out).mono ?_
                           rintro e wM ⟨rfl, hbM⟩
                           have HbM := Lib.hid (HbJ.out.trans ((HbK.out.trans (hbM.mono HbK.out.size)).mono hsJ))
                           clear hbM)
                        | fail)
                      go_roundw
                      case rel => exact ⟨i + 1, by go_num, by omega, Hbi.out.trans ((Hbb.out.trans (HbM.out.mono hsb)).mono hsi)⟩
                      case measure => simp [intOf]; omega
                    · obtain rfl : i = 2 := by omega
                      obtain ⟨wP, rfl⟩ : ∃ wP : World, wP = wr := ⟨_, rfl⟩
                      have hb18 := Hb18.out
                      have hw18 : IntKind.i64.wrap (m18 - 1) = m18 - 1 := IntWalk.i64_in _ (by omega)
                      have hii : ¬ ((2 : Nat) : Int) < 2 := by omega
                      have hid : decide (((2 : Nat) : Int) < 2) = false := rfl
                      go_upto_region 47 with (first
                        | (go_at_call 26; refine (HM18.out _).mono ?_; rintro e w' ⟨rfl, rfl⟩)
                        | fail)
                      obtain ⟨wQ, hwQ⟩ : ∃ wQ : World, wQ = wP.alloc (.cells #[.int .i64 sch, .int .i64 (m18 - 1)] 3) := ⟨_, rfl⟩
                      rw [← hwQ]
                      have HQ : Hid (wQ.heap[wP.heap.size]? = some (.cells #[.int .i64 sch, .int .i64 (m18 - 1)] 3 (0, 0))) := Lib.hid (by rw [hwQ]; exact heap_alloc_new wP _)
                      have hbPQ : Below wP.heap.size wP wQ := by rw [hwQ]; exact (Below.refl _ _).alloc (Nat.le_refl _) _
                      have hsPQ : wP.heap.size < wQ.heap.size := by rw [hwQ]; simp
                      have HbDQ := Lib.hid (Hbi.out.trans (hbPQ.mono hsi))
                      obtain ⟨Q, hQ⟩ : ∃ Q, wP.heap.size = Q := ⟨_, rfl⟩
                      rw [hQ] at HQ hsPQ ⊢
                      have HQs : Hid (∀ i, i < 2 → ∃ s : Int, ∀ W, Below wQ.heap.size wQ W → W.cell? ⟨Q, i, none⟩ = some (.int .i64 s)) := Lib.hid (by
                        intro i hi
                        have hcell : ∀ W, Below wQ.heap.size wQ W → W.heap[Q]? = _ := fun W hW => (hW.block Q hsPQ).trans HQ.out
                        rcases (show i = 0 ∨ i = 1 by omega) with rfl | rfl
                        · exact ⟨sch, fun W hW => cell_of_row _ _ 0 _ _ _ (hcell W hW)⟩
                        · exact ⟨m18 - 1, fun W hW => cell_of_row _ _ 1 _ _ _ (hcell W hW)⟩)
                      have HXQ := Lib.hid (HXD.out.below HbDQ.out)
                      have hsDQ := HbDQ.out.size
                      clear hwQ HQ hbPQ hQ Hbi hsi hii hid hi hi2
                      go_wp2_with fail
                      go_loopw [244] (fun iv wr => ∃ i : Nat, iv = .int .i64 (i : Int) ∧ i ≤ 2 ∧ Below wQ.heap.size wQ wr) (fun iv _ => 2 - (intOf iv).toNat)
                      case atStart => exact ⟨0, rfl, by omega, Below.refl _ _⟩
                      case round =>
                        obtain ⟨i, rfl, hi2, hbi⟩ := hrel
                        have Hbi := Lib.hid hbi
                        have hsi := hbi.size
                        clear hbi
                        by_cases hi : i < 2
                        · have hi' : (i : Int) < 2 := by omega
                          obtain ⟨s, hs⟩ := HQs.out i hi
                          have cQ := hs wr Hbi.out
                          have hQr : Q < wr.heap.size := by omega
                          have HC1 := Lib.hid (claimed_any XA xn xc xl s wr (HXQ.out.below Hbi.out) (Nat.le_trans (Hxre.out _) (by omega)))
                          have HC2 := Lib.hid (fun W (hW : Below wr.heap.size wr W) => claimed13_any XA xn xc xl s W ((HXQ.out.below Hbi.out).below hW) Hcut.out)
                          obtain ⟨⟨rr, re⟩, hrr⟩ : ∃ p, claimedP (lns xl) s = p := ⟨_, rfl⟩
                          rw [hrr] at HC1 HC2
                          clear hs hrr
                          go_upto_region 50 with (first
                            | (go_at_call 12
                               refine HC1.out.mono ?_
                               rintro e wE ⟨vE, rfl, hownE, hbE⟩
                               dsimp only at hownE ⊢
                               obtain ⟨DE, kE, rfl, hSE⟩ := SlR.of_own hownE
                               have HSE := Lib.hid hSE
                               have HbE := Lib.hid hbE
                               have hsE := hbE.size
                               clear hownE hbE hSE)
                            | fail)
                          clear cQ
                          obtain ⟨wF, hwF⟩ : ∃ wF : World, wF = wE.alloc (.cells #[.slice DE rr.length kE] 33) := ⟨_, rfl⟩
                          rw [← hwF]
                          have HF : Hid (wF.heap[wE.heap.size]? = some (.cells #[.slice DE rr.length kE] 33 (0, 0))) := Lib.hid (by rw [hwF]; exact heap_alloc_new wE _)
                          have hbEF : Below wE.heap.size wE wF := by rw [hwF]; exact (Below.refl _ _).alloc (Nat.le_refl _) _
                          have hsEF : wE.heap.size < wF.heap.size := by rw [hwF]; simp
                          have HbF := Lib.hid (HbE.out.trans (hbEF.mono hsE))
                          have HSF := Lib.hid (HSE.out.below hbEF)
                          obtain ⟨Fb, hFb'⟩ : ∃ Fb, wE.heap.size = Fb := ⟨_, rfl⟩
                          rw [hFb'] at HF hsEF ⊢
                          have hsbF := HbF.out.size
                          clear hwF hbEF hFb' HbE HSE
                          go_upto_region 51 with (first
                            | (go_at_call 33
                               refine (HC2.out _ HbF.out).mono ?_
                               rintro e wG ⟨DG, kG, rfl, hSG, hbG⟩
                               dsimp only at hSG ⊢
                               have HSG := Lib.hid hSG
                               have HbFG := Lib.hid hbG
                               have hsFG := hbG.size
                               clear hbG hSG)
                            | fail)
                          obtain ⟨wH, hwH⟩ : ∃ wH : World, wH = wG.alloc (.cells #[.slice DG rr.length kG] 33) := ⟨_, rfl⟩
                          rw [← hwH]
                          have HH : Hid (wH.heap[wG.heap.size]? = some (.cells #[.slice DG rr.length kG] 33 (0, 0))) := Lib.hid (by rw [hwH]; exact heap_alloc_new wG _)
                          have hbGH : Below wG.heap.size wG wH := by rw [hwH]; exact (Below.refl _ _).alloc (Nat.le_refl _) _
                          have hsGH : wG.heap.size < wH.heap.size := by rw [hwH]; simp
                          have HbFH := Lib.hid (HbFG.out.trans (hbGH.mono hsFG))
                          have HSH := Lib.hid (HSG.out.below hbGH)
                          obtain ⟨Hb', hHb'⟩ : ∃ Hb', wG.heap.size = Hb' := ⟨_, rfl⟩
                          rw [hHb'] at HH hsGH ⊢
                          have hsFH := HbFH.out.size
                          have F0 := cell_of_row wH Fb 0 _ _ _ ((HbFH.out.block Fb hsEF).trans HF.out)
                          have H0 := cell_of_row wH Hb' 0 _ _ _ HH.out
                          have HSm1 := Lib.hid (sameRef_any DE DG rr.length kE rr.length kG rr rr wH (HSF.out.below HbFH.out) HSH.out)
                          rw [decide_eq_true rfl] at HSm1
                          clear hwH hbGH hHb' HbFG HSG HSF HC1 HC2
                          go_wp2_with (first
                            | (go_at_call 18
                               refine HSm1.out.mono ?_
                               rintro e wK ⟨rfl, hbK⟩
                               have HbK := Lib.hid (HbF.out.trans ((HbFH.out.trans (hbK.mono hsFH)).mono hsbF))
                               clear hbK)
                            | fail)
                          go_roundw
                          case rel => exact ⟨i + 1, by go_num, by omega, Hbi.out.trans (HbK.out.mono hsi)⟩
                          case measure => simp [intOf]; omega
                        · obtain rfl : i = 2 := by omega
                          have hid : decide (((2 : Nat) : Int) < 2) = false := rfl
                          have Hbe := Lib.hid (HbDQ.out.trans (Hbi.out.mono hsDQ))
                          go_wp2
                          go_roundw
                          case rel => exact ⟨j + 1, rB, by go_num, by omega, HTD.out.below Hbe.out hgD, only_below HkD.out Hbe.out hs8D⟩
                          case measure => simp [intOf]; omega
          · obtain rfl : j = 3 := by omega
            have hjd : decide (((3 : Nat) : Int) < 3) = false := rfl
            go_wp2_with (first | (go_at_call 16; refine (awake13_any _).mono ?_; rintro e w9 ⟨rfl, hb9⟩; have Hb9 := Lib.hid hb9; clear hb9) | fail)
            go_ret
            have h1 := below_only Hba8.out Hkr.out (by omega) (by omega)
            exact ⟨rfl, h1.trans (Hb9.out.mono h1.size)⟩
end Go.Proofs.YtglanlpjoaholaaGreat
