/- OutlineOrder: what is known of the rings of a region that is drawn by a tape; the walk. -/
import Derived.Test.YtpcfhcdbibklcaaGreatGM2
import Derived.Test.YtpcfhcdbibklcaaGreatF5
namespace Go.Proofs.YtpcfhcdbibklcaaGreat
open Go.RowKit Go.Shelf
set_option linter.unusedVariables false
set_option linter.unusedSimpArgs false

theorem ins_sd {l : List R4} {s : Nat} (h : InS s l) : Sd (inL l) s := fun x y hx => by
  have := (inL_grid h).bd x y hx
  omega
theorem ins_pos {l : List R4} {s : Nat} (h : InS s l) : ∀ q ∈ l, q.l < q.r := fun q hq => (h q hq).2.1
theorem reg_len {l : List R4} {s : Nat} (h : InS s l) (hs : s ≤ 10) : (edgesP l).length ≤ 220 := by
  have h1 := eset_len (edges_set l (ins_pos h)) (ins_sd h)
  have h2 : s * (s + 1) ≤ 10 * 11 := Nat.mul_le_mul hs (by omega)
  omega
/-- The rings of a region within a small side. -/
theorem reg_rings {l : List R4} {s m : Nat} (h : Reg s m l) (hs : s ≤ 10) (hm : m ≤ 120) {rs : List (List Pt)} {err : Int} (hr : RgRes l rs err) :
    err = 0 ∧ ∃ cs, Rings (inL l) (edgesP l) cs ∧ rs.Perm (cs.map ringOf) ∧ rs.Pairwise (fun a b => befR a b = true) ∧ 4 * cs.length ≤ 220 ∧ ∀ r ∈ rs, r.length ≤ 220 := by
  obtain ⟨cs, h1, h2⟩ := hr.good (h.valid (by omega) hm)
  have hset := edges_set l (ins_pos h.ins)
  have hlen := reg_len h.ins hs
  obtain ⟨g1, g2⟩ := rings_len hset h1
  rcases h2 with ⟨hb, _⟩ | ⟨_, h3, h4, h5⟩
  · exfalso
    rcases hb with hb | ⟨r, hr, hb⟩
    · omega
    · obtain ⟨c, hc, rfl⟩ := List.mem_map.1 hr
      have := g2 c hc
      omega
  · refine ⟨h3, cs, h1, h4, rings_strict hset h1 h4 h5, by omega, fun r hr => ?_⟩
    obtain ⟨c, hc, rfl⟩ := List.mem_map.1 (h4.mem_iff.1 hr)
    have := g2 c hc
    omega
theorem ring_facts {l : List R4} {s : Nat} (h : InS s l) (hs : s ≤ 10) {c : R4 × List R4} (hr : Ring1 (inL l) (edgesP l) c.1 c.2) (hlen : (ringOf c).length ≤ 220) : ringP (ringOf c) = 0 ∧ ringOf c ≠ [] ∧ ∀ p ∈ ringOf c, ¬ lowB p (hdP (ringOf c)) := by
  have hset := edges_set l (ins_pos h)
  obtain ⟨y, m, e, h1⟩ := crn_ring hset hr
  rw [ringOf_eq, e] at hlen ⊢
  rw [List.length_map] at hlen
  refine ⟨rd_ring h1 (ins_sd h) (by omega) (by omega), by simp, fun p hp => ?_⟩
  show ¬ lowB p y.1
  obtain ⟨x, hx, rfl⟩ := List.mem_map.1 hp
  rcases List.mem_cons.1 hx with rfl | hx
  · unfold lowB; omega
  · exact h1.low x hx
/-- Rings as the law wants them. -/
structure GoodR (rs : List (List Pt)) : Prop where
  few : rs.length ≤ 55
  ok : ∀ r ∈ rs, ringP r = 0
  ne : ∀ r ∈ rs, 0 < r.length
  short : ∀ r ∈ rs, r.length ≤ 220
  low : ∀ r ∈ rs, ∀ p ∈ r, ¬ lowB p (hdP r)
  ord : rs.Pairwise fun a b => befR a b = true
theorem reg_good {l : List R4} {s m : Nat} (h : Reg s m l) (hs : s ≤ 10) (hm : m ≤ 120) {rs : List (List Pt)} {err : Int} (hr : RgRes l rs err) : err = 0 ∧ GoodR rs := by
  obtain ⟨h1, cs, h2, h3, h4, h5, h6⟩ := reg_rings h hs hm hr
  have hf : ∀ r ∈ rs, ringP r = 0 ∧ r ≠ [] ∧ ∀ p ∈ r, ¬ lowB p (hdP r) := fun r hr => by
    have hl := h6 r hr
    obtain ⟨c, hc, rfl⟩ := List.mem_map.1 (h3.mem_iff.1 hr)
    exact ring_facts h.ins hs (h2.ring c hc) hl
  have hlen := h3.length_eq
  rw [List.length_map] at hlen
  exact ⟨h1, by omega, fun r hr => (hf r hr).1, fun r hr => List.length_pos_iff.2 (hf r hr).2.1, h6, fun r hr => (hf r hr).2.2, h4⟩
theorem hdP_at {r : List Pt} (h : 0 < r.length) : hdP r = r[0] := by
  cases r with
  | nil => simp at h
  | cons a t => rfl
set_option maxHeartbeats 8000000 in
set_option maxRecDepth 100000 in
theorem orderLaw (A0 : Option Addr) (n0 c0 : Nat) (zs : List Int) (w : World) (hn : zs.length = n0) (hc : n0 ≤ c0) (hm : c0 ≤ maxLen) (hw : ∀ z ∈ zs, (Lit.int .i64 z).wf = true) (hA : Lies w A0 n0 (zs.map (.int .i64))) :
    Calls Tryz.prog 4 #[.slice A0 n0 c0] w fun e w' => e = .returned (.bool true) ∧ Below w.heap.size w w' := by
  have HN := Lib.hid (new_any A0 n0 c0 zs w hn hc hm hw hA)
  have HAw := Lib.hid (fun W => awake05_any W)
  clear hn hw hA
  go_enter Tryz.func4, Tryz.ntmps4
  go_upto_region 2 with (first
    | (go_at_call 8
       refine HN.out.mono ?_
       rintro e w0 ⟨g, rfl, hg, ht, hb0⟩
       have HT0 := Lib.hid ht
       have Hb0 := Lib.hid hb0
       clear ht hb0)
    | (go_at_call 9
       refine (region_any g _ 9 5 _ HT0.out (by omega) (by omega)).mono ?_
       rintro e w1 ⟨v1, rfl, hown1, -, hg1⟩
       obtain ⟨hreg⟩ : Nonempty (Reg (9 : Nat) 45 (mkReg (zs.take 400) 9 5).1) := ⟨by have := mkReg_reg (zs.take 400) 9 5 (by omega) (by omega) (by omega) (by omega); exact this⟩
       obtain ⟨C, cc, rfl, hC⟩ := SlR.of_own hown1
       obtain ⟨l, hl⟩ : ∃ l, (mkReg (zs.take 400) 9 5).1 = l := ⟨_, rfl⟩
       rw [hl] at hC hreg
       rw [hl]
       obtain ⟨m, hm2⟩ : ∃ m, l.length = m := ⟨_, rfl⟩
       rw [hm2] at hC
       rw [hm2]
       have HC := Lib.hid hC
       have Hb1 : Hid (Below w.heap.size w w1) := Lib.hid (below_only Hb0.out hg1 hg Hb0.out.size)
       have hs1 := Hb1.out.size
       have HR := Lib.hid (fun W (h : SlR W C m cc l) => rings_any C m cc l W h (by have := reg_len hreg.ins (by omega); omega))
       have Hgood : Hid (∀ rs err, RgRes l rs err → err = 0 ∧ GoodR rs) := Lib.hid (fun rs err h => reg_good hreg (by omega) (by omega) h)
       clear hown1 hg1 hl hC hreg hm2)
    | fail)
  obtain ⟨w2, hw2⟩ : ∃ w2 : World, w2 = w1.alloc (.cells #[.slice C m cc] 25) := ⟨_, rfl⟩
  rw [← hw2]
  have hr2 : w2.heap[w1.heap.size]? = some (.cells #[.slice C m cc] 25 (0, 0)) := by rw [hw2]; exact heap_alloc_new w1 _
  have c2 := cell_of_row w2 w1.heap.size 0 _ _ _ hr2
  have HC2 : Hid (SlR w2 C m cc l) := Lib.hid (by rw [hw2]; exact HC.out.below (by repeat' (first | with_reducible exact Below.refl _ _ | with_reducible refine below_drewN ?_ _ | with_reducible refine Below.drew ?_ | with_reducible refine Below.alloc ?_ ?_ _ | with_reducible refine Below.setCell ?_ ?_ _ | with_reducible refine Below.trans ?_ (Below.mono (by with_reducible assumption) ?_) | (simp; done) | (simp; omega) | omega)))
  have Hb2 : Hid (Below w.heap.size w w2) := Lib.hid (by rw [hw2]; exact Hb1.out.alloc hs1 _)
  clear hw2 hr2 HC Hb1 HN Hb0 HT0
  generalize w1.heap.size = G at *
  go_upto_region 5 with (first
    | (go_at_call 13
       refine (HR.out _ HC2.out).mono ?_
       rintro e w3 ⟨v, rs, err, rfl, hrg, hb3, hres⟩
       obtain ⟨rfl, hgood⟩ := Hgood.out _ _ hres
       obtain ⟨RA, rc, rl, rfl, hsl, hrp⟩ := hrg.sl
       rw [← hrp] at hgood
       obtain ⟨N, hN⟩ : ∃ N, rs.length = N := ⟨_, rfl⟩
       rw [hN] at hsl
       rw [hN]
       have Hsl := Lib.hid hsl
       have Hgd := Lib.hid hgood
       have hN55 : N ≤ 55 := by have h1 := hgood.few; have h2 := hsl.len; rw [rgPts_len] at h1; omega
       have Hb3 : Hid (Below w.heap.size w w3) := Lib.hid (Hb2.out.trans (hb3.mono Hb2.out.size))
       have hs3 := Hb3.out.size
       clear hrg hb3 hres hrp hgood hsl hN c2)
    | fail)
  have hlen := Hsl.out.len
  clear HR Hgood HC2 Hb2
  go_wp2
  go_loopw [23] (fun iv wr => ∃ i : Nat, i ≤ N ∧ iv = .int .i64 (i : Int) ∧ Below w3.heap.size w3 wr) (fun iv _ => N - (intOf iv).toNat)
  case atStart => exact ⟨0, Nat.zero_le _, rfl, Below.refl _ _⟩
  case round =>
    obtain ⟨i, hi, rfl, hbr⟩ := hrel
    have Hbr := Lib.hid hbr
    clear hbr
    by_cases hiN : i < N
    · have hiN' : (i : Int) < (N : Int) := by omega
      have hil : i < rl.length := by omega
      obtain ⟨b, off, rfl, hb, r0, hpt⟩ := (Hsl.out.below Hbr.out).at i hil
      have hmem : rl[i].1 ∈ rgPts rl := List.mem_map.2 ⟨rl[i], List.getElem_mem _, rfl⟩
      have Hok := Lib.hid (Hgd.out.ok _ hmem)
      have Hlow := Lib.hid (Hgd.out.low _ hmem)
      have hshort := Hgd.out.short _ hmem
      have hne := Hgd.out.ne _ hmem
      have Hprev : Hid (∀ h : 0 < i, befR (rl[i - 1]'(by omega)).1 rl[i].1 = true ∧ 0 < (rl[i - 1]'(by omega)).1.length) := Lib.hid fun h => by
        have h1 := List.pairwise_iff_getElem.1 Hgd.out.ord (i - 1) i (by rw [rgPts_len]; omega) (by rw [rgPts_len]; exact hil) (by omega)
        simp only [rgPts, List.getElem_map] at h1
        exact ⟨h1, Hgd.out.ne _ (List.mem_map.2 ⟨rl[i - 1]'(by omega), List.getElem_mem _, rfl⟩)⟩
      obtain ⟨x, hx⟩ : ∃ x, rl[i] = x := ⟨_, rfl⟩
      rw [hx] at r0 hpt Hok Hlow hshort hne Hprev
      clear hx hmem
      obtain ⟨p, hv⟩ := x
      dsimp only at *
      obtain ⟨M, hM⟩ : ∃ M, p.length = M := ⟨_, rfl⟩
      have HM := Lib.hid hM
      have Hpt := Lib.hid hpt
      rw [hM] at r0 Hpt hshort hne
      clear hM hpt
      have HRg := Lib.hid (fun W (h : SlPt W hv.a M hv.c p) => ring_any hv.a M hv.c p W h)
      rw [Hok.out] at HRg
      have hMz : ¬ (M : Int) = 0 := by omega
      obtain ⟨wo, hwo⟩ : ∃ wo : World, wo = wr := ⟨_, rfl⟩
      rw [← hwo] at Hbr hb r0 Hpt ⊢
      clear hwo
      have hso := Hbr.out.size
      have hp0 : 0 < p.length := by have := HM.out; omega
      go_upto_region 10 with (first
        | (go_at_call 14
           refine (HRg.out _ Hpt.out).mono ?_
           rintro e w4 ⟨rfl, hb4⟩
           have Hb4 : Hid (Below wo.heap.size wo w4) := Lib.hid hb4
           have hs4 := hb4.size
           clear hb4 r0)
        | fail)
      obtain ⟨b1, off1, hAe, hb1, h0, h1⟩ := Hpt.out.at 0 hp0
      rw [Nat.zero_mul, Nat.add_zero] at h0
      rw [Nat.zero_mul, Nat.add_zero] at h1
      have HAe := Lib.hid hAe
      rw [hAe]
      rw [hAe] at Hpt
      have Hhd : Hid (hdP p = p[0]) := Lib.hid (hdP_at hp0)
      obtain ⟨h, hh⟩ : ∃ h, p[0] = h := ⟨_, rfl⟩
      rw [hh] at h0 h1 Hhd
      have Hh := Lib.hid hh
      rw [Hhd.out] at Hlow
      have Hpb : Hid (0 < i → ∃ q : Pt, (rl[i - 1]'(by omega)).1.head? = some q ∧ (q.2 < h.2 ∨ (q.2 = h.2 ∧ q.1 < h.1))) := Lib.hid fun h0i => by
        obtain ⟨g1, g2⟩ := Hprev.out h0i
        rw [befR_iff, Hhd.out] at g1
        cases hq : (rl[i - 1]'(by omega)).1 with
        | nil => rw [hq] at g2; simp at g2
        | cons a t =>
          rw [hq] at g1
          exact ⟨a, rfl, g1⟩
      clear hAe hh Hprev HRg
      obtain ⟨ha, hb'⟩ := h
      dsimp only at *
      go_wp2
      go_loopw [38] (fun kv wr => ∃ k : Nat, k ≤ M ∧ kv = .int .i64 (k : Int) ∧ Below wo.heap.size wo wr) (fun kv _ => M - (intOf kv).toNat)
      case atStart => exact ⟨0, Nat.zero_le _, rfl, Hb4.out⟩
      case round =>
        obtain ⟨k, hk, rfl, hbk⟩ := hrel
        have Hbk := Lib.hid hbk
        have hsk := hbk.size
        have h0k := (hbk.cell (p := ⟨b1, off1, none⟩) hb1).trans h0
        have h1k := (hbk.cell (p := ⟨b1, off1 + 1, none⟩) hb1).trans h1
        clear hbk
        by_cases hkM : k < M
        · have hkM' : (k : Int) < (M : Int) := by omega
          have hkl : k < p.length := by have := HM.out; omega
          obtain ⟨_, _, e1, -, p0, p1⟩ := (Hpt.out.below Hbk.out).at k hkl
          injection e1 with e1
          injection e1 with e1 e1'
          subst e1 e1'
          have Hlk := Lib.hid (Hlow.out _ (List.getElem_mem hkl))
          generalize p[k] = z at *
          obtain ⟨zx, zy⟩ := z
          dsimp only at *
          have hl1 : ¬ (zy < hb' ∨ (zy = hb' ∧ zx < ha)) := Hlk.out
          have hbk1 : b1 < wr.heap.size := by omega
          have hrow := heap_alloc_new wr (.cells #[.int .i64 zx, .int .i64 zy] 43)
          have Hba : Hid (Below wr.heap.size wr (wr.alloc (.cells #[.int .i64 zx, .int .i64 zy] 43))) := Lib.hid (by repeat' (first | with_reducible exact Below.refl _ _ | with_reducible refine below_drewN ?_ _ | with_reducible refine Below.drew ?_ | with_reducible refine Below.alloc ?_ ?_ _ | with_reducible refine Below.setCell ?_ ?_ _ | with_reducible refine Below.trans ?_ (Below.mono (by with_reducible assumption) ?_) | (simp; done) | (simp; omega) | omega))
          have hla : wr.heap.size < (wr.alloc (.cells #[.int .i64 zx, .int .i64 zy] 43)).heap.size := by simp
          go_upto_region 13 with fail
          obtain ⟨T, hT⟩ : ∃ T, wr.heap.size = T := ⟨_, rfl⟩
          rw [hT] at hrow hla ⊢
          have hsT : wo.heap.size ≤ T := by omega
          generalize wr.alloc (.cells #[.int .i64 zx, .int .i64 zy] 43) = wa at *
          have t0 := cell_of_row wa T 0 _ _ _ hrow
          have t1 := cell_of_row wa T 1 _ _ _ hrow
          have h0a := (Hba.out.cell (p := ⟨b1, off1, none⟩) hbk1).trans h0k
          have h1a := (Hba.out.cell (p := ⟨b1, off1 + 1, none⟩) hbk1).trans h1k
          have Hbka : Hid (Below wo.heap.size wo wa) := Lib.hid (Hbk.out.trans (Hba.out.mono hsk))
          clear p0 p1 hrow hT h0k h1k
          rcases (show hb' < zy ∨ (zy = hb' ∧ ha ≤ zx) by omega) with hlt | ⟨heq, hge⟩
          · have hn1 : ¬ zy < hb' := by omega
            have hn2 : ¬ zy = hb' := by omega
            clear hlt hl1
            go_quiet (fail)
            go_wp2
            go_roundw
            case rel => exact ⟨_, _, _, ⟨k + 1, by omega, by go_num, below_drewN Hbka.out _⟩, rfl, rfl, rfl⟩
            case measure => simp [intOf]; omega
          · have hn1 : ¬ zy < hb' := by omega
            have hn2 : ¬ zx < ha := by omega
            clear hge hl1
            go_quiet (fail)
            go_wp2
            go_roundw
            case rel => exact ⟨k + 1, by omega, by go_num, below_drewN Hbka.out _⟩
            case measure => simp [intOf]; omega
        · obtain rfl : k = M := by omega
          have hkM' : ¬ (k : Int) < (k : Int) := by omega
          have Hbw : Hid (Below w3.heap.size w3 wr) := Lib.hid (Hbr.out.trans (Hbk.out.mono hso))
          by_cases hi0 : 0 < i
          · have hi0' : (0 : Int) < (i : Int) := by omega
            have hwi : IntKind.i64.wrap ((i : Int) - 1) = ((i - 1 : Nat) : Int) := by rw [IntWalk.i64_in _ (by omega)]; omega
            have hip : ((i - 1 : Nat) : Int) < (N : Int) := by omega
            have hipl : i - 1 < rl.length := by omega
            obtain ⟨_, _, e2, hbq, rq, hpq⟩ := (Hsl.out.below Hbw.out).at (i - 1) hipl
            injection e2 with e2
            injection e2 with e2 e2'
            subst e2 e2'
            obtain ⟨q, hqh, hqlt⟩ := Hpb.out hi0
            obtain ⟨xq, hxq⟩ : ∃ xq, rl[i - 1] = xq := ⟨_, rfl⟩
            rw [hxq] at rq hpq hqh
            clear hxq Hpb
            obtain ⟨pq, hvq⟩ := xq
            dsimp only at *
            obtain ⟨Mq, hMq⟩ : ∃ Mq, pq.length = Mq := ⟨_, rfl⟩
            have hMq0 : 0 < pq.length := by
              cases pq with
              | nil => simp at hqh
              | cons a t => simp
            have hMq1 : (0 : Int) < (Mq : Int) := by omega
            obtain ⟨b2, off2, hBe, hb2, j0, j1⟩ := hpq.at 0 hMq0
            have hq0 : pq[0] = q := by
              cases pq with
              | nil => simp at hqh
              | cons a t => simpa using hqh
            rw [hq0, Nat.zero_mul, Nat.add_zero] at j0
            rw [hq0, Nat.zero_mul, Nat.add_zero] at j1
            rw [hMq, hBe] at rq
            obtain ⟨qx, qy⟩ := q
            dsimp only at *
            clear hpq hqh hq0 hMq hMq0 hBe
            have hrow := heap_alloc_new wr (.cells #[.int .i64 qx, .int .i64 qy] 43)
            have Hba : Hid (Below wr.heap.size wr (wr.alloc (.cells #[.int .i64 qx, .int .i64 qy] 43))) := Lib.hid (by repeat' (first | with_reducible exact Below.refl _ _ | with_reducible refine below_drewN ?_ _ | with_reducible refine Below.drew ?_ | with_reducible refine Below.alloc ?_ ?_ _ | with_reducible refine Below.setCell ?_ ?_ _ | with_reducible refine Below.trans ?_ (Below.mono (by with_reducible assumption) ?_) | (simp; done) | (simp; omega) | omega))
            have hla : wr.heap.size < (wr.alloc (.cells #[.int .i64 qx, .int .i64 qy] 43)).heap.size := by simp
            have hbk1 : b1 < wr.heap.size := by omega
            go_upto_region 18 with fail
            obtain ⟨T, hT⟩ : ∃ T, wr.heap.size = T := ⟨_, rfl⟩
            have hsT := Hbw.out.size
            rw [hT] at hrow hla hsT ⊢
            have Hbwa : Hid (Below w3.heap.size w3 (wr.alloc (.cells #[.int .i64 qx, .int .i64 qy] 43))) := Lib.hid (Hbw.out.alloc (by omega) _)
            generalize wr.alloc (.cells #[.int .i64 qx, .int .i64 qy] 43) = wa at *
            have t0 := cell_of_row wa T 0 _ _ _ hrow
            have t1 := cell_of_row wa T 1 _ _ _ hrow
            have h0a := (Hba.out.cell (p := ⟨b1, off1, none⟩) hbk1).trans h0k
            have h1a := (Hba.out.cell (p := ⟨b1, off1 + 1, none⟩) hbk1).trans h1k
            clear hrow hT h0k h1k rq j0 j1
            rcases hqlt with hlt | ⟨heq, hge⟩
            · have hn1 : ¬ hb' < qy := by omega
              have hn2 : ¬ hb' = qy := by omega
              clear hlt
              go_quiet (fail)
              go_wp2
              go_roundw
              case rel => exact ⟨i + 1, by omega, by go_num, below_drewN Hbwa.out _⟩
              case measure => simp [intOf]; omega
            · subst heq
              have hn1 : ¬ qy < qy := by omega
              have hn2 : ¬ ha ≤ qx := by omega
              clear hge
              go_quiet (fail)
              go_wp2
              go_roundw
              case rel => exact ⟨i + 1, by omega, by go_num, below_drewN Hbwa.out _⟩
              case measure => simp [intOf]; omega
          · have hi0' : ¬ (0 : Int) < (i : Int) := by omega
            go_wp2
            go_roundw
            case rel => exact ⟨i + 1, by omega, by go_num, Hbw.out⟩
            case measure => simp [intOf]; omega
    · obtain rfl : i = N := by omega
      have hiN' : ¬ (i : Int) < (i : Int) := by omega
      go_wp2_with (first
        | (go_at_call 12
           refine (HAw.out _).mono ?_
           rintro e w5 ⟨rfl, hb5⟩
           have Hb5 : Hid (Below w.heap.size w w5) := Lib.hid (Hb3.out.trans ((Hbr.out.trans (hb5.mono Hbr.out.size)).mono hs3))
           clear hb5)
        | fail)
      go_ret
      exact ⟨rfl, Hb5.out⟩
end Go.Proofs.YtpcfhcdbibklcaaGreat
