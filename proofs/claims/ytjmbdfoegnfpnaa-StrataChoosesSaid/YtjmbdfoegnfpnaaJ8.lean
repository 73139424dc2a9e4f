/- Contracts: how many units of each stratum are controlled (strata and its reference: Sizes). -/
import Derived.Test.YtjmbdfoegnfpnaaJ7
import Derived.Test.YtjmbdfoegnfpnaaJ4
import Derived.Test.YtjmbdfoegnfpnaaDV
namespace Go.Proofs.Ytjmbdfoegnfpnaa
open Go.RowKit
set_option linter.unusedVariables false
set_option linter.unusedSimpArgs false

theorem news_any (w : World) (cs : Array Value) (t : TypeId) (j : Nat) (u : Value) (hu : cs.toList[j]? = some u) : (w.alloc (.cells cs t)).cell? ((⟨w.heap.size, 0, none⟩ : Addr).add j) = some u :=
  World.news_of_block (heap_alloc_new w (.cells cs t)) j u hu
def sizeP (q : Pl) (s : Nat) (n : Int) : Int := min n (max q.le (upM (n * q.ss.getD s 0)))
def sizesN (q : Pl) (cs : List Int) (k : Nat) : List Int := (List.range k).map fun i => sizeP q i (cs.getD i 0)
def sizesP (q : Pl) (cs : List Int) : List Int × Int := if checkP q ≠ 0 then ([], checkP q) else if cs.length ≠ q.ss.length ∨ cs.any (outP 0 60) = true then ([], 2) else (sizesN q cs cs.length, 0)
theorem sizesN_len (q : Pl) (cs : List Int) (k : Nat) : (sizesN q cs k).length = k := by simp [sizesN]
theorem sizesN_succ (q : Pl) (cs : List Int) (k : Nat) : sizesN q cs (k + 1) = sizesN q cs k ++ [sizeP q k (cs.getD k 0)] := by simp [sizesN, List.range_succ]
theorem ss_bd {q : Pl} (hc : checkP q = 0) {k : Nat} (hk : k < q.ss.length) : 0 ≤ q.ss[k] ∧ q.ss[k] ≤ 1000 := by
  obtain ⟨-, -, -, -, -, hs, -⟩ := (planB_iff q).1 (checkP_zero hc)
  exact any_out hs _ (List.getElem_mem hk)
theorem le_bd {q : Pl} (hc : checkP q = 0) : 0 ≤ q.le ∧ q.le ≤ 60 := by
  obtain ⟨-, -, -, -, -, -, hs, -⟩ := (planB_iff q).1 (checkP_zero hc)
  simp [outP] at hs
  omega
theorem ss_len {q : Pl} (hc : checkP q = 0) : q.ss.length ≤ 6 := by
  obtain ⟨-, -, h1, -, h2, -⟩ := (planB_iff q).1 (checkP_zero hc)
  omega
theorem sizes_step {q : Pl} {cs : List Int} {k : Nat} (hk : k < cs.length) (hs : k < q.ss.length) : sizesN q cs (k + 1) = sizesN q cs k ++ [min cs[k] (max q.le (upM (cs[k] * q.ss[k])))] := by
  rw [sizesN_succ]
  unfold sizeP
  rw [List.getD_eq_getElem?_getD, List.getD_eq_getElem?_getD, List.getElem?_eq_getElem hk, List.getElem?_eq_getElem hs]
  rfl
-- WALKS
set_option maxHeartbeats 8000000 in
set_option maxRecDepth 100000 in
theorem sizesS_any (p : PlV) (q : Pl) (A : Option Addr) (c : Nat) (cs : List Int) (w : World) (hA : PlAt w p q) (hC : Sl w A c (cs.map (.int .i64))) :
    Calls Try.prog 24 #[.agg #[.slice p.a1 q.ws.length p.c1, .slice p.a2 q.ls.length p.c2, .slice p.a3 q.ss.length p.c3, .int .i64 q.le, .int .i64 q.ra], .slice A cs.length c] w (SamplePost w (sizesP q cs)) := by
  obtain ⟨i0, hi, hz0, hz1, hz2⟩ := info_parts Try.infoIn
  have Hv : Hid (sizesP q cs = if checkP q ≠ 0 then ([], checkP q) else if cs.length ≠ q.ss.length ∨ cs.any (outP 0 60) = true then ([], 2) else (sizesN q cs cs.length, 0)) := Lib.hid rfl
  generalize sizesP q cs = res at *
  go_enter Try.func24, Try.ntmps24
  go_upto_region 1 with fail
  obtain ⟨wa, hwa⟩ : ∃ wa : World, wa = w.alloc (.cells #[.slice p.a1 q.ws.length p.c1, .slice p.a2 q.ls.length p.c2, .slice p.a3 q.ss.length p.c3, .int .i64 q.le, .int .i64 q.ra] 24) := ⟨_, rfl⟩; rw [← hwa]; have Hr : Hid (wa.heap[w.heap.size]? = some (.cells #[.slice p.a1 q.ws.length p.c1, .slice p.a2 q.ls.length p.c2, .slice p.a3 q.ss.length p.c3, .int .i64 q.le, .int .i64 q.ra] 24 (0, 0))) := Lib.hid (by rw [hwa]; exact heap_alloc_new w _); have Hba : Hid (Below w.heap.size w wa) := Lib.hid (by rw [hwa]; exact (by repeat' (first | with_reducible exact Below.refl _ _ | with_reducible refine below_drewN ?_ _ | with_reducible refine Below.drew ?_ | with_reducible refine Below.alloc ?_ ?_ _ | with_reducible refine Below.setCell ?_ ?_ _ | with_reducible refine Below.trans ?_ (Below.mono (by with_reducible assumption) ?_) | (simp; done) | (simp; omega) | omega))); have hl : w.heap.size < wa.heap.size := (by rw [hwa]; simp); clear hwa
  have HA := Lib.hid (hA.below Hba.out)
  have HC := Lib.hid (hC.below Hba.out)
  clear hA hC
  have p0 := cell_of_row wa w.heap.size 0 _ _ _ (((Below.refl wa.heap.size wa).block _ hl).trans Hr.out); have p1 := cell_of_row wa w.heap.size 1 _ _ _ (((Below.refl wa.heap.size wa).block _ hl).trans Hr.out); have p2 := cell_of_row wa w.heap.size 2 _ _ _ (((Below.refl wa.heap.size wa).block _ hl).trans Hr.out); have p3 := cell_of_row wa w.heap.size 3 _ _ _ (((Below.refl wa.heap.size wa).block _ hl).trans Hr.out); have p4 := cell_of_row wa w.heap.size 4 _ _ _ (((Below.refl wa.heap.size wa).block _ hl).trans Hr.out)
  have HK := Lib.hid (checkS_any p q wa HA.out)
  have Hcz : Hid (checkP q = 0 → (∀ k, (h : k < q.ss.length) → 0 ≤ q.ss[k] ∧ q.ss[k] ≤ 1000) ∧ (0 ≤ q.le ∧ q.le ≤ 60) ∧ q.ss.length ≤ 6) := Lib.hid (fun h => ⟨fun k hk => ss_bd h hk, le_bd h, ss_len h⟩)
  generalize checkP q = cq at *
  go_wp2_with fail
  refine HK.out.mono ?_
  rintro e w1 ⟨rfl, hb1⟩
  have Hb1 := Lib.hid hb1
  have hs1 := hb1.size
  clear p0 p1 p2 p3 p4 HK hb1
  by_cases hc : cq = 0
  · subst hc
    obtain ⟨Hss, hle, hs6⟩ := Hcz.out (by simp)
    have Hss := Lib.hid Hss
    have Hle := Lib.hid hle
    clear Hcz hle
    obtain ⟨n, hn⟩ : ∃ n, cs.length = n := ⟨_, rfl⟩
    obtain ⟨m, hm⟩ : ∃ m, q.ss.length = m := ⟨_, rfl⟩
    have Hn := Lib.hid hn
    have Hm := Lib.hid hm
    have Hv2 : Hid (res = if n ≠ m ∨ cs.any (outP 0 60) = true then ([], 2) else (sizesN q cs n, 0)) := Lib.hid (by rw [Hv.out, if_neg (by simp), hn, hm])
    have P2 := cell_of_row w1 w.heap.size 2 _ _ _ ((Hb1.out.block _ hl).trans Hr.out)
    have P3 := cell_of_row w1 w.heap.size 3 _ _ _ ((Hb1.out.block _ hl).trans Hr.out)
    rw [hm] at P2 hs6
    rw [hn]
    clear hn hm Hv
    by_cases hnm : n = m
    · subst hnm
      have HX : Hid (Sl w1 A c (cs.map (.int .i64))) := Lib.hid (HC.out.below Hb1.out)
      go_wp2_with fail
      refine (outside_any 0 60 _).mono ?_
      rintro e w2 ⟨rfl, hw2⟩
      have HL2 : Hid (Lim w2 w1.heap.size (w1.heap.size + 1) 0 60) := Lib.hid (by rw [hw2]; exact Lim.new _ 0 60)
      have Hb12 : Hid (Below w1.heap.size w1 w2) := Lib.hid (by rw [hw2]; exact (by repeat' (first | with_reducible exact Below.refl _ _ | with_reducible assumption | with_reducible refine below_drewN ?_ _ | with_reducible refine Below.drew ?_ | with_reducible refine Below.alloc ?_ ?_ _ | with_reducible refine Below.setCell ?_ ?_ _ | with_reducible refine Below.trans ?_ (Below.mono (by with_reducible assumption) ?_) | with_reducible refine below_only ?_ (by with_reducible assumption) ?_ ?_ | (simp; done) | (simp; omega) | omega)))
      have Hb2 : Hid (Below wa.heap.size wa w2) := Lib.hid (Hb1.out.trans (Hb12.out.mono hs1))
      clear hw2 P2 P3
      go_wp2_with fail
      refine (containsOut_any 0 60 _ _ A n c cs _ HL2.out (HX.out.below Hb12.out) Hn.out).mono ?_
      rintro e w3 ⟨rfl, rfl⟩
      have hs2 := Hb2.out.size
      cases hb : cs.any (outP 0 60) with
      | true =>
        have hR : res = ([], 2) := by rw [Hv2.out, if_pos (.inr hb)]
        subst hR
        clear Hv2
        go_wp2
        refine bodyPost_ret (v := .tuple #[.slice none 0 0, .int .i64 2]) (by simp [results, Try.results24, go_sem, *]) rfl ?_
        exact ⟨_, rfl, World.ownsRow_nil _ _ _ _, (have hba := Hba.out.trans (Hb2.out.mono (Nat.le_of_lt hl)); (by repeat' (first | with_reducible exact Below.refl _ _ | with_reducible assumption | with_reducible refine below_drewN ?_ _ | with_reducible refine Below.drew ?_ | with_reducible refine Below.alloc ?_ ?_ _ | with_reducible refine Below.setCell ?_ ?_ _ | with_reducible refine Below.trans ?_ (Below.mono (by with_reducible assumption) ?_) | with_reducible refine below_only ?_ (by with_reducible assumption) ?_ ?_ | (simp; done) | (simp; omega) | omega)))⟩
      | false =>
        have hR : res = (sizesN q cs n, 0) := by rw [Hv2.out, if_neg (by simp [hb])]
        subst hR
        have Hout := Lib.hid (any_out hb)
        clear Hv2 hb
        go_upto_region 6 with fail
        go_wp2_with fail
        go_loopw [7, 8, 9, 28] (fun v _ _ i wr => ∃ k : Nat, k ≤ n ∧ i = .int .i64 (k : Int) ∧ wr.ownsRow wa.heap.size 3 1 v k ((sizesN q cs k).map (.int .i64)) ∧ Below wa.heap.size wa wr) (fun _ _ _ i _ => n - (intOf i).toNat)
        case atStart => exact ⟨0, Nat.zero_le _, rfl, World.ownsRow_nil _ _ _ _, Hb2.out⟩
        case round =>
          obtain ⟨k, hk, rfl, hown, hbw⟩ := hrel
          have Hbw := Lib.hid hbw
          have hsw := hbw.size
          have Hown := Lib.hid hown
          clear hown hbw
          by_cases hkn : k < n
          · have hkn' : (k : Int) < (n : Int) := by omega
            have hkl : k < cs.length := by have := Hn.out; omega
            have hkm : k < q.ss.length := by have := Hm.out; omega
            obtain ⟨b, off, hAe, hb, ck⟩ := HC.out.at k hkl
            obtain ⟨b', off', hBe, hb', ss⟩ := HA.out.s3.at k hkm
            have P2 := cell_of_row wa w.heap.size 2 _ _ _ Hr.out
            have P3 := cell_of_row wa w.heap.size 3 _ _ _ Hr.out
            rw [Hm.out, hBe] at P2
            have Hs := Lib.hid (sizes_step hkl hkm)
            have hx := Hout.out cs[k] (List.getElem_mem _)
            have hy := Hss.out k hkm
            have Hlen := Lib.hid (sizesN_len q cs k)
            generalize cs[k] = x at *
            generalize q.ss[k] = y at *
            obtain ⟨le, hle⟩ : ∃ le, q.le = le := ⟨_, rfl⟩
            simp only [hle] at P3 Hs
            have hlb := Hle.out
            rw [hle] at hlb
            subst hAe
            clear hBe hkl hkm hle
            have hm0 : 0 ≤ x * y := Int.mul_nonneg hx.1 hy.1
            have hm1 : x * y ≤ 60 * 1000 := Int.mul_le_mul hx.2 hy.2 hy.1 (by omega)
            have hw1 : IntKind.i64.wrap (x * y) = x * y := IntWalk.i64_in _ (by omega)
            have Hup := Lib.hid (fun W => upS_any (x * y) W (by omega) (by omega))
            generalize upM (x * y) = z at *
            generalize (sizesN q cs k) = Q at *
            rw [Hlen.out] at *
            have Hcell : Hid (∀ W, Below wa.heap.size wa W → W.cell? ⟨w.heap.size, 2, none⟩ = some (.slice (some ⟨b', off', none⟩) n p.c3) ∧ W.cell? ⟨w.heap.size, 3, none⟩ = some (.int .i64 le) ∧ W.cell? ⟨b', off' + k, none⟩ = some (.int .i64 y) ∧ W.cell? ⟨b, off + k, none⟩ = some (.int .i64 x)) := Lib.hid (fun W hW => ⟨(hW.cell (p := ⟨w.heap.size, 2, none⟩) hl).trans P2, (hW.cell (p := ⟨w.heap.size, 3, none⟩) hl).trans P3, (hW.cell (p := ⟨b', off' + k, none⟩) hb').trans ss, (hW.cell (p := ⟨b, off + k, none⟩) hb).trans ck⟩)
            clear P2 P3 ss ck
            obtain ⟨P2, P3, ss, ck⟩ := Hcell.out wr Hbw.out
            go_upto_region 10 with fail
            go_region_held3 (fun w' => w'.cell? ⟨w.heap.size, 2, none⟩ = some (.slice (some ⟨b', off', none⟩) n p.c3) ∧ w'.cell? ⟨w.heap.size, 3, none⟩ = some (.int .i64 le) ∧ w'.cell? ⟨b', off' + k, none⟩ = some (.int .i64 y) ∧ w'.cell? ⟨b, off + k, none⟩ = some (.int .i64 x))
              (first | go_keep | ((repeat' apply And.intro) <;> go_keep))
              (first
                | (go_at_call 31
                   refine (Hup.out _).mono ?_
                   rintro e w5 ⟨rfl, rfl⟩)
                | (refine step_append_any _ rfl (.tmp 33) (.tmp 47) 22 rfl wa.heap.size 3 i0 (.int .i64 0) 1 8 Try.underlying22 hi hz0 hz1 hz2 rfl (by omega) u7 k (Q.map (.int .i64)) rfl (ownsRow_below Hown.out (by repeat' (first | with_reducible exact Below.refl _ _ | with_reducible assumption | with_reducible refine below_drewN ?_ _ | with_reducible refine Below.drew ?_ | with_reducible refine Below.alloc ?_ ?_ _ | with_reducible refine Below.setCell ?_ ?_ _ | with_reducible refine Below.trans ?_ (Below.mono (by with_reducible assumption) ?_) | with_reducible refine below_only ?_ (by with_reducible assumption) ?_ ?_ | (simp; done) | (simp; omega) | omega))) _ _ 1 1 [_] rfl ⟨rfl, fun _ => ⟨_, rfl, Nat.lt_succ_self _, fun j u hu => (by exact news_any _ _ _ j u hu)⟩⟩ (by simp [Value.oneCell']) (by simp only [maxLen]; omega) (by omega) (by simp; omega) ?_
                   intro v5 w5 hown5 hg5 hat5
                   have Hb5 : Hid (Below wa.heap.size wa w5) := Lib.hid (Below.grown (have hbb := Hbw.out; (by repeat' (first | with_reducible exact Below.refl _ _ | with_reducible assumption | with_reducible refine below_drewN ?_ _ | with_reducible refine Below.drew ?_ | with_reducible refine Below.alloc ?_ ?_ _ | with_reducible refine Below.setCell ?_ ?_ _ | with_reducible refine Below.trans ?_ (Below.mono (by with_reducible assumption) ?_) | with_reducible refine below_only ?_ (by with_reducible assumption) ?_ ?_ | (simp; done) | (simp; omega) | omega))) hg5 (by simp; omega) (own_base Hown.out))
                   obtain ⟨d2, d3, dd, dk⟩ := Hcell.out w5 Hb5.out)
                | fail)
            go_wp2
            go_roundw
            case rel => exact ⟨k + 1, by omega, by go_num, by rw [Hs.out, List.map_append]; exact hown5, (have hbb := Hb5.out; (by repeat' (first | with_reducible exact Below.refl _ _ | with_reducible assumption | with_reducible refine below_drewN ?_ _ | with_reducible refine Below.drew ?_ | with_reducible refine Below.alloc ?_ ?_ _ | with_reducible refine Below.setCell ?_ ?_ _ | with_reducible refine Below.trans ?_ (Below.mono (by with_reducible assumption) ?_) | with_reducible refine below_only ?_ (by with_reducible assumption) ?_ ?_ | (simp; done) | (simp; omega) | omega)))⟩
            case measure => simp [intOf]; omega
          · obtain rfl : k = n := by omega
            have hkn' : ¬ (k : Int) < (k : Int) := by omega
            go_wp2
            refine bodyPost_ret (v := .tuple #[u7, .int .i64 0]) (by simp [results, Try.results24, go_sem, *]) rfl ?_
            exact ⟨_, rfl, by rw [sizesN_len]; exact own_rebase Hown.out (Nat.le_of_lt hl), (have hba := Hba.out.trans (Hbw.out.mono (Nat.le_of_lt hl)); (by repeat' (first | with_reducible exact Below.refl _ _ | with_reducible assumption | with_reducible refine below_drewN ?_ _ | with_reducible refine Below.drew ?_ | with_reducible refine Below.alloc ?_ ?_ _ | with_reducible refine Below.setCell ?_ ?_ _ | with_reducible refine Below.trans ?_ (Below.mono (by with_reducible assumption) ?_) | with_reducible refine below_only ?_ (by with_reducible assumption) ?_ ?_ | (simp; done) | (simp; omega) | omega)))⟩
    · have hnm' : ¬ (n : Int) = (m : Int) := by omega
      have hnmd : decide ((n : Int) = (m : Int)) = false := decide_eq_false hnm'
      have hR : res = ([], 2) := by rw [Hv2.out, if_pos (.inl hnm)]
      subst hR
      clear Hv2
      go_wp2
      refine bodyPost_ret (v := .tuple #[.slice none 0 0, .int .i64 2]) (by simp [results, Try.results24, go_sem, *]) rfl ?_
      exact ⟨_, rfl, World.ownsRow_nil _ _ _ _, (have hba := Hba.out.trans (Hb1.out.mono (Nat.le_of_lt hl)); (by repeat' (first | with_reducible exact Below.refl _ _ | with_reducible assumption | with_reducible refine below_drewN ?_ _ | with_reducible refine Below.drew ?_ | with_reducible refine Below.alloc ?_ ?_ _ | with_reducible refine Below.setCell ?_ ?_ _ | with_reducible refine Below.trans ?_ (Below.mono (by with_reducible assumption) ?_) | with_reducible refine below_only ?_ (by with_reducible assumption) ?_ ?_ | (simp; done) | (simp; omega) | omega)))⟩
  · have hR : res = ([], cq) := by rw [Hv.out, if_pos hc]
    subst hR
    clear Hv
    go_wp2
    refine bodyPost_ret (v := .tuple #[.slice none 0 0, .int .i64 cq]) (by simp [results, Try.results24, go_sem, *]) rfl ?_
    exact ⟨_, rfl, World.ownsRow_nil _ _ _ _, (have hba := Hba.out.trans (Hb1.out.mono (Nat.le_of_lt hl)); (by repeat' (first | with_reducible exact Below.refl _ _ | with_reducible assumption | with_reducible refine below_drewN ?_ _ | with_reducible refine Below.drew ?_ | with_reducible refine Below.alloc ?_ ?_ _ | with_reducible refine Below.setCell ?_ ?_ _ | with_reducible refine Below.trans ?_ (Below.mono (by with_reducible assumption) ?_) | with_reducible refine below_only ?_ (by with_reducible assumption) ?_ ?_ | (simp; done) | (simp; omega) | omega)))⟩

set_option maxHeartbeats 8000000 in
set_option maxRecDepth 100000 in
theorem sizesR_any (p : PlV) (q : Pl) (A : Option Addr) (c : Nat) (cs : List Int) (w : World) (hA : PlAt w p q) (hC : Sl w A c (cs.map (.int .i64))) :
    Calls Try.prog 25 #[.agg #[.slice p.a1 q.ws.length p.c1, .slice p.a2 q.ls.length p.c2, .slice p.a3 q.ss.length p.c3, .int .i64 q.le, .int .i64 q.ra], .slice A cs.length c] w (SamplePost w (sizesP q cs)) := by
  obtain ⟨i0, hi, hz0, hz1, hz2⟩ := info_parts Try.infoIn
  have Hv : Hid (sizesP q cs = if checkP q ≠ 0 then ([], checkP q) else if cs.length ≠ q.ss.length ∨ cs.any (outP 0 60) = true then ([], 2) else (sizesN q cs cs.length, 0)) := Lib.hid rfl
  generalize sizesP q cs = res at *
  go_enter Try.func25, Try.ntmps25
  go_upto_region 1 with fail
  obtain ⟨wa, hwa⟩ : ∃ wa : World, wa = w.alloc (.cells #[.slice p.a1 q.ws.length p.c1, .slice p.a2 q.ls.length p.c2, .slice p.a3 q.ss.length p.c3, .int .i64 q.le, .int .i64 q.ra] 24) := ⟨_, rfl⟩; rw [← hwa]; have Hr : Hid (wa.heap[w.heap.size]? = some (.cells #[.slice p.a1 q.ws.length p.c1, .slice p.a2 q.ls.length p.c2, .slice p.a3 q.ss.length p.c3, .int .i64 q.le, .int .i64 q.ra] 24 (0, 0))) := Lib.hid (by rw [hwa]; exact heap_alloc_new w _); have Hba : Hid (Below w.heap.size w wa) := Lib.hid (by rw [hwa]; exact (by repeat' (first | with_reducible exact Below.refl _ _ | with_reducible refine below_drewN ?_ _ | with_reducible refine Below.drew ?_ | with_reducible refine Below.alloc ?_ ?_ _ | with_reducible refine Below.setCell ?_ ?_ _ | with_reducible refine Below.trans ?_ (Below.mono (by with_reducible assumption) ?_) | (simp; done) | (simp; omega) | omega))); have hl : w.heap.size < wa.heap.size := (by rw [hwa]; simp); clear hwa
  have HA := Lib.hid (hA.below Hba.out)
  have HC := Lib.hid (hC.below Hba.out)
  clear hA hC
  have p0 := cell_of_row wa w.heap.size 0 _ _ _ (((Below.refl wa.heap.size wa).block _ hl).trans Hr.out); have p1 := cell_of_row wa w.heap.size 1 _ _ _ (((Below.refl wa.heap.size wa).block _ hl).trans Hr.out); have p2 := cell_of_row wa w.heap.size 2 _ _ _ (((Below.refl wa.heap.size wa).block _ hl).trans Hr.out); have p3 := cell_of_row wa w.heap.size 3 _ _ _ (((Below.refl wa.heap.size wa).block _ hl).trans Hr.out); have p4 := cell_of_row wa w.heap.size 4 _ _ _ (((Below.refl wa.heap.size wa).block _ hl).trans Hr.out)
  have HK := Lib.hid (checkR_any p q wa HA.out)
  have Hcz : Hid (checkP q = 0 → (∀ k, (h : k < q.ss.length) → 0 ≤ q.ss[k] ∧ q.ss[k] ≤ 1000) ∧ (0 ≤ q.le ∧ q.le ≤ 60) ∧ q.ss.length ≤ 6) := Lib.hid (fun h => ⟨fun k hk => ss_bd h hk, le_bd h, ss_len h⟩)
  generalize checkP q = cq at *
  go_wp2_with fail
  refine HK.out.mono ?_
  rintro e w1 ⟨rfl, hb1⟩
  have Hb1 := Lib.hid hb1
  have hs1 := hb1.size
  clear p0 p1 p2 p3 p4 HK hb1
  by_cases hc : cq = 0
  · subst hc
    obtain ⟨Hss, hle, hs6⟩ := Hcz.out (by simp)
    have Hss := Lib.hid Hss
    have Hle := Lib.hid hle
    clear Hcz hle
    obtain ⟨n, hn⟩ : ∃ n, cs.length = n := ⟨_, rfl⟩
    obtain ⟨m, hm⟩ : ∃ m, q.ss.length = m := ⟨_, rfl⟩
    have Hn := Lib.hid hn
    have Hm := Lib.hid hm
    have Hv2 : Hid (res = if n ≠ m ∨ cs.any (outP 0 60) = true then ([], 2) else (sizesN q cs n, 0)) := Lib.hid (by rw [Hv.out, if_neg (by simp), hn, hm])
    have P2 := cell_of_row w1 w.heap.size 2 _ _ _ ((Hb1.out.block _ hl).trans Hr.out)
    have P3 := cell_of_row w1 w.heap.size 3 _ _ _ ((Hb1.out.block _ hl).trans Hr.out)
    rw [hm] at P2 hs6
    rw [hn]
    clear hn hm Hv
    by_cases hnm : n = m
    · subst hnm
      have HX : Hid (Sl w1 A c (cs.map (.int .i64))) := Lib.hid (HC.out.below Hb1.out)
      go_wp2_with fail
      refine (all_any 0 60 A n c cs _ HX.out Hn.out).mono ?_
      rintro e w3 ⟨rfl, rfl⟩
      have Hb2 := Hb1
      clear P2 P3
      have hs2 := Hb2.out.size
      cases hb : cs.any (outP 0 60) with
      | true =>
        have hR : res = ([], 2) := by rw [Hv2.out, if_pos (.inr hb)]
        subst hR
        clear Hv2
        go_wp2
        refine bodyPost_ret (v := .tuple #[.slice none 0 0, .int .i64 2]) (by simp [results, Try.results25, go_sem, *]) rfl ?_
        exact ⟨_, rfl, World.ownsRow_nil _ _ _ _, (have hba := Hba.out.trans (Hb2.out.mono (Nat.le_of_lt hl)); (by repeat' (first | with_reducible exact Below.refl _ _ | with_reducible assumption | with_reducible refine below_drewN ?_ _ | with_reducible refine Below.drew ?_ | with_reducible refine Below.alloc ?_ ?_ _ | with_reducible refine Below.setCell ?_ ?_ _ | with_reducible refine Below.trans ?_ (Below.mono (by with_reducible assumption) ?_) | with_reducible refine below_only ?_ (by with_reducible assumption) ?_ ?_ | (simp; done) | (simp; omega) | omega)))⟩
      | false =>
        have hR : res = (sizesN q cs n, 0) := by rw [Hv2.out, if_neg (by simp [hb])]
        subst hR
        have Hout := Lib.hid (any_out hb)
        clear Hv2 hb
        go_upto_region 6 with fail
        go_wp2_with fail
        go_loopw [7, 8] (fun v i wr => ∃ k : Nat, k ≤ n ∧ i = .int .i64 (k : Int) ∧ wr.ownsRow wa.heap.size 3 1 v k ((sizesN q cs k).map (.int .i64)) ∧ Below wa.heap.size wa wr) (fun _ i _ => n - (intOf i).toNat)
        case atStart => exact ⟨0, Nat.zero_le _, rfl, World.ownsRow_nil _ _ _ _, Hb2.out⟩
        case round =>
          obtain ⟨k, hk, rfl, hown, hbw⟩ := hrel
          have Hbw := Lib.hid hbw
          have hsw := hbw.size
          have Hown := Lib.hid hown
          clear hown hbw
          by_cases hkn : k < n
          · have hkn' : (k : Int) < (n : Int) := by omega
            have hkl : k < cs.length := by have := Hn.out; omega
            have hkm : k < q.ss.length := by have := Hm.out; omega
            obtain ⟨b, off, hAe, hb, ck⟩ := HC.out.at k hkl
            obtain ⟨b', off', hBe, hb', ss⟩ := HA.out.s3.at k hkm
            have P2 := cell_of_row wa w.heap.size 2 _ _ _ Hr.out
            have P3 := cell_of_row wa w.heap.size 3 _ _ _ Hr.out
            rw [Hm.out, hBe] at P2
            have Hs := Lib.hid (sizes_step hkl hkm)
            have hx := Hout.out cs[k] (List.getElem_mem _)
            have hy := Hss.out k hkm
            have Hlen := Lib.hid (sizesN_len q cs k)
            generalize cs[k] = x at *
            generalize q.ss[k] = y at *
            obtain ⟨le, hle⟩ : ∃ le, q.le = le := ⟨_, rfl⟩
            simp only [hle] at P3 Hs
            have hlb := Hle.out
            rw [hle] at hlb
            subst hAe
            clear hBe hkl hkm hle
            have hm0 : 0 ≤ x * y := Int.mul_nonneg hx.1 hy.1
            have hm1 : x * y ≤ 60 * 1000 := Int.mul_le_mul hx.2 hy.2 hy.1 (by omega)
            have hw1 : IntKind.i64.wrap (x * y) = x * y := IntWalk.i64_in _ (by omega)
            have Hup := Lib.hid (fun W => upR1_any (x * y) W (by omega) (by omega))
            generalize upM (x * y) = z at *
            generalize (sizesN q cs k) = Q at *
            rw [Hlen.out] at *
            have Hcell : Hid (∀ W, Below wa.heap.size wa W → W.cell? ⟨w.heap.size, 2, none⟩ = some (.slice (some ⟨b', off', none⟩) n p.c3) ∧ W.cell? ⟨w.heap.size, 3, none⟩ = some (.int .i64 le) ∧ W.cell? ⟨b', off' + k, none⟩ = some (.int .i64 y) ∧ W.cell? ⟨b, off + k, none⟩ = some (.int .i64 x)) := Lib.hid (fun W hW => ⟨(hW.cell (p := ⟨w.heap.size, 2, none⟩) hl).trans P2, (hW.cell (p := ⟨w.heap.size, 3, none⟩) hl).trans P3, (hW.cell (p := ⟨b', off' + k, none⟩) hb').trans ss, (hW.cell (p := ⟨b, off + k, none⟩) hb).trans ck⟩)
            clear P2 P3 ss ck
            obtain ⟨P2, P3, ss, ck⟩ := Hcell.out wr Hbw.out
            go_upto_region 10 with fail
            go_region_held3 (fun w' => w'.cell? ⟨w.heap.size, 2, none⟩ = some (.slice (some ⟨b', off', none⟩) n p.c3) ∧ w'.cell? ⟨w.heap.size, 3, none⟩ = some (.int .i64 le) ∧ w'.cell? ⟨b', off' + k, none⟩ = some (.int .i64 y) ∧ w'.cell? ⟨b, off + k, none⟩ = some (.int .i64 x))
              (first | go_keep | ((repeat' apply And.intro) <;> go_keep))
              (first
                | (go_at_call 40
                   refine (Hup.out _).mono ?_
                   rintro e w5 ⟨rfl, rfl⟩)
                | (refine step_append_any _ rfl (.tmp 31) (.tmp 51) 22 rfl wa.heap.size 3 i0 (.int .i64 0) 1 8 Try.underlying22 hi hz0 hz1 hz2 rfl (by omega) u7 k (Q.map (.int .i64)) rfl (ownsRow_below Hown.out (by repeat' (first | with_reducible exact Below.refl _ _ | with_reducible assumption | with_reducible refine below_drewN ?_ _ | with_reducible refine Below.drew ?_ | with_reducible refine Below.alloc ?_ ?_ _ | with_reducible refine Below.setCell ?_ ?_ _ | with_reducible refine Below.trans ?_ (Below.mono (by with_reducible assumption) ?_) | with_reducible refine below_only ?_ (by with_reducible assumption) ?_ ?_ | (simp; done) | (simp; omega) | omega))) _ _ 1 1 [_] rfl ⟨rfl, fun _ => ⟨_, rfl, Nat.lt_succ_self _, fun j u hu => (by exact news_any _ _ _ j u hu)⟩⟩ (by simp [Value.oneCell']) (by simp only [maxLen]; omega) (by omega) (by simp; omega) ?_
                   intro v5 w5 hown5 hg5 hat5
                   have Hb5 : Hid (Below wa.heap.size wa w5) := Lib.hid (Below.grown (have hbb := Hbw.out; (by repeat' (first | with_reducible exact Below.refl _ _ | with_reducible assumption | with_reducible refine below_drewN ?_ _ | with_reducible refine Below.drew ?_ | with_reducible refine Below.alloc ?_ ?_ _ | with_reducible refine Below.setCell ?_ ?_ _ | with_reducible refine Below.trans ?_ (Below.mono (by with_reducible assumption) ?_) | with_reducible refine below_only ?_ (by with_reducible assumption) ?_ ?_ | (simp; done) | (simp; omega) | omega))) hg5 (by simp; omega) (own_base Hown.out))
                   obtain ⟨d2, d3, dd, dk⟩ := Hcell.out w5 Hb5.out)
                | fail)
            go_wp2
            go_roundw
            case rel => exact ⟨k + 1, by omega, by go_num, by rw [Hs.out, List.map_append]; exact hown5, (have hbb := Hb5.out; (by repeat' (first | with_reducible exact Below.refl _ _ | with_reducible assumption | with_reducible refine below_drewN ?_ _ | with_reducible refine Below.drew ?_ | with_reducible refine Below.alloc ?_ ?_ _ | with_reducible refine Below.setCell ?_ ?_ _ | with_reducible refine Below.trans ?_ (Below.mono (by with_reducible assumption) ?_) | with_reducible refine below_only ?_ (by with_reducible assumption) ?_ ?_ | (simp; done) | (simp; omega) | omega)))⟩
            case measure => simp [intOf]; omega
          · obtain rfl : k = n := by omega
            have hkn' : ¬ (k : Int) < (k : Int) := by omega
            go_wp2
            refine bodyPost_ret (v := .tuple #[u7, .int .i64 0]) (by simp [results, Try.results25, go_sem, *]) rfl ?_
            exact ⟨_, rfl, by rw [sizesN_len]; exact own_rebase Hown.out (Nat.le_of_lt hl), (have hba := Hba.out.trans (Hbw.out.mono (Nat.le_of_lt hl)); (by repeat' (first | with_reducible exact Below.refl _ _ | with_reducible assumption | with_reducible refine below_drewN ?_ _ | with_reducible refine Below.drew ?_ | with_reducible refine Below.alloc ?_ ?_ _ | with_reducible refine Below.setCell ?_ ?_ _ | with_reducible refine Below.trans ?_ (Below.mono (by with_reducible assumption) ?_) | with_reducible refine below_only ?_ (by with_reducible assumption) ?_ ?_ | (simp; done) | (simp; omega) | omega)))⟩
    · have hnm' : ¬ (n : Int) = (m : Int) := by omega
      have hnmd : decide ((n : Int) = (m : Int)) = false := decide_eq_false hnm'
      have hR : res = ([], 2) := by rw [Hv2.out, if_pos (.inl hnm)]
      subst hR
      clear Hv2
      go_wp2
      refine bodyPost_ret (v := .tuple #[.slice none 0 0, .int .i64 2]) (by simp [results, Try.results25, go_sem, *]) rfl ?_
      exact ⟨_, rfl, World.ownsRow_nil _ _ _ _, (have hba := Hba.out.trans (Hb1.out.mono (Nat.le_of_lt hl)); (by repeat' (first | with_reducible exact Below.refl _ _ | with_reducible assumption | with_reducible refine below_drewN ?_ _ | with_reducible refine Below.drew ?_ | with_reducible refine Below.alloc ?_ ?_ _ | with_reducible refine Below.setCell ?_ ?_ _ | with_reducible refine Below.trans ?_ (Below.mono (by with_reducible assumption) ?_) | with_reducible refine below_only ?_ (by with_reducible assumption) ?_ ?_ | (simp; done) | (simp; omega) | omega)))⟩
  · have hR : res = ([], cq) := by rw [Hv.out, if_pos hc]
    subst hR
    clear Hv
    go_wp2
    refine bodyPost_ret (v := .tuple #[.slice none 0 0, .int .i64 cq]) (by simp [results, Try.results25, go_sem, *]) rfl ?_
    exact ⟨_, rfl, World.ownsRow_nil _ _ _ _, (have hba := Hba.out.trans (Hb1.out.mono (Nat.le_of_lt hl)); (by repeat' (first | with_reducible exact Below.refl _ _ | with_reducible assumption | with_reducible refine below_drewN ?_ _ | with_reducible refine Below.drew ?_ | with_reducible refine Below.alloc ?_ ?_ _ | with_reducible refine Below.setCell ?_ ?_ _ | with_reducible refine Below.trans ?_ (Below.mono (by with_reducible assumption) ?_) | with_reducible refine below_only ?_ (by with_reducible assumption) ?_ ?_ | (simp; done) | (simp; omega) | omega)))⟩
end Go.Proofs.Ytjmbdfoegnfpnaa
