/- The walk of StrataChecks. -/
import Derived.Test.YtjmbdfoegnfpnaaKX
import Derived.Test.YtjmbdfoegnfpnaaKY
import Derived.Test.YtjmbdfoegnfpnaaK8
import Derived.Test.YtjmbdfoegnfpnaaDX
namespace Go.Proofs.Ytjmbdfoegnfpnaa
open Go.RowKit
set_option linter.unusedVariables false
set_option linter.unusedSimpArgs false

/-- Plan number j of a row of plans. -/
def AtP (W : World) (B j : Nat) : Prop := ∃ (p : PlV) (q : Pl), W.cell? ⟨B, j * 5, none⟩ = some (.slice p.a1 q.ws.length p.c1) ∧ W.cell? ⟨B, j * 5 + 1, none⟩ = some (.slice p.a2 q.ls.length p.c2) ∧ W.cell? ⟨B, j * 5 + 2, none⟩ = some (.slice p.a3 q.ss.length p.c3) ∧ W.cell? ⟨B, j * 5 + 3, none⟩ = some (.int .i64 q.le) ∧ W.cell? ⟨B, j * 5 + 4, none⟩ = some (.int .i64 q.ra) ∧ PlAt W p q ∧ q.ss.length ≤ 30
def AtU (W : World) (B j : Nat) : Prop := ∃ (A : Option Addr) (c : Nat) (L : List (Un × UV)), W.cell? ⟨B, j, none⟩ = some (.slice A L.length c) ∧ SlU W A L.length c L
def AtN (W : World) (B j : Nat) : Prop := ∃ (A : Option Addr) (c : Nat) (l : List Int), W.cell? ⟨B, j, none⟩ = some (.slice A l.length c) ∧ Sl W A c (l.map (.int .i64))
theorem SlU.reads {w : World} {A : Option Addr} {n c : Nat} {l : List (Un × UV)} (h : SlU w A n c l) : Reads w w.heap.size 2 A n (uCells l) := h.lies.reads (by rw [uCells_len, h.len])

set_option maxHeartbeats 20000000 in
set_option maxRecDepth 100000 in
theorem checksLaw25 (A : Option Addr) (n c : Nat) (zs : List Int) (p0 : PlV) (q0 : Pl) (LA : Option Addr) (lc : Nat) (L : List (Un × UV)) (v0 : UV) (u0 : Un) (sc : Int) (CA : Option Addr) (cc : Nat) (cs : List Int) (by_ : Int) (w : World) (hn : zs.length = n) (hc : n ≤ c) (hm : c ≤ maxLen) (hw : ∀ z ∈ zs, (Lit.int .i64 z).wf = true) (hA : Lies w A n (zs.map (.int .i64)))
    (hpq : PlAt w p0 q0) (hL : SlU w LA L.length lc L) (hu0 : Sl w v0.a v0.c (u0.fs.map (.int .i64))) (hC : Sl w CA cc (cs.map (.int .i64))) (hsc : -9223372036854775808 ≤ sc ∧ sc ≤ 9223372036854775807) (hby : -9223372036854775808 ≤ by_ ∧ by_ ≤ 9223372036854775807) :
    Calls Try.prog 3 #[.slice A n c, .agg #[.slice p0.a1 q0.ws.length p0.c1, .slice p0.a2 q0.ls.length p0.c2, .slice p0.a3 q0.ss.length p0.c3, .int .i64 q0.le, .int .i64 q0.ra], .slice LA L.length lc, .agg #[.int .i64 u0.fm, .slice v0.a u0.fs.length v0.c], .int .i64 sc, .slice CA cs.length cc, .int .i64 by_] w fun e w' => e = .returned (.bool true) ∧ Below w.heap.size w w' := by
  obtain ⟨i0, hi, hz0, hz1, hz2⟩ := info_parts Try.infoIn
  obtain ⟨i1, hj, hj0, hj1, hj2⟩ := info_parts Try.infoUnit
  have HN0 := Lib.hid (fun w0 (hb : Below w.heap.size w w0) => new_any A n c zs w0 hn hc hm hw (hA.below hb))
  have Hpq := Lib.hid hpq
  have HL := Lib.hid hL
  have Hu0 := Lib.hid hu0
  have HC := Lib.hid hC
  clear hn hc hm hw hA hpq hL hu0 hC
  go_enter Try.func3, Try.ntmps3
  go_upto_region 1 with fail
  obtain ⟨w0, hw0⟩ : ∃ w0 : World, w0 = (w.alloc (.cells #[.slice p0.a1 q0.ws.length p0.c1, .slice p0.a2 q0.ls.length p0.c2, .slice p0.a3 q0.ss.length p0.c3, .int .i64 q0.le, .int .i64 q0.ra] 24)).alloc (.cells #[.int .i64 u0.fm, .slice v0.a u0.fs.length v0.c] 27) := ⟨_, rfl⟩
  rw [← hw0]
  have HR0 : Hid (w0.heap[w.heap.size]? = some (.cells #[.slice p0.a1 q0.ws.length p0.c1, .slice p0.a2 q0.ls.length p0.c2, .slice p0.a3 q0.ss.length p0.c3, .int .i64 q0.le, .int .i64 q0.ra] 24 (0, 0))) := Lib.hid (by rw [hw0]; exact (Below.heap_alloc _ _ _ (by simp)).trans (heap_alloc_new w _))
  have HV0 : Hid (w0.heap[w.heap.size + 1]? = some (.cells #[.int .i64 u0.fm, .slice v0.a u0.fs.length v0.c] 27 (0, 0))) := Lib.hid (by rw [hw0]; have hzz := heap_alloc_new (w.alloc (.cells #[.slice p0.a1 q0.ws.length p0.c1, .slice p0.a2 q0.ls.length p0.c2, .slice p0.a3 q0.ss.length p0.c3, .int .i64 q0.le, .int .i64 q0.ra] 24)) (.cells #[.int .i64 u0.fm, .slice v0.a u0.fs.length v0.c] 27); simpa using hzz)
  have Hb0 : Hid (Below w.heap.size w w0) := Lib.hid (by rw [hw0]; exact (by repeat' (first | with_reducible exact Below.refl _ _ | with_reducible refine below_drewN ?_ _ | with_reducible refine Below.drew ?_ | with_reducible refine Below.alloc ?_ ?_ _ | with_reducible refine Below.setCell ?_ ?_ _ | with_reducible refine Below.trans ?_ (Below.mono (by with_reducible assumption) ?_) | (simp; done) | (simp; omega) | omega)))
  have hs0 : w.heap.size + 2 ≤ w0.heap.size := by rw [hw0]; simp
  clear hw0
  have HN := Lib.hid (HN0.out w0 Hb0.out)
  have Hpq0 := Lib.hid (Hpq.out.below Hb0.out)
  have HL0 := Lib.hid (HL.out.below Hb0.out)
  have Hu00 := Lib.hid (Hu0.out.below Hb0.out)
  have HC0 := Lib.hid (HC.out.below Hb0.out)
  clear HN0 Hpq HL Hu0 HC
  have x0 := rowCell HR0.out (i := 0) rfl
  have x1 := rowCell HR0.out (i := 1) rfl
  have x2 := rowCell HR0.out (i := 2) rfl
  by_cases hq0 : 20 < q0.ws.length
  · have hq0' : (20 : Int) < (q0.ws.length : Int) := by omega
    go_wp2_with fail
    refine (awake25_any _).mono ?_
    rintro e w1 ⟨rfl, hb1⟩
    go_wp2
    go_ret
    exact ⟨rfl, Hb0.out.trans (hb1.mono (by omega))⟩
  have hq0' : ¬ (20 : Int) < (q0.ws.length : Int) := by omega
  by_cases hq1 : 20 < q0.ls.length
  · have hq1' : (20 : Int) < (q0.ls.length : Int) := by omega
    go_wp2_with fail
    refine (awake25_any _).mono ?_
    rintro e w1 ⟨rfl, hb1⟩
    go_wp2
    go_ret
    exact ⟨rfl, Hb0.out.trans (hb1.mono (by omega))⟩
  have hq1' : ¬ (20 : Int) < (q0.ls.length : Int) := by omega
  by_cases hq2 : 20 < q0.ss.length
  · have hq2' : (20 : Int) < (q0.ss.length : Int) := by omega
    go_wp2_with fail
    refine (awake25_any _).mono ?_
    rintro e w1 ⟨rfl, hb1⟩
    go_wp2
    go_ret
    exact ⟨rfl, Hb0.out.trans (hb1.mono (by omega))⟩
  have hq2' : ¬ (20 : Int) < (q0.ss.length : Int) := by omega
  by_cases hq3 : 70 < L.length
  · have hq3' : (70 : Int) < (L.length : Int) := by omega
    go_wp2_with fail
    refine (awake25_any _).mono ?_
    rintro e w1 ⟨rfl, hb1⟩
    go_wp2
    go_ret
    exact ⟨rfl, Hb0.out.trans (hb1.mono (by omega))⟩
  have hq3' : ¬ (70 : Int) < (L.length : Int) := by omega
  by_cases hq4 : 20 < cs.length
  · have hq4' : (20 : Int) < (cs.length : Int) := by omega
    go_wp2_with fail
    refine (awake25_any _).mono ?_
    rintro e w1 ⟨rfl, hb1⟩
    go_wp2
    go_ret
    exact ⟨rfl, Hb0.out.trans (hb1.mono (by omega))⟩
  have hq4' : ¬ (20 : Int) < (cs.length : Int) := by omega
  go_wp2_with fail
  refine HN.out.mono ?_
  rintro e w1 ⟨g, rfl, hwg, ht1, hb1⟩
  have Ht1 := Lib.hid ht1
  have Hb1 := Lib.hid hb1
  have hg1 := ht1.lt
  have hs1 := hb1.size
  clear ht1 hb1 HN
  go_wp2_with fail
  refine (plan_any g _ w1 Ht1.out).mono ?_
  rintro e w2 ⟨p, q, r2, rfl, ho2, ht2, hg2, hck, hle⟩
  have Ho2 := Lib.hid ho2
  have Ht2 := Lib.hid ht2
  have Hg2 := Lib.hid hg2
  have Hck := Lib.hid hck
  have Hle2 := Lib.hid hle
  have hs2 := hg2.size
  clear ho2 ht2 hg2 hck hle Ht1 x0 x1 x2
  go_upto_region 5 with fail
  obtain ⟨w3, hw3⟩ : ∃ w3 : World, w3 = w2.alloc (.cells #[.slice p.a1 q.ws.length p.c1, .slice p.a2 q.ls.length p.c2, .slice p.a3 q.ss.length p.c3, .int .i64 q.le, .int .i64 q.ra] 24) := ⟨_, rfl⟩
  rw [← hw3]
  have Hb23 : Hid (Below w2.heap.size w2 w3) := Lib.hid (by rw [hw3]; exact (by repeat' (first | with_reducible exact Below.refl _ _ | with_reducible refine below_drewN ?_ _ | with_reducible refine Below.drew ?_ | with_reducible refine Below.alloc ?_ ?_ _ | with_reducible refine Below.setCell ?_ ?_ _ | with_reducible refine Below.trans ?_ (Below.mono (by with_reducible assumption) ?_) | (simp; done) | (simp; omega) | omega)))
  have HP3 : Hid (w3.heap[w2.heap.size]? = some (.cells #[.slice p.a1 q.ws.length p.c1, .slice p.a2 q.ls.length p.c2, .slice p.a3 q.ss.length p.c3, .int .i64 q.le, .int .i64 q.ra] 24 (0, 0))) := Lib.hid (by rw [hw3]; exact heap_alloc_new w2 _)
  have hlt3 : w2.heap.size < w3.heap.size := by rw [hw3]; simp
  have Hg3 : Hid (w1.grownBy w3 (some g)) := Lib.hid (only_below Hg2.out Hb23.out hs2)
  have Ht3 := Lib.hid (Ht2.out.below Hb23.out (by omega))
  have Ho3 := Lib.hid (Ho2.out.below Hb23.out)
  clear hw3 Hg2 Ht2 Ho2
  have hwl : q.ws.length ≤ 1000 := by have := ((planB_iff q).1 (checkP_zero Hck.out)).1; omega
  have p0 := rowCell HP3.out (i := 0) rfl
  have p1 := rowCell HP3.out (i := 1) rfl
  have p2 := rowCell HP3.out (i := 2) rfl
  have p3 := rowCell HP3.out (i := 3) rfl
  have p4 := rowCell HP3.out (i := 4) rfl
  go_wp2_with fail
  refine (units_any g r2 p q 8 w3 Ht3.out (by omega) hwl).mono ?_
  rintro e w5 ⟨l, UA, uc, r5, rfl, hU, ht5, hg5, hok, hlen⟩
  clear p0 p1 p2 p3 p4
  have HU := Lib.hid hU
  have Ht5 := Lib.hid ht5
  have Hg35 := Lib.hid hg5
  have Hg5 := Lib.hid (only_trans Hg3.out hg5)
  have Hok := Lib.hid (hok Hck.out)
  have hs5 := hg5.size
  have Ho5 := Lib.hid (Ho3.out.only hg5 (by omega))
  have HP5 : Hid (w5.heap[w2.heap.size]? = some (.cells #[.slice p.a1 q.ws.length p.c1, .slice p.a2 q.ls.length p.c2, .slice p.a3 q.ss.length p.c3, .int .i64 q.le, .int .i64 q.ra] 24 (0, 0))) := Lib.hid ((hg5.block _ hlt3 (fun e => by injection e; omega)).trans HP3.out)
  clear hU ht5 hg5 hok Ht3 Ho3 HP3 Hg3

  have H05 : Hid (Below w0.heap.size w0 w5) := Lib.hid (below_only Hb1.out Hg5.out hwg hs1)
  have hs05 := H05.out.size
  have hlm : l.length ≤ 8 := by omega
  have hg3 : g < w3.heap.size := by omega
  go_upto_region 7 with (first
    | (at_builtin
       refine wpList_append_any _ rfl (.tmp 64) (.tmp 65) _ rfl w5.heap.size 27 i1 _ 2 32 Try.underlying25 hj hj0 hj1 hj2 rfl (by omega) (.slice (some ⟨w5.heap.size, 0, none⟩) 0 0) 0 [] rfl (own_zero w5 w5.heap.size 27 2 (Nat.le_refl _)) _ UA l.length uc (uCells l) rfl (SlU.reads ((UsOwn.slu HU.out).below ((Below.refl _ _).alloc (Nat.le_refl _) _))) (uCells_one l) (by simp only [maxLen]; omega) (by omega) (by simp) ?_
       intro v6 w6 hown6 hg6 hat6
       rw [Nat.zero_add, List.nil_append] at hown6
       obtain ⟨OA, oc, rfl, _, _, _⟩ := own_slice hown6
       have Hown6 := Lib.hid hown6
       have Hb6 : Hid (Below w5.heap.size w5 w6) := Lib.hid (Below.grown ((Below.refl w5.heap.size w5).alloc (Nat.le_refl _) _) hg6 (by simp) (fun b hb => by simp [Value.ownBlock] at hb; omega))
       clear hown6 hg6 hat6)
    | fail)
  have HUo6 : Hid (UsOwn w6 w3.heap.size (.slice OA l.length oc) l) := Lib.hid ⟨own_rebase Hown6.out hs5, fun x hx => ownsRow_below (HU.out.fs x hx) Hb6.out, fun x hx b hb e => by
    have h1 := own_base Hown6.out b hb
    have h2 := own_lt (HU.out.fs x hx) b e
    omega⟩
  have Ht6 := Lib.hid (Ht5.out.below Hb6.out (by omega))
  have Hg6 : Hid (w5.grownBy w6 (some g)) := Lib.hid (only_below (World.grownBy.refl _ _) Hb6.out (Nat.le_refl _))
  have hs6 := Hb6.out.size
  go_upto_if 69 with fail
  go_cut [] (fun wx => ∃ (l' : List (Un × UV)) (r' : List Int), l'.length = l.length ∧ UsOwn wx w3.heap.size (.slice OA l.length oc) l' ∧ TapeAt wx g r' ∧ w5.grownBy wx (some g))
  case first =>
    by_cases hl0 : 0 < l.length
    · have hl0' : (0 : Int) < (l.length : Int) := by omega
      obtain ⟨gO, cap, e, hgO, -⟩ := own_at Hown6.out hl0
      injection e with e1 e2 e3
      subst e1 e3
      have hM := modV_bd by_ 70 (by omega)
      obtain ⟨M, hMe⟩ : ∃ M, modV by_ 70 = M := ⟨_, rfl⟩
      have HM : Hid (∀ W, Calls Try.prog 13 #[.int .i64 by_, .int .i64 70] W fun e w' => e = .returned (.int .i64 M) ∧ W = w') := Lib.hid (fun W => by have := mod_any by_ 70 W hby (by omega); rwa [hMe] at this)
      rw [hMe] at hM
      clear hMe
      have hMw : IntKind.i64.wrap (M - 2) = M - 2 := IntWalk.i64_in _ (by omega)
      go_wp2_with (first
        | (go_at_call 14
           refine (next_any g r5 (l.length : Int) _ Ht6.out (by omega)).mono ?_
           rintro e w7 ⟨rfl, ht7, hg7⟩
           have hk := nx_bd r5 (l.length : Int) (by omega)
           generalize nx r5 (l.length : Int) = k' at *
           obtain ⟨k, rfl⟩ : ∃ k : Nat, k' = (k : Int) := ⟨k'.toNat, by omega⟩
           have hk2 : k < l.length := by omega
           have Ht7 := Lib.hid ht7
           have Hg7 := Lib.hid (only_trans Hg6.out hg7)
           obtain ⟨g', e', -, hlt7, c7, f7, hU7⟩ := UsOwn.change (HUo6.out.only hg7 hg3) hk2 (M - 2)
           injection e' with e'
           injection e' with e'
           subst e'
           have HU7 := Lib.hid hU7
           clear ht7 hg7 hU7)
        | (go_at_call 13
           refine (HM.out _).mono ?_
           rintro e w' ⟨rfl, rfl⟩)
        | fail)
      go_meet
      case rel => exact ⟨_, _, by rw [List.length_set], HU7.out, Ht7.out.setCell (by show g < gO; omega) _, only_setCell Hg7.out (.inr hgO) _⟩
    · have hl0' : ¬ (0 : Int) < (l.length : Int) := by omega
      go_wp2
      go_meet
      case rel => exact ⟨_, _, rfl, HUo6.out, Ht6.out, Hg6.out⟩
  case rest =>
    obtain ⟨w7, rfl⟩ : ∃ w7 : World, w7 = wc := ⟨_, rfl⟩
    obtain ⟨l', r', hl', hU', ht7, hg7⟩ := hcut
    have HUo7 := Lib.hid hU'
    have Ht7 := Lib.hid ht7
    have Hg57 := Lib.hid hg7
    have hs7 := hg7.size
    have HU7 := Lib.hid (HU.out.only hg7 hg3)
    have Ho7 := Lib.hid (Ho5.out.only hg7 hg1)
    have HP7 := Lib.hid ((hg7.block w2.heap.size (by omega) (fun e => by injection e; omega)).trans HP5.out)
    have H07 := Lib.hid (below_only H05.out hg7 hwg hs05)
    have HR7 := Lib.hid ((H07.out.block w.heap.size (by omega)).trans HR0.out)
    have HV7 := Lib.hid ((H07.out.block (w.heap.size + 1) (by omega)).trans HV0.out)
    have HC7 := Lib.hid (HC0.out.below H07.out)
    have Hpq7 := Lib.hid (Hpq0.out.below H07.out)
    have HL7 := Lib.hid (HL0.out.below H07.out)
    have Hu7 := Lib.hid (Hu00.out.below H07.out)
    clear hU' ht7 hg7 HU Ho5 HP5 H05 HR0 Ht5 Hg35 Hg5 Hb23
    have P2 : w7.cell? ⟨w2.heap.size, 2, none⟩ = _ := rowCell HP7.out (i := 2) rfl
    have hlt7 : w2.heap.size < w7.heap.size := by omega
    obtain ⟨K, hK⟩ : ∃ K : Nat, min (cs.length : Int) (q.ss.length : Int) = (K : Int) := ⟨min cs.length q.ss.length, by omega⟩
    have hK1 : K ≤ cs.length := by omega
    have hK2 : K ≤ 20 := by omega
    have hK3 : K ≤ cc := by have := HC7.out.cap; simp at this; omega
    have HSd : Hid (∀ W, Below w7.heap.size w7 W → Reads W W.heap.size 1 CA K ((cs.take K).map (.int .i64))) := Lib.hid (fun W hW => by
      have := ((HC7.out.below hW).take K).lies
      rw [List.length_map, List.length_take, Nat.min_eq_left hK1] at this
      exact this.reads (by rw [List.length_map, List.length_take, Nat.min_eq_left hK1]; omega))
    go_upto_region 9 with fail
    go_cut [19] (fun s19 wx => ∃ (SA : Option Addr) (sd : Nat), s19 = .slice SA K sd ∧ Below w7.heap.size w7 wx ∧ wx.ownsRow w7.heap.size 3 1 (.slice SA K sd) K ((cs.take K).map (.int .i64)))
    case first =>
      have hKt : (cs.take K).length = K := by rw [List.length_take, Nat.min_eq_left hK1]
      rcases CA with _ | ca
      all_goals
        go_wp2_with (first
          | (at_builtin
             refine wpList_append_any _ rfl (.tmp 80) (.tmp 88) _ rfl w7.heap.size 3 i0 (.int .i64 0) 1 8 Try.underlying22 hi hz0 hz1 hz2 rfl (by omega) (.slice (some ⟨w7.heap.size, 0, none⟩) 0 0) 0 [] rfl (own_zero w7 w7.heap.size 3 1 (Nat.le_refl _)) _ _ K _ ((cs.take K).map (Value.int .i64)) rfl (HSd.out _ ((Below.refl _ _).alloc (Nat.le_refl _) _)) (ints_oneCell .i64 _) (by simp only [maxLen]; omega) (by omega) (by simp) ?_
             intro v8 w8 hown8 hg8 hat8
             rw [Nat.zero_add, List.nil_append] at hown8
             obtain ⟨SA, sd, rfl, _, _, _⟩ := own_slice hown8
             have Hown8 := Lib.hid hown8
             have Hb8 : Hid (Below w7.heap.size w7 w8) := Lib.hid (Below.grown ((Below.refl w7.heap.size w7).alloc (Nat.le_refl _) _) hg8 (by simp) (fun b hb => by simp [Value.ownBlock] at hb; omega))
             clear hown8 hg8 hat8)
          | fail)
        go_meet
        case rel => exact ⟨SA, sd, rfl, Hb8.out, Hown8.out⟩
    case rest =>
      obtain ⟨w8, rfl⟩ : ∃ w8 : World, w8 = wc := ⟨_, rfl⟩
      obtain ⟨SA, sd, rfl, hb8, hS8⟩ := hcut
      have hs8 := hb8.size
      have HS8 := Lib.hid hS8
      have hKt : (cs.take K).length = K := by rw [List.length_take, Nat.min_eq_left hK1]
      have HKt := Lib.hid hKt
      clear hKt
      have HUo8 : Hid (UsOwn w8 w3.heap.size (.slice OA l'.length oc) l') := Lib.hid (by have := HUo7.out.below hb8; rwa [← hl'] at this)
      have HU8 := Lib.hid (HU7.out.below hb8)
      have Ho8 := Lib.hid (Ho7.out.below hb8)
      have HP8 := Lib.hid ((hb8.block w2.heap.size (by omega)).trans HP7.out)
      have Ht8 := Lib.hid (Ht7.out.below hb8 (by omega))
      have H08 := Lib.hid (H07.out.trans (hb8.mono (by omega)))
      have HR8 := Lib.hid ((hb8.block w.heap.size (by omega)).trans HR7.out)
      clear hb8 hS8 HUo7 HU7 Ho7 HP7 Ht7 H07 HR7 HSd P2 Hg57 hK
      have hgd : g < w7.heap.size := by omega
      obtain ⟨M, hMe⟩ : ∃ M, modV by_ 1200 = M := ⟨_, rfl⟩
      have HM : Hid (∀ W, Calls Try.prog 13 #[.int .i64 by_, .int .i64 1200] W fun e w' => e = .returned (.int .i64 M) ∧ W = w') := Lib.hid (fun W => by have := mod_any by_ 1200 W hby (by omega); rwa [hMe] at this)
      clear hMe
      have HPd : Hid (w8.drew.heap[w2.heap.size]? = some (.cells #[.slice p.a1 q.ws.length p.c1, .slice p.a2 q.ls.length p.c2, .slice p.a3 q.ss.length p.c3, .int .i64 q.le, .int .i64 q.ra] 24 (0, 0))) := Lib.hid HP8.out
      have HRd : Hid (w8.drew.heap[w.heap.size]? = some (.cells #[.slice p0.a1 q0.ws.length p0.c1, .slice p0.a2 q0.ls.length p0.c2, .slice p0.a3 q0.ss.length p0.c3, .int .i64 q0.le, .int .i64 q0.ra] 24 (0, 0))) := Lib.hid HR8.out
      have a0 := rowCell HPd.out (i := 0) rfl
      have a1 := rowCell HPd.out (i := 1) rfl
      have a2 := rowCell HPd.out (i := 2) rfl
      have a3 := rowCell HPd.out (i := 3) rfl
      have a4 := rowCell HPd.out (i := 4) rfl
      have ar0 := rowCell HRd.out (i := 0) rfl
      have ar1 := rowCell HRd.out (i := 1) rfl
      have ar2 := rowCell HRd.out (i := 2) rfl
      have ar3 := rowCell HRd.out (i := 3) rfl
      have ar4 := rowCell HRd.out (i := 4) rfl
      have Htd : Hid (TapeAt w8.drew g r') := Lib.hid Ht8.out.drew
      have hX2 : w2.heap.size < w8.drew.heap.size := by show w2.heap.size < w8.heap.size; omega
      have hX0 : w.heap.size < w8.drew.heap.size := by show w.heap.size < w8.heap.size; omega
      have hXg : w2.heap.size ≠ g := by omega
      have hXr : w.heap.size ≠ g := by omega
      go_upto_region 10 with fail
      go_cut [99, 100, 101] (fun s1 s2 s3 wx => ∃ BS : Nat, s1 = .slice (some ⟨BS, 0, none⟩) 4 4 ∧ s2 = .int .i64 4 ∧ s3 = .int .i64 0 ∧ BS < wx.heap.size ∧ w.heap.size + 2 ≤ wx.heap.size ∧ Below w.heap.size w wx ∧ (∀ j, j < 4 → AtP wx BS j) ∧ (SlU wx UA l.length uc l ∧ SlU wx OA l'.length oc l' ∧ SlU wx LA L.length lc L) ∧ (Sl wx SA sd ((cs.take K).map (.int .i64)) ∧ Sl wx CA cc (cs.map (.int .i64))) ∧ (wx.heap[w.heap.size + 1]? = some (.cells #[.int .i64 u0.fm, .slice v0.a u0.fs.length v0.c] 27 (0, 0)) ∧ Sl wx v0.a v0.c (u0.fs.map (.int .i64))))
      case first =>
        have hssb : q.ss.length ≤ 6 := by
          obtain ⟨-, -, h1, -, h2, -⟩ := (planB_iff q).1 (checkP_zero Hck.out)
          omega
        go_region_held3 (fun w' => w'.cell? ⟨w2.heap.size, 0, none⟩ = some (.slice p.a1 q.ws.length p.c1) ∧ w'.cell? ⟨w2.heap.size, 1, none⟩ = some (.slice p.a2 q.ls.length p.c2) ∧ w'.cell? ⟨w2.heap.size, 2, none⟩ = some (.slice p.a3 q.ss.length p.c3) ∧ w'.cell? ⟨w2.heap.size, 3, none⟩ = some (.int .i64 q.le) ∧ w'.cell? ⟨w2.heap.size, 4, none⟩ = some (.int .i64 q.ra) ∧ w'.cell? ⟨w.heap.size, 0, none⟩ = some (.slice p0.a1 q0.ws.length p0.c1) ∧ w'.cell? ⟨w.heap.size, 1, none⟩ = some (.slice p0.a2 q0.ls.length p0.c2) ∧ w'.cell? ⟨w.heap.size, 2, none⟩ = some (.slice p0.a3 q0.ss.length p0.c3) ∧ w'.cell? ⟨w.heap.size, 3, none⟩ = some (.int .i64 q0.le) ∧ w'.cell? ⟨w.heap.size, 4, none⟩ = some (.int .i64 q0.ra)) (first | with_reducible exact ⟨a0, a1, a2, a3, a4, ar0, ar1, ar2, ar3, ar4⟩ | go_keep | ((repeat' apply And.intro) <;> go_keep))
          (first
            | (go_at_call 13
               (with_reducible refine (HM.out _).mono ?_)
               rintro e wm ⟨rfl, rfl⟩)
            | (go_at_call 15
               have hguard := H9.out
               refine (spoilt_any g _ M _ Ht9.out).mono ?_
               rintro e w10 ⟨p2, q2, r10, rfl, ho10, ht10, hg10, hsp10⟩
               have Ho10 := Lib.hid ho10
               have Hg10 := Lib.hid (only_trans Hg9.out hg10)
               have Ho19 := Lib.hid (Ho9.out.only hg10 hgw8)
               have HP10 := Lib.hid ((hg10.block w2.heap.size (by omega) (fun e => by injection e; omega)).trans HP9.out)
               have HR10 := Lib.hid ((hg10.block w.heap.size (by omega) (fun e => by injection e; omega)).trans HR9.out)
               have c0 := rowCell HP10.out (i := 0) rfl
               have c1 := rowCell HP10.out (i := 1) rfl
               have c2 := rowCell HP10.out (i := 2) rfl
               have c3 := rowCell HP10.out (i := 3) rfl
               have c4 := rowCell HP10.out (i := 4) rfl
               have cr0 := rowCell HR10.out (i := 0) rfl
               have cr1 := rowCell HR10.out (i := 1) rfl
               have cr2 := rowCell HR10.out (i := 2) rfl
               have cr3 := rowCell HR10.out (i := 3) rfl
               have cr4 := rowCell HR10.out (i := 4) rfl
               clear ho10 ht10 hg10 hguard)
            | (go_at_call 15
               refine (spoilt_any g _ by_ _ Htd.out).mono ?_
               rintro e w9 ⟨p1, q1, r9, rfl, ho9, ht9, hg9, hsp9⟩
               have Ho9 := Lib.hid ho9
               have Ht9 := Lib.hid ht9
               have Hg9 := Lib.hid hg9
               have hs9 : w8.heap.size ≤ w9.heap.size := hg9.size
               have hgw8 : g < w8.drew.heap.size := by show g < w8.heap.size; omega
               have HP9 := Lib.hid ((hg9.block w2.heap.size hX2 (fun e => by injection e; omega)).trans HPd.out)
               have HR9 := Lib.hid ((hg9.block w.heap.size hX0 (fun e => by injection e; omega)).trans HRd.out)
               have b0 := rowCell HP9.out (i := 0) rfl
               have b1 := rowCell HP9.out (i := 1) rfl
               have b2 := rowCell HP9.out (i := 2) rfl
               have b3 := rowCell HP9.out (i := 3) rfl
               have b4 := rowCell HP9.out (i := 4) rfl
               have br0 := rowCell HR9.out (i := 0) rfl
               have br1 := rowCell HR9.out (i := 1) rfl
               have br2 := rowCell HR9.out (i := 2) rfl
               have br3 := rowCell HR9.out (i := 3) rfl
               have br4 := rowCell HR9.out (i := 4) rfl
               have H9 : Hid True := Lib.hid trivial
               clear ho9 ht9 hg9)
            | fail)
        clear a0 a1 a2 a3 a4 ar0 ar1 ar2 ar3 ar4 b0 b1 b2 b3 b4 br0 br1 br2 br3 br4 c0 c1 c2 c3 c4 cr0 cr1 cr2 cr3 cr4
        go_wp2
        go_meet
        case rel =>
          have Hg10x : Hid (w8.grownBy w10 (some g)) := Lib.hid (only_trans (only_below (World.grownBy.refl _ _) (Below.drew (Below.refl _ _)) (Nat.le_refl _)) Hg10.out)
          have H010 := Lib.hid (below_only H08.out Hg10x.out hwg (by omega))
          have hs10 : w8.heap.size ≤ w10.heap.size := Hg10x.out.size
          have hrow := heap_alloc_new w10 (.cells #[.slice p.a1 q.ws.length p.c1, .slice p.a2 q.ls.length p.c2, .slice p.a3 q.ss.length p.c3, .int .i64 q.le, .int .i64 q.ra, .slice p1.a1 q1.ws.length p1.c1, .slice p1.a2 q1.ls.length p1.c2, .slice p1.a3 q1.ss.length p1.c3, .int .i64 q1.le, .int .i64 q1.ra, .slice p2.a1 q2.ws.length p2.c1, .slice p2.a2 q2.ls.length p2.c2, .slice p2.a3 q2.ss.length p2.c3, .int .i64 q2.le, .int .i64 q2.ra, .slice p0.a1 q0.ws.length p0.c1, .slice p0.a2 q0.ls.length p0.c2, .slice p0.a3 q0.ss.length p0.c3, .int .i64 q0.le, .int .i64 q0.ra] 24)
          have Hb11 : Hid (Below w10.heap.size w10 (w10.alloc (.cells #[.slice p.a1 q.ws.length p.c1, .slice p.a2 q.ls.length p.c2, .slice p.a3 q.ss.length p.c3, .int .i64 q.le, .int .i64 q.ra, .slice p1.a1 q1.ws.length p1.c1, .slice p1.a2 q1.ls.length p1.c2, .slice p1.a3 q1.ss.length p1.c3, .int .i64 q1.le, .int .i64 q1.ra, .slice p2.a1 q2.ws.length p2.c1, .slice p2.a2 q2.ls.length p2.c2, .slice p2.a3 q2.ss.length p2.c3, .int .i64 q2.le, .int .i64 q2.ra, .slice p0.a1 q0.ws.length p0.c1, .slice p0.a2 q0.ls.length p0.c2, .slice p0.a3 q0.ss.length p0.c3, .int .i64 q0.le, .int .i64 q0.ra] 24))) := Lib.hid (by repeat' (first | with_reducible exact Below.refl _ _ | with_reducible refine below_drewN ?_ _ | with_reducible refine Below.drew ?_ | with_reducible refine Below.alloc ?_ ?_ _ | with_reducible refine Below.setCell ?_ ?_ _ | with_reducible refine Below.trans ?_ (Below.mono (by with_reducible assumption) ?_) | (simp; done) | (simp; omega) | omega))
          have HUo10 := Lib.hid (HUo8.out.only Hg10x.out hg3)
          have HU10 := Lib.hid (HU8.out.only Hg10x.out hg3)
          have HS10 := Lib.hid (ownsRow_only HS8.out Hg10x.out hgd)
          have Ho10' := Lib.hid (Ho8.out.only Hg10x.out hg1)
          have hs11 : w10.heap.size < (w10.alloc (.cells #[.slice p.a1 q.ws.length p.c1, .slice p.a2 q.ls.length p.c2, .slice p.a3 q.ss.length p.c3, .int .i64 q.le, .int .i64 q.ra, .slice p1.a1 q1.ws.length p1.c1, .slice p1.a2 q1.ls.length p1.c2, .slice p1.a3 q1.ss.length p1.c3, .int .i64 q1.le, .int .i64 q1.ra, .slice p2.a1 q2.ws.length p2.c1, .slice p2.a2 q2.ls.length p2.c2, .slice p2.a3 q2.ss.length p2.c3, .int .i64 q2.le, .int .i64 q2.ra, .slice p0.a1 q0.ws.length p0.c1, .slice p0.a2 q0.ls.length p0.c2, .slice p0.a3 q0.ss.length p0.c3, .int .i64 q0.le, .int .i64 q0.ra] 24)).heap.size := by simp
          generalize w10.alloc (.cells #[.slice p.a1 q.ws.length p.c1, .slice p.a2 q.ls.length p.c2, .slice p.a3 q.ss.length p.c3, .int .i64 q.le, .int .i64 q.ra, .slice p1.a1 q1.ws.length p1.c1, .slice p1.a2 q1.ls.length p1.c2, .slice p1.a3 q1.ss.length p1.c3, .int .i64 q1.le, .int .i64 q1.ra, .slice p2.a1 q2.ws.length p2.c1, .slice p2.a2 q2.ls.length p2.c2, .slice p2.a3 q2.ss.length p2.c3, .int .i64 q2.le, .int .i64 q2.ra, .slice p0.a1 q0.ws.length p0.c1, .slice p0.a2 q0.ls.length p0.c2, .slice p0.a3 q0.ss.length p0.c3, .int .i64 q0.le, .int .i64 q0.ra] 24) = w11 at hrow Hb11 hs11 ⊢
          have HB11 : Hid (Below w0.heap.size w0 w11) := Lib.hid (H010.out.trans (Hb11.out.mono H010.out.size))
          have hs010 := H010.out.size
          refine ⟨w10.heap.size, rfl, rfl, rfl, hs11, by omega, Hb0.out.trans (HB11.out.mono (by omega)), ?_, ⟨HU10.out.slu.below Hb11.out, HUo10.out.slu.below Hb11.out, HL0.out.below HB11.out⟩, ⟨(Sl.of_own HS10.out (by rw [List.length_map, HKt.out])).below Hb11.out, HC0.out.below HB11.out⟩, ⟨(HB11.out.block _ (by omega)).trans HV0.out, Hu00.out.below HB11.out⟩⟩
          intro j hj
          rcases (show j = 0 ∨ j = 1 ∨ j = 2 ∨ j = 3 by omega) with rfl | rfl | rfl | rfl
          · exact ⟨p, q, cell_of_row _ _ 0 _ _ _ hrow, cell_of_row _ _ 1 _ _ _ hrow, cell_of_row _ _ 2 _ _ _ hrow, cell_of_row _ _ 3 _ _ _ hrow, cell_of_row _ _ 4 _ _ _ hrow, Ho10'.out.at.below Hb11.out, by omega⟩
          · exact ⟨p1, q1, cell_of_row _ _ 5 _ _ _ hrow, cell_of_row _ _ 6 _ _ _ hrow, cell_of_row _ _ 7 _ _ _ hrow, cell_of_row _ _ 8 _ _ _ hrow, cell_of_row _ _ 9 _ _ _ hrow, Ho19.out.at.below Hb11.out, by omega⟩
          · exact ⟨p2, q2, cell_of_row _ _ 10 _ _ _ hrow, cell_of_row _ _ 11 _ _ _ hrow, cell_of_row _ _ 12 _ _ _ hrow, cell_of_row _ _ 13 _ _ _ hrow, cell_of_row _ _ 14 _ _ _ hrow, Ho10.out.at.below Hb11.out, by omega⟩
          · exact ⟨p0, q0, cell_of_row _ _ 15 _ _ _ hrow, cell_of_row _ _ 16 _ _ _ hrow, cell_of_row _ _ 17 _ _ _ hrow, cell_of_row _ _ 18 _ _ _ hrow, cell_of_row _ _ 19 _ _ _ hrow, Hpq0.out.below HB11.out, by omega⟩
      case rest =>
        obtain ⟨w11, rfl⟩ : ∃ w11 : World, w11 = wc := ⟨_, rfl⟩
        obtain ⟨BS, rfl, rfl, rfl, hs11, hsw11, h11, hR, hLs, hSs, hV⟩ := hcut
        have H11 := Lib.hid h11
        have HR := Lib.hid hR
        have HLs := Lib.hid hLs
        have HSs := Lib.hid hSs
        have HV := Lib.hid hV
        have Hlo := Lib.hid hl'
        clear h11 hR hLs hSs hV hl' HUo8 HU8 HS8 Ho8 HP8 HR8 HPd HRd H08 Htd Ht8 HM hX2 hX0 hXg hXr hgd hs8
        clear a0 a1 a2 a3 a4 ar0 ar1 ar2 ar3 ar4
        go_wp2_with fail
        go_loopw [23, 25, 26, 27, 28, 29, 101, 144, 180] (fun _ _ _ _ _ _ i _ _ wr => ∃ j : Nat, j ≤ 4 ∧ i = .int .i64 (j : Int) ∧ Below w11.heap.size w11 wr) (fun _ _ _ _ _ _ i _ _ _ => (4 - intOf i).toNat)
        case atStart => exact ⟨0, by omega, rfl, Below.refl _ _⟩
        case round =>
          obtain ⟨j, hj, rfl, hbw⟩ := hrel
          have Hbw := Lib.hid hbw
          have hsw := hbw.size
          clear hbw
          by_cases hj4 : j < 4
          · have hj4' : (j : Int) < 4 := by omega
            obtain ⟨px, qx, g0, g1, g2, g3, g4, hat, hss⟩ := HR.out j hj4
            have c0 := (Hbw.out.cell (p := ⟨BS, j * 5, none⟩) hs11).trans g0
            have c1 := (Hbw.out.cell (p := ⟨BS, j * 5 + 1, none⟩) hs11).trans g1
            have c2 := (Hbw.out.cell (p := ⟨BS, j * 5 + 2, none⟩) hs11).trans g2
            have c3 := (Hbw.out.cell (p := ⟨BS, j * 5 + 3, none⟩) hs11).trans g3
            have c4 := (Hbw.out.cell (p := ⟨BS, j * 5 + 4, none⟩) hs11).trans g4
            have Hat := Lib.hid (hat.below Hbw.out)
            clear g0 g1 g2 g3 g4 hat
            go_upto_region 13 with fail
            clear c0 c1 c2 c3 c4
            have hT := heap_alloc_new wr (.cells #[.slice px.a1 qx.ws.length px.c1, .slice px.a2 qx.ls.length px.c2, .slice px.a3 qx.ss.length px.c3, .int .i64 qx.le, .int .i64 qx.ra] 24)
            have HbT : Hid (Below wr.heap.size wr (wr.alloc (.cells #[.slice px.a1 qx.ws.length px.c1, .slice px.a2 qx.ls.length px.c2, .slice px.a3 qx.ss.length px.c3, .int .i64 qx.le, .int .i64 qx.ra] 24))) := Lib.hid (by repeat' (first | with_reducible exact Below.refl _ _ | with_reducible refine below_drewN ?_ _ | with_reducible refine Below.drew ?_ | with_reducible refine Below.alloc ?_ ?_ _ | with_reducible refine Below.setCell ?_ ?_ _ | with_reducible refine Below.trans ?_ (Below.mono (by with_reducible assumption) ?_) | (simp; done) | (simp; omega) | omega))
            obtain ⟨T, hTe⟩ : ∃ T, wr.heap.size = T := ⟨_, rfl⟩
            have hTlt : T < (wr.alloc (.cells #[.slice px.a1 qx.ws.length px.c1, .slice px.a2 qx.ls.length px.c2, .slice px.a3 qx.ss.length px.c3, .int .i64 qx.le, .int .i64 qx.ra] 24)).heap.size := by rw [← hTe]; simp
            have HaT := Lib.hid (Hat.out.below HbT.out)
            rw [hTe] at hT ⊢
            generalize wr.alloc (.cells #[.slice px.a1 qx.ws.length px.c1, .slice px.a2 qx.ls.length px.c2, .slice px.a3 qx.ss.length px.c3, .int .i64 qx.le, .int .i64 qx.ra] 24) = wT at hT HbT hTlt HaT ⊢
            have HbT2 : Hid (Below w11.heap.size w11 wT) := Lib.hid (Hbw.out.trans (HbT.out.mono hsw))
            have HT := Lib.hid hT
            have hswT := HbT2.out.size
            clear hT hTe Hat HbT
            have HVT : Hid (wT.heap[w.heap.size + 1]? = some (.cells #[.int .i64 u0.fm, .slice v0.a u0.fs.length v0.c] 27 (0, 0))) := Lib.hid ((HbT2.out.block _ (by omega)).trans HV.out.1)
            have HVs := Lib.hid (HV.out.2.below HbT2.out)
            have t0 := rowCell HT.out (i := 0) rfl
            have t1 := rowCell HT.out (i := 1) rfl
            have t2 := rowCell HT.out (i := 2) rfl
            have t3 := rowCell HT.out (i := 3) rfl
            have t4 := rowCell HT.out (i := 4) rfl
            have y0 := rowCell HVT.out (i := 0) rfl
            have y1 := rowCell HVT.out (i := 1) rfl
            have hlV : w.heap.size + 1 < wT.heap.size := by omega
            obtain ⟨ck, hck⟩ : ∃ x, checkP qx = x := ⟨_, rfl⟩
            have H16 : Hid (∀ W, Below wT.heap.size wT W → Calls Try.prog 16 #[.agg #[.slice px.a1 qx.ws.length px.c1, .slice px.a2 qx.ls.length px.c2, .slice px.a3 qx.ss.length px.c3, .int .i64 qx.le, .int .i64 qx.ra]] W fun e w' => e = .returned (.int .i64 ck) ∧ Below W.heap.size W w') := Lib.hid (fun W hW => by have := checkS_any px qx W (HaT.out.below hW); rw [hck] at this; exact this)
            have H17 : Hid (∀ W, Below wT.heap.size wT W → Calls Try.prog 17 #[.agg #[.slice px.a1 qx.ws.length px.c1, .slice px.a2 qx.ls.length px.c2, .slice px.a3 qx.ss.length px.c3, .int .i64 qx.le, .int .i64 qx.ra]] W fun e w' => e = .returned (.int .i64 ck) ∧ Below W.heap.size W w') := Lib.hid (fun W hW => by have := checkR_any px qx W (HaT.out.below hW); rw [hck] at this; exact this)
            obtain ⟨M, hMe⟩ : ∃ M, modV sc 900 = M := ⟨_, rfl⟩
            have H13 : Hid (∀ W, Calls Try.prog 13 #[.int .i64 sc, .int .i64 900] W fun e w' => e = .returned (.int .i64 M) ∧ W = w') := Lib.hid (fun W => by have := mod_any sc 900 W hsc (by omega); rwa [hMe] at this)
            obtain ⟨s1, hs1e⟩ : ∃ x, stratP qx sc = x := ⟨_, rfl⟩
            have H18a : Hid (∀ W, Below wT.heap.size wT W → Calls Try.prog 18 #[.agg #[.slice px.a1 qx.ws.length px.c1, .slice px.a2 qx.ls.length px.c2, .slice px.a3 qx.ss.length px.c3, .int .i64 qx.le, .int .i64 qx.ra], .int .i64 sc] W fun e w' => e = .returned (.int .i64 s1) ∧ Below W.heap.size W w') := Lib.hid (fun W hW => by have := stratS_any px qx sc W (HaT.out.below hW); rw [hs1e] at this; exact this)
            have H19a : Hid (∀ W, Below wT.heap.size wT W → Calls Try.prog 19 #[.agg #[.slice px.a1 qx.ws.length px.c1, .slice px.a2 qx.ls.length px.c2, .slice px.a3 qx.ss.length px.c3, .int .i64 qx.le, .int .i64 qx.ra], .int .i64 sc] W fun e w' => e = .returned (.int .i64 s1) ∧ Below W.heap.size W w') := Lib.hid (fun W hW => by have := stratR_any px qx sc W (HaT.out.below hW); rw [hs1e] at this; exact this)
            obtain ⟨s2, hs2e⟩ : ∃ x, stratP qx M = x := ⟨_, rfl⟩
            have H18b : Hid (∀ W, Below wT.heap.size wT W → Calls Try.prog 18 #[.agg #[.slice px.a1 qx.ws.length px.c1, .slice px.a2 qx.ls.length px.c2, .slice px.a3 qx.ss.length px.c3, .int .i64 qx.le, .int .i64 qx.ra], .int .i64 M] W fun e w' => e = .returned (.int .i64 s2) ∧ Below W.heap.size W w') := Lib.hid (fun W hW => by have := stratS_any px qx M W (HaT.out.below hW); rw [hs2e] at this; exact this)
            have H19b : Hid (∀ W, Below wT.heap.size wT W → Calls Try.prog 19 #[.agg #[.slice px.a1 qx.ws.length px.c1, .slice px.a2 qx.ls.length px.c2, .slice px.a3 qx.ss.length px.c3, .int .i64 qx.le, .int .i64 qx.ra], .int .i64 M] W fun e w' => e = .returned (.int .i64 s2) ∧ Below W.heap.size W w') := Lib.hid (fun W hW => by have := stratR_any px qx M W (HaT.out.below hW); rw [hs2e] at this; exact this)
            obtain ⟨s3, hs3e⟩ : ∃ x, scoreP qx u0 = x := ⟨_, rfl⟩
            have H20 : Hid (∀ W, Below wT.heap.size wT W → Calls Try.prog 20 #[.agg #[.slice px.a1 qx.ws.length px.c1, .slice px.a2 qx.ls.length px.c2, .slice px.a3 qx.ss.length px.c3, .int .i64 qx.le, .int .i64 qx.ra], .agg #[.int .i64 u0.fm, .slice v0.a u0.fs.length v0.c]] W fun e w' => e = .returned (.int .i64 s3) ∧ Below W.heap.size W w') := Lib.hid (fun W hW => by have := scoS_any px qx v0 u0 W (HaT.out.below hW) (HVs.out.below hW); rw [hs3e] at this; exact this)
            have H21 : Hid (∀ W, Below wT.heap.size wT W → Calls Try.prog 21 #[.agg #[.slice px.a1 qx.ws.length px.c1, .slice px.a2 qx.ls.length px.c2, .slice px.a3 qx.ss.length px.c3, .int .i64 qx.le, .int .i64 qx.ra], .agg #[.int .i64 u0.fm, .slice v0.a u0.fs.length v0.c]] W fun e w' => e = .returned (.int .i64 s3) ∧ Below W.heap.size W w') := Lib.hid (fun W hW => by have := scoR_any px qx v0 u0 W (HaT.out.below hW) (HVs.out.below hW); rw [hs3e] at this; exact this)
            clear hck hMe hs1e hs2e hs3e
            refine wp_region_below (W := wT) wT.heap.size (Nat.le_refl _) (by kernel_rfl) (by kernel_rfl) ?_
            intro I _ F hFc hFb hFs
            repeat (go_big_quiet_step ((first
              | (go_at_call 16; with_reducible exact class_call hFb hFs (Nat.le_refl _) (H16.out _ (hFb _)))
              | (go_at_call 17; with_reducible exact class_call hFb hFs (Nat.le_refl _) (H17.out _ (hFb _)))
              | (go_at_call 13; with_reducible exact class_same (H13.out _))
              | (go_at_call 18; with_reducible exact class_call hFb hFs (Nat.le_refl _) (H18a.out _ (hFb _)))
              | (go_at_call 18; with_reducible exact class_call hFb hFs (Nat.le_refl _) (H18b.out _ (hFb _)))
              | (go_at_call 19; with_reducible exact class_call hFb hFs (Nat.le_refl _) (H19a.out _ (hFb _)))
              | (go_at_call 19; with_reducible exact class_call hFb hFs (Nat.le_refl _) (H19b.out _ (hFb _)))
              | (go_at_call 20; with_reducible exact class_call hFb hFs (Nat.le_refl _) (H20.out _ (hFb _)))
              | (go_at_call 21; with_reducible exact class_call hFb hFs (Nat.le_refl _) (H21.out _ (hFb _))))))
            refine wpQuiet_nil ?_
            rintro _ ⟨iq, rfl⟩
            obtain ⟨wS, hwS⟩ : ∃ wS : World, wS = F iq := ⟨_, rfl⟩
            have HbS : Hid (Below wT.heap.size wT wS) := Lib.hid (by rw [hwS]; exact hFb iq)
            rw [← hwS]
            clear hwS hFc hFb hFs H13 H16 H17 H18a H18b H19a H19b H20 H21 t0 t1 t2 t3 t4 y0 y1 HVT HVs
            have hsS := HbS.out.size
            have HaS := Lib.hid (HaT.out.below HbS.out)
            have HTS : Hid (wS.heap[T]? = some (.cells #[.slice px.a1 qx.ws.length px.c1, .slice px.a2 qx.ls.length px.c2, .slice px.a3 qx.ss.length px.c3, .int .i64 qx.le, .int .i64 qx.ra] 24 (0, 0))) := Lib.hid ((HbS.out.block T hTlt).trans HT.out)
            have HbS2 : Hid (Below w11.heap.size w11 wS) := Lib.hid (HbT2.out.trans (HbS.out.mono hswT))
            have hTS : T < wS.heap.size := by omega
            clear HaT HT HbT2 HbS
            have HLS : Hid (SlU wS UA l.length uc l ∧ SlU wS OA l'.length oc l' ∧ SlU wS LA L.length lc L) := Lib.hid ⟨HLs.out.1.below HbS2.out, HLs.out.2.1.below HbS2.out, HLs.out.2.2.below HbS2.out⟩
            have HNS : Hid (Sl wS SA sd ((cs.take K).map (.int .i64)) ∧ Sl wS CA cc (cs.map (.int .i64))) := Lib.hid ⟨HSs.out.1.below HbS2.out, HSs.out.2.below HbS2.out⟩
            go_upto_region 15 with fail
            go_cut [142, 143, 144] (fun s1 s2 s3 wx => ∃ BU : Nat, s1 = .slice (some ⟨BU, 0, none⟩) 3 3 ∧ s2 = .int .i64 3 ∧ s3 = .int .i64 0 ∧ BU < wx.heap.size ∧ Below wS.heap.size wS wx ∧ ∀ j, j < 3 → AtU wx BU j)
            case first =>
              go_wp2_with fail
              go_meet
              case rel =>
                have hrow := heap_alloc_new wS (.cells #[.slice UA l.length uc, .slice OA l.length oc, .slice LA L.length lc] 25)
                have Hb : Hid (Below wS.heap.size wS (wS.alloc (.cells #[.slice UA l.length uc, .slice OA l.length oc, .slice LA L.length lc] 25))) := Lib.hid (by repeat' (first | with_reducible exact Below.refl _ _ | with_reducible refine below_drewN ?_ _ | with_reducible refine Below.drew ?_ | with_reducible refine Below.alloc ?_ ?_ _ | with_reducible refine Below.setCell ?_ ?_ _ | with_reducible refine Below.trans ?_ (Below.mono (by with_reducible assumption) ?_) | (simp; done) | (simp; omega) | omega))
                have hs : wS.heap.size < (wS.alloc (.cells #[.slice UA l.length uc, .slice OA l.length oc, .slice LA L.length lc] 25)).heap.size := by simp
                generalize wS.alloc (.cells #[.slice UA l.length uc, .slice OA l.length oc, .slice LA L.length lc] 25) = wx at hrow Hb hs ⊢
                refine ⟨wS.heap.size, rfl, rfl, rfl, hs, Hb.out, ?_⟩
                intro j hj
                rcases (show j = 0 ∨ j = 1 ∨ j = 2 by omega) with rfl | rfl | rfl
                · exact ⟨UA, uc, l, cell_of_row _ _ 0 _ _ _ hrow, HLS.out.1.below Hb.out⟩
                · exact ⟨OA, oc, l', by rw [Hlo.out]; exact cell_of_row _ _ 1 _ _ _ hrow, HLS.out.2.1.below Hb.out⟩
                · exact ⟨LA, lc, L, cell_of_row _ _ 2 _ _ _ hrow, HLS.out.2.2.below Hb.out⟩
            case rest =>
              obtain ⟨wU, rfl⟩ : ∃ wU : World, wU = wc := ⟨_, rfl⟩
              obtain ⟨BU, rfl, rfl, rfl, hsBU, hbU, hU⟩ := hcut
              have HbU := Lib.hid hbU
              have HUs := Lib.hid hU
              have hsU := hbU.size
              clear hbU hU HLS
              go_wp2_with fail
              go_loopw [23, 144] (fun _ i wr => ∃ j : Nat, j ≤ 3 ∧ i = .int .i64 (j : Int) ∧ Below wU.heap.size wU wr) (fun _ i _ => (3 - intOf i).toNat)
              case atStart => exact ⟨0, by omega, rfl, Below.refl _ _⟩
              case round =>
                obtain ⟨jj, hjj, rfl, hbw⟩ := hrel
                have Hbw := Lib.hid hbw
                have hsw := hbw.size
                have HbS3 : Hid (Below wS.heap.size wS wr) := Lib.hid (HbU.out.trans (hbw.mono hsU))
                clear hbw
                have HTr : Hid (wr.heap[T]? = some (.cells #[.slice px.a1 qx.ws.length px.c1, .slice px.a2 qx.ls.length px.c2, .slice px.a3 qx.ss.length px.c3, .int .i64 qx.le, .int .i64 qx.ra] 24 (0, 0))) := Lib.hid ((HbS3.out.block T hTS).trans HTS.out)
                have HaR := Lib.hid (HaS.out.below HbS3.out)
                have hTr : T < wr.heap.size := by omega
                by_cases hj3 : jj < 3
                · have hj3' : (jj : Int) < 3 := by omega
                  obtain ⟨A1, c1, L1, d0, hsl⟩ := HUs.out jj hj3
                  have e0 := (Hbw.out.cell (p := ⟨BU, jj, none⟩) hsBU).trans d0
                  have HSl := Lib.hid (hsl.below Hbw.out)
                  clear d0 hsl
                  go_upto_region 18 with fail
                  clear e0
                  have t0 := rowCell HTr.out (i := 0) rfl
                  have t1 := rowCell HTr.out (i := 1) rfl
                  have t2 := rowCell HTr.out (i := 2) rfl
                  have t3 := rowCell HTr.out (i := 3) rfl
                  have t4 := rowCell HTr.out (i := 4) rfl
                  obtain ⟨un, hun⟩ : ∃ x, unitsP qx (uns L1) = x := ⟨_, rfl⟩
                  have H22 : Hid (∀ W, Below wr.heap.size wr W → Calls Try.prog 22 #[.agg #[.slice px.a1 qx.ws.length px.c1, .slice px.a2 qx.ls.length px.c2, .slice px.a3 qx.ss.length px.c3, .int .i64 qx.le, .int .i64 qx.ra], .slice A1 L1.length c1] W fun e w' => e = .returned (.int .i64 un) ∧ Below W.heap.size W w') := Lib.hid (fun W hW => by have := unitsS_any px qx A1 c1 L1 W (HaR.out.below hW) (HSl.out.below hW); rw [hun] at this; exact this)
                  have H23 : Hid (∀ W, Below wr.heap.size wr W → Calls Try.prog 23 #[.agg #[.slice px.a1 qx.ws.length px.c1, .slice px.a2 qx.ls.length px.c2, .slice px.a3 qx.ss.length px.c3, .int .i64 qx.le, .int .i64 qx.ra], .slice A1 L1.length c1] W fun e w' => e = .returned (.int .i64 un) ∧ Below W.heap.size W w') := Lib.hid (fun W hW => by have := unitsR_any px qx A1 c1 L1 W (HaR.out.below hW) (HSl.out.below hW); rw [hun] at this; exact this)
                  clear hun
                  refine wp_region_below (W := wr) wr.heap.size (Nat.le_refl _) (by kernel_rfl) (by kernel_rfl) ?_
                  intro I _ F hFc hFb hFs
                  repeat (go_big_quiet_step ((first
                    | (go_at_call 22; with_reducible exact class_call hFb hFs (Nat.le_refl _) (H22.out _ (hFb _)))
                    | (go_at_call 23; with_reducible exact class_call hFb hFs (Nat.le_refl _) (H23.out _ (hFb _))))))
                  refine wpQuiet_nil ?_
                  rintro _ ⟨iq, rfl⟩
                  obtain ⟨wV, hwV⟩ : ∃ wV : World, wV = F iq := ⟨_, rfl⟩
                  have HbV : Hid (Below wr.heap.size wr wV) := Lib.hid (by rw [hwV]; exact hFb iq)
                  rw [← hwV]
                  clear hwV hFc hFb hFs H22 H23 t0 t1 t2 t3 t4
                  have hsV := HbV.out.size
                  have hTV : T < wV.heap.size := by omega
                  have HTV : Hid (wV.heap[T]? = some (.cells #[.slice px.a1 qx.ws.length px.c1, .slice px.a2 qx.ls.length px.c2, .slice px.a3 qx.ss.length px.c3, .int .i64 qx.le, .int .i64 qx.ra] 24 (0, 0))) := Lib.hid ((HbV.out.block T hTr).trans HTr.out)
                  have HaV := Lib.hid (HaR.out.below HbV.out)
                  have HSV := Lib.hid (HSl.out.below HbV.out)
                  have HbUV : Hid (Below wU.heap.size wU wV) := Lib.hid (Hbw.out.trans (HbV.out.mono hsw))
                  clear HTr HaR HSl
                  go_upto_region 20 with fail
                  have t0 := rowCell HTV.out (i := 0) rfl
                  have t1 := rowCell HTV.out (i := 1) rfl
                  have t2 := rowCell HTV.out (i := 2) rfl
                  have t3 := rowCell HTV.out (i := 3) rfl
                  have t4 := rowCell HTV.out (i := 4) rfl
                  by_cases hl1 : 0 < L1.length
                  · have hl1' : (0 : Int) < (L1.length : Int) := by omega
                    obtain ⟨b1, o1, x1, rfl, hb1, f0, f1, hx1⟩ := HSV.out.first hl1
                    have Hx1 := Lib.hid hx1
                    obtain ⟨sx, hsx⟩ : ∃ s, scoreP qx x1.1 = s := ⟨_, rfl⟩
                    have H20 : Hid (∀ W, Below wV.heap.size wV W → Calls Try.prog 20 #[.agg #[.slice px.a1 qx.ws.length px.c1, .slice px.a2 qx.ls.length px.c2, .slice px.a3 qx.ss.length px.c3, .int .i64 qx.le, .int .i64 qx.ra], .agg #[.int .i64 x1.1.fm, .slice x1.2.a x1.1.fs.length x1.2.c]] W fun e w' => e = .returned (.int .i64 sx) ∧ Below W.heap.size W w') := Lib.hid (fun W hW => by have := scoS_any px qx x1.2 x1.1 W (HaV.out.below hW) (Hx1.out.below hW); rw [hsx] at this; exact this)
                    have H21 : Hid (∀ W, Below wV.heap.size wV W → Calls Try.prog 21 #[.agg #[.slice px.a1 qx.ws.length px.c1, .slice px.a2 qx.ls.length px.c2, .slice px.a3 qx.ss.length px.c3, .int .i64 qx.le, .int .i64 qx.ra], .agg #[.int .i64 x1.1.fm, .slice x1.2.a x1.1.fs.length x1.2.c]] W fun e w' => e = .returned (.int .i64 sx) ∧ Below W.heap.size W w') := Lib.hid (fun W hW => by have := scoR_any px qx x1.2 x1.1 W (HaV.out.below hW) (Hx1.out.below hW); rw [hsx] at this; exact this)
                    clear hsx hx1
                    refine wp_region_below (W := wV) wV.heap.size (Nat.le_refl _) (by kernel_rfl) (by kernel_rfl) ?_
                    intro I _ F hFc hFb hFs
                    repeat (go_big_quiet_step ((first
                      | (go_at_call 20; with_reducible exact class_call hFb hFs (Nat.le_refl _) (H20.out _ (hFb _)))
                      | (go_at_call 21; with_reducible exact class_call hFb hFs (Nat.le_refl _) (H21.out _ (hFb _))))))
                    refine wpQuiet_nil ?_
                    rintro _ ⟨iq, rfl⟩
                    go_wp2
                    go_roundw
                    case rel => exact ⟨jj + 1, by omega, by go_num, HbUV.out.trans ((hFb iq).mono (by omega))⟩
                    case measure => simp [intOf]; omega
                  · have hl1' : ¬ (0 : Int) < (L1.length : Int) := by omega
                    refine wp_region_below (W := wV) wV.heap.size (Nat.le_refl _) (by kernel_rfl) (by kernel_rfl) ?_
                    intro I _ F hFc hFb hFs
                    repeat (go_big_quiet_step (fail))
                    refine wpQuiet_nil ?_
                    rintro _ ⟨iq, rfl⟩
                    go_wp2
                    go_roundw
                    case rel => exact ⟨jj + 1, by omega, by go_num, HbUV.out.trans ((hFb iq).mono (by omega))⟩
                    case measure => simp [intOf]; omega
                · have hj3' : ¬ (jj : Int) < 3 := by omega
                  obtain ⟨wW, rfl⟩ : ∃ wW : World, wW = wr := ⟨_, rfl⟩
                  have HNW : Hid (Sl wW SA sd ((cs.take K).map (.int .i64)) ∧ Sl wW CA cc (cs.map (.int .i64))) := Lib.hid ⟨HNS.out.1.below HbS3.out, HNS.out.2.below HbS3.out⟩
                  have t2 := rowCell HTr.out (i := 2) rfl
                  obtain ⟨m, hm⟩ : ∃ m, qx.ss.length = m := ⟨_, rfl⟩
                  rw [hm] at t2 hss
                  clear hm
                  have hmk2 := fun W : World => run_make_row' (P := Try.prog) 22 3 (.int .i64 0) 8 Try.underlying22 Try.infoIn rfl .i64 .i64 m (by omega) (by omega) W
                  go_upto_region 23 with fail
                  go_cut [178, 179, 180] (fun s1 s2 s3 wx => ∃ BN : Nat, s1 = .slice (some ⟨BN, 0, none⟩) 3 3 ∧ s2 = .int .i64 3 ∧ s3 = .int .i64 0 ∧ BN < wx.heap.size ∧ Below wW.heap.size wW wx ∧ ∀ j, j < 3 → AtN wx BN j)
                  case first =>
                    go_wp2_with fail
                    go_meet
                    case rel =>
                      have hmd := own_made wW 3 (.int .i64 0) m (by unfold maxLen; omega)
                      have Hb0 : Hid (Below wW.heap.size wW (wW.alloc (.cells (madeCells #[.int .i64 0] m) 3))) := Lib.hid (by repeat' (first | with_reducible exact Below.refl _ _ | with_reducible refine below_drewN ?_ _ | with_reducible refine Below.drew ?_ | with_reducible refine Below.alloc ?_ ?_ _ | with_reducible refine Below.setCell ?_ ?_ _ | with_reducible refine Below.trans ?_ (Below.mono (by with_reducible assumption) ?_) | (simp; done) | (simp; omega) | omega))
                      have hs0 : wW.heap.size + 1 = (wW.alloc (.cells (madeCells #[.int .i64 0] m) 3)).heap.size := by simp
                      generalize wW.alloc (.cells (madeCells #[.int .i64 0] m) 3) = wm at hmd Hb0 hs0 ⊢
                      rw [hs0]
                      have hrow := heap_alloc_new wm (.cells #[.slice CA cs.length cc, .slice SA K sd, .slice (some ⟨wW.heap.size, 0, none⟩) m m] 22)
                      have Hb1 : Hid (Below wm.heap.size wm (wm.alloc (.cells #[.slice CA cs.length cc, .slice SA K sd, .slice (some ⟨wW.heap.size, 0, none⟩) m m] 22))) := Lib.hid (by repeat' (first | with_reducible exact Below.refl _ _ | with_reducible refine below_drewN ?_ _ | with_reducible refine Below.drew ?_ | with_reducible refine Below.alloc ?_ ?_ _ | with_reducible refine Below.setCell ?_ ?_ _ | with_reducible refine Below.trans ?_ (Below.mono (by with_reducible assumption) ?_) | (simp; done) | (simp; omega) | omega))
                      have hs1 : wm.heap.size < (wm.alloc (.cells #[.slice CA cs.length cc, .slice SA K sd, .slice (some ⟨wW.heap.size, 0, none⟩) m m] 22)).heap.size := by simp
                      generalize wm.alloc (.cells #[.slice CA cs.length cc, .slice SA K sd, .slice (some ⟨wW.heap.size, 0, none⟩) m m] 22) = wx at hrow Hb1 hs1 ⊢
                      have Hbx : Hid (Below wW.heap.size wW wx) := Lib.hid (Hb0.out.trans (Hb1.out.mono (by omega)))
                      refine ⟨wm.heap.size, rfl, rfl, rfl, hs1, Hbx.out, ?_⟩
                      intro j hj
                      rcases (show j = 0 ∨ j = 1 ∨ j = 2 by omega) with rfl | rfl | rfl
                      · exact ⟨CA, cc, cs, cell_of_row _ _ 0 _ _ _ hrow, HNW.out.2.below Hbx.out⟩
                      · exact ⟨SA, sd, cs.take K, by rw [HKt.out]; exact cell_of_row _ _ 1 _ _ _ hrow, HNW.out.1.below Hbx.out⟩
                      · refine ⟨some ⟨wW.heap.size, 0, none⟩, m, List.replicate m 0, by rw [List.length_replicate]; exact cell_of_row _ _ 2 _ _ _ hrow, ?_⟩
                        have h := ownsRow_below hmd Hb1.out
                        rw [← List.map_replicate] at h
                        exact Sl.of_own h (by simp)
                  case rest =>
                    obtain ⟨wN, rfl⟩ : ∃ wN : World, wN = wc := ⟨_, rfl⟩
                    obtain ⟨BN, rfl, rfl, rfl, hsBN, hbN, hN⟩ := hcut
                    have HbN := Lib.hid hbN
                    have HNs := Lib.hid hN
                    have hsN := hbN.size
                    clear hbN hN HNW hmk2 t2
                    go_wp2_with fail
                    go_loopw [25, 26, 27, 28, 29, 180] (fun _ _ _ _ _ i wr => ∃ j : Nat, j ≤ 3 ∧ i = .int .i64 (j : Int) ∧ Below wN.heap.size wN wr) (fun _ _ _ _ _ i _ => (3 - intOf i).toNat)
                    case atStart => exact ⟨0, by omega, rfl, Below.refl _ _⟩
                    case round =>
                      obtain ⟨jn, hjn, rfl, hbw⟩ := hrel
                      have Hbn := Lib.hid hbw
                      have hsn := hbw.size
                      have HbW3 : Hid (Below wW.heap.size wW wr) := Lib.hid (HbN.out.trans (hbw.mono hsN))
                      clear hbw
                      by_cases hj4 : jn < 3
                      · have hj4' : (jn : Int) < 3 := by omega
                        obtain ⟨A1, c1, l1, d0, hsl⟩ := HNs.out jn hj4
                        have e0 := (Hbn.out.cell (p := ⟨BN, jn, none⟩) hsBN).trans d0
                        have HSl := Lib.hid (hsl.below Hbn.out)
                        have HTq : Hid (wr.heap[T]? = some (.cells #[.slice px.a1 qx.ws.length px.c1, .slice px.a2 qx.ls.length px.c2, .slice px.a3 qx.ss.length px.c3, .int .i64 qx.le, .int .i64 qx.ra] 24 (0, 0))) := Lib.hid ((HbW3.out.block T hTr).trans HTr.out)
                        have HaQ := Lib.hid (HaR.out.below HbW3.out)
                        have hTq : T < wr.heap.size := by have := HbW3.out.size; omega
                        clear d0 hsl
                        have t0 := rowCell HTq.out (i := 0) rfl
                        have t1 := rowCell HTq.out (i := 1) rfl
                        have t2 := rowCell HTq.out (i := 2) rfl
                        have t3 := rowCell HTq.out (i := 3) rfl
                        have t4 := rowCell HTq.out (i := 4) rfl
                        obtain ⟨rs, hrs⟩ : ∃ x, sizesP qx l1 = x := ⟨_, rfl⟩
                        have H24 := Lib.hid (sizesS_any px qx A1 c1 l1 wr HaQ.out HSl.out)
                        have H25 := Lib.hid (fun W (hW : Below wr.heap.size wr W) => sizesR_any px qx A1 c1 l1 W (HaQ.out.below hW) (HSl.out.below hW))
                        rw [hrs] at H24 H25
                        clear hrs
                        go_wp2_with fail
                        refine H24.out.mono ?_
                        rintro e wA ⟨va, rfl, howna, hba⟩
                        obtain ⟨AA, ca, rfl, _, _, _⟩ := own_slice howna
                        have HA1 : Hid (Sl wA AA ca (rs.1.map (.int .i64))) := Lib.hid (Sl.of_own howna (by simp))
                        have HBA := Lib.hid hba
                        have HTA : Hid (wA.heap[T]? = some (.cells #[.slice px.a1 qx.ws.length px.c1, .slice px.a2 qx.ls.length px.c2, .slice px.a3 qx.ss.length px.c3, .int .i64 qx.le, .int .i64 qx.ra] 24 (0, 0))) := Lib.hid ((hba.block T hTq).trans HTq.out)
                        clear howna hba t0 t1 t2 t3 t4 e0
                        have t0 := rowCell HTA.out (i := 0) rfl
                        have t1 := rowCell HTA.out (i := 1) rfl
                        have t2 := rowCell HTA.out (i := 2) rfl
                        have t3 := rowCell HTA.out (i := 3) rfl
                        have t4 := rowCell HTA.out (i := 4) rfl
                        go_wp2_with fail
                        refine (H25.out wA HBA.out).mono ?_
                        rintro e wB ⟨vb, rfl, hownb, hbb⟩
                        obtain ⟨AB, cb, rfl, _, _, _⟩ := own_slice hownb
                        have HB1 : Hid (Sl wB AB cb (rs.1.map (.int .i64))) := Lib.hid (Sl.of_own hownb (by simp))
                        have HA2 := Lib.hid (HA1.out.below hbb)
                        have HBB : Hid (Below wr.heap.size wr wB) := Lib.hid (HBA.out.trans (hbb.mono HBA.out.size))
                        clear hownb hbb t0 t1 t2 t3 t4 H24 H25
                        have H26 : Hid (Calls Try.prog 26 #[.slice AA rs.1.length ca, .slice AB rs.1.length cb] wB fun ed w' => ed = .returned (.bool true) ∧ Below wB.heap.size wB w') := Lib.hid (by
                          have := ints_any AA AB rs.1.length rs.1.length ca cb rs.1 rs.1 wB HA2.out HB1.out rfl rfl
                          rw [decide_eq_true rfl] at this
                          exact this)
                        have hsB := HBB.out.size
                        obtain ⟨rn, hrn⟩ : ∃ n, rs.1.length = n := ⟨_, rfl⟩
                        obtain ⟨re, hre⟩ : ∃ n, rs.2 = n := ⟨_, rfl⟩
                        rw [hrn] at H26
                        try rw [hrn]
                        try rw [hre]
                        clear hrn hre
                        go_wp2_with (first
                          | (go_at_call 26
                             refine H26.out.mono ?_
                             rintro e wC ⟨rfl, hbC⟩)
                          | fail)
                        go_roundw
                        case rel => exact ⟨jn + 1, by omega, by go_num, (Hbn.out.trans (HBB.out.mono hsn)).trans (hbC.mono (by omega))⟩
                        case measure => simp [intOf]; omega
                      · have hj4' : ¬ (jn : Int) < 3 := by omega
                        go_wp2
                        go_roundw
                        case rel => exact ⟨j + 1, by omega, by go_num, HbS2.out.trans ((HbS3.out.trans (HbW3.out.mono (by omega))).mono (by omega))⟩
                        case measure => simp [intOf]; omega
          · have hj4' : ¬ (j : Int) < 4 := by omega
            go_wp2_with fail
            refine (awake25_any _).mono ?_
            rintro e w12 ⟨rfl, hb12⟩
            go_wp2
            go_ret
            exact ⟨rfl, (H11.out.trans (Hbw.out.mono (by omega))).trans (hb12.mono (by omega))⟩
end Go.Proofs.Ytjmbdfoegnfpnaa
