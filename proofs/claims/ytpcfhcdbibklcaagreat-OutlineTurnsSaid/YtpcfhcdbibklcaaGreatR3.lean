/- Contract: Row (regions). -/
import Derived.Test.YtpcfhcdbibklcaaGreatS2
import Derived.Test.YtpcfhcdbibklcaaGreatF3
import Derived.StillTailTactics
namespace Go.Proofs.YtpcfhcdbibklcaaGreat
open Go.RowKit
set_option linter.unusedVariables false
set_option linter.unusedSimpArgs false

theorem Tryz.infoSpan : (Tryz.prog.info? 111).map (fun i => (i.zero, i.size, i.bytes)) = some (some (.agg #[.int .i64 0, .int .i64 0]), 2, 16) := by kernel_rfl
theorem spansAt_succ (l : List R4) (y : Int) (k : Nat) (h : k < l.length) : spansAt (l.take (k + 1)) y = if covers y l[k] then spansAt (l.take k) y ++ [(l[k].l, l[k].r, ())] else spansAt (l.take k) y := by
  unfold spansAt
  rw [List.take_succ_eq_append_getElem h, List.filter_append, List.map_append]
  split
  · rename_i hc; simp [List.filter_cons, hc]
  · rename_i hc; simp [List.filter_cons, hc]
theorem sweep_new (acc : List (Sg Unit)) (s : Sg Unit) (h : ∀ q, acc.getLast? = some q → ¬ s.1 ≤ q.2.1) : sweep acc s = acc ++ [s] := by
  unfold sweep
  cases hq : acc.getLast? with
  | none =>
    have : acc = [] := List.getLast?_eq_none_iff.1 hq
    subst this; rfl
  | some q => simp only; rw [if_neg (h q hq)]
theorem sweep_ext (acc : List (Sg Unit)) (q s : Sg Unit) (h : s.1 ≤ q.2.1) : sweep (acc ++ [q]) s = acc ++ [(q.1, max q.2.1 s.2.1, ())] := by
  simp [sweep, h]
theorem sCells_split (l : List (Sg Unit)) (i : Nat) (h : i < l.length) : ∃ p q, sCells l = p ++ [.int .i64 l[i].1, .int .i64 l[i].2.1] ++ q ∧ p.length = i * 2 ∧ ∀ z : Sg Unit, sCells (l.set i z) = p ++ [.int .i64 z.1, .int .i64 z.2.1] ++ q := by
  refine ⟨sCells (l.take i), sCells (l.drop (i + 1)), ?_, by rw [sCells_len, List.length_take]; omega, fun z => ?_⟩
  · have e1 : sCells l = sCells (l.take i) ++ sCells (l.drop i) := by
      conv => lhs; rw [← List.take_append_drop i l]
      unfold sCells
      rw [List.flatMap_append]
    rw [List.drop_eq_getElem_cons h, show sCells (l[i] :: l.drop (i + 1)) = encSp l[i] ++ sCells (l.drop (i + 1)) from by rw [sCells, List.flatMap_cons]; rfl] at e1
    rw [e1, List.append_assoc]
    rfl
  · rw [List.set_eq_take_append_cons_drop, if_pos h]
    unfold sCells
    rw [List.flatMap_append, List.flatMap_cons, List.append_assoc]
    rfl
theorem sCells_setR (l : List (Sg Unit)) (i : Nat) (h : i < l.length) (x : Int) : sCells (l.set i (l[i].1, x, ())) = (sCells l).set (i * 2 + 1) (.int .i64 x) := by
  obtain ⟨p, q, e1, e2, e3⟩ := sCells_split l i h
  rw [e3, e1, ← e2]
  simp
theorem take_succ_foldl (ss : List (Sg Unit)) (k : Nat) (h : k < ss.length) : (ss.take (k + 1)).foldl sweep [] = sweep ((ss.take k).foldl sweep []) ss[k] := by
  rw [List.take_succ_eq_append_getElem h, List.foldl_append]; rfl

set_option maxHeartbeats 16000000 in
set_option maxRecDepth 100000 in
theorem row_any (A : Option Addr) (n c : Nat) (l : List R4) (y : Int) (w : World) (hA : SlR w A n c l) (hn1 : n ≤ 100000) (hl : ∀ q ∈ l, q.l < q.r) :
    Calls Tryz.prog 71 #[.slice A n c, .int .i64 y] w fun e w' => ∃ v, e = .returned v ∧ w'.ownsRow w.heap.size 111 2 v (rowP l y).length (sCells (rowP l y)) ∧ Below w.heap.size w w' := by
  obtain ⟨i0, hi, hz0, hz1, hz2⟩ := info_parts Tryz.infoSpan
  have hn := hA.len
  have HA := Lib.hid hA
  have Hl := Lib.hid hl
  clear hA hl
  go_enter Tryz.func71, Tryz.ntmps71
  go_upto_region 3 with fail
  go_loopw [5, 7, 14] (fun o _ i wr => ∃ k : Nat, k ≤ n ∧ i = .int .i64 (k : Int) ∧ wr.ownsRow w.heap.size 111 2 o (spansAt (l.take k) y).length (sCells (spansAt (l.take k) y)) ∧ Below w.heap.size w wr) (fun _ _ i _ => n - (intOf i).toNat)
  case atStart => exact ⟨0, Nat.zero_le _, rfl, World.ownsRow_nil _ _ _ _, Below.refl _ _⟩
  case round =>
    obtain ⟨k, hk, rfl, hown, hbw⟩ := hrel
    have hsw := hbw.size
    have Hown := Lib.hid hown
    have Hbw := Lib.hid hbw
    clear hown
    by_cases hkn : k < n
    · have hkl : k < l.length := by omega
      obtain ⟨b, off, rfl, hb, c0, c1, c2, c3⟩ := (HA.out.below hbw).at k hkl
      have hlen : (spansAt (l.take k) y).length ≤ 100000 := by have := spansAt_len (l.take k) y; rw [List.length_take] at this; omega
      have Hstep := Lib.hid (spansAt_succ l y k hkl)
      have hkn' : (k : Int) < (n : Int) := by omega
      have Hcov : Hid (covers y l[k] = (decide (l[k].b ≤ y) && decide (y < l[k].t))) := Lib.hid rfl
      generalize l[k] = q at *
      generalize spansAt (l.take k) y = sp at *
      clear hbw
      by_cases hc : q.b ≤ y ∧ y < q.t
      · obtain ⟨hc1, hc2⟩ := hc
        have Hcv : Hid (covers y q = true) := Lib.hid (by rw [Hcov.out]; simp; omega)
        go_wp2_with (first
          | (at_builtin
             refine wpList_append_any _ rfl (.tmp 28) (.tmp 34) _ rfl w.heap.size 111 i0 _ 2 16 Tryz.underlying96 hi hz0 hz1 hz2 rfl (by omega) _ sp.length (sCells sp) rfl
               ((Hown.out.alloc _).alloc _) _ _ 1 1 [.int .i64 q.l, .int .i64 q.r] rfl ⟨rfl, fun _ => ⟨_, rfl, Nat.lt_succ_self _, fun j u hu => (by exact World.news_of_block (heap_alloc2_new wr _ (.cells #[.int .i64 q.l, .int .i64 q.r] 111)) j u hu)⟩⟩ (by simp [Value.oneCell']) (by simp only [maxLen]; omega) (by omega) (by simp; omega) ?_
             intro v5 w5 hown5 hg5 hat5)
          | fail)
        go_roundw
        case rel =>
          refine ⟨k + 1, by omega, by go_num, ?_, ?_⟩
          · rw [Hstep.out, if_pos Hcv.out, List.length_append, sCells_snoc]
            exact hown5
          · exact Below.grown (((Hbw.out.alloc hsw _).alloc (by simp; omega) _)) hg5 (by simp; omega) (own_base Hown.out)
        case measure => simp [intOf]; omega
      · have Hcv : Hid (¬ covers y q = true) := Lib.hid (by rw [Hcov.out]; simp; omega)
        by_cases hc1 : q.b ≤ y
        · have hc2 : ¬ y < q.t := fun h => hc ⟨hc1, h⟩
          clear hc
          go_wp2
          go_roundw
          case rel => exact ⟨k + 1, by omega, by go_num, by rw [Hstep.out, if_neg Hcv.out]; exact Hown.out.alloc _, Hbw.out.alloc hsw _⟩
          case measure => simp [intOf]; omega
        · clear hc
          go_wp2
          go_roundw
          case rel => exact ⟨k + 1, by omega, by go_num, by rw [Hstep.out, if_neg Hcv.out]; exact Hown.out.alloc _, Hbw.out.alloc hsw _⟩
          case measure => simp [intOf]; omega
    · have Hown1 : Hid (wr.ownsRow w.heap.size 111 2 u5 (spansAt l y).length (sCells (spansAt l y))) := Lib.hid (by have := Hown.out; rw [List.take_of_length_le (by omega)] at this; exact this)
      have hsl := spansAt_len l y
      have hkn' : ¬ (k : Int) < (n : Int) := by omega
      have hub := Lib.hid (own_base Hown1.out)
      have Hrow := Lib.hid (fun ss h1 h2 => rowP_eq l y Hl.out ss h1 h2)
      generalize spansAt l y = sp at *
      clear hbw Hown
      go_wp2_with fail
      refine (sortSpan_own _ Hown1.out (by omega)).mono ?_
      rintro e w1 ⟨rfl, ss, hperm, hsort, hown1, hg1⟩
      have Hss : Hid (ss.foldl sweep [] = rowP l y) := Lib.hid (Hrow.out ss hperm hsort)
      have hsl2 : ss.length ≤ 100000 := by have := hperm.length_eq; omega
      have Hb1 : Hid (Below w.heap.size w w1) := Lib.hid (Hbw.out.grown hg1 hsw hub.out)
      have hsb := hg1.size
      obtain ⟨Sd, sc, rfl, hSl, hSc, hSm⟩ := own_slice hown1
      have HSl := Lib.hid hSl
      clear hperm hsort hown1 hg1 hSl Hrow
      have hs1 : w.heap.size ≤ w1.heap.size := by omega
      go_upto_region 11 with fail
      go_loopw [8, 10, 11, 41] (fun o _ _ i wr => ∃ k : Nat, k ≤ ss.length ∧ i = .int .i64 (k : Int) ∧ wr.ownsRow w1.heap.size 111 2 o ((ss.take k).foldl sweep []).length (sCells ((ss.take k).foldl sweep [])) ∧ Below w1.heap.size w1 wr) (fun _ _ _ i _ => ss.length - (intOf i).toNat)
      case atStart => exact ⟨0, Nat.zero_le _, rfl, World.ownsRow_nil _ _ _ _, Below.refl _ _⟩
      case round =>
        obtain ⟨k, hk, rfl, hown, hbr⟩ := hrel
        have hsr := hbr.size
        have Hown := Lib.hid hown
        have Hbr := Lib.hid hbr
        clear hown
        by_cases hkn : k < ss.length
        · obtain ⟨b, off, rfl, hb, hcs⟩ := (HSl.out.below hbr).resolve_left (by omega)
          obtain ⟨i1, i2⟩ := sCells_at ss k hkn
          have c0 := hcs _ _ i1
          have c1 := hcs _ _ i2
          have Hnext := Lib.hid (take_succ_foldl ss k hkn)
          have hal : ((ss.take k).foldl sweep []).length ≤ 100000 := by have := sweeps_len (ss.take k) []; rw [List.length_take] at this; simp at this; omega
          have hkn' : (k : Int) < (ss.length : Int) := by omega
          generalize ss[k] = s at *
          generalize (ss.take k).foldl sweep [] = acc at *
          have c1' : wr.cell? ⟨b, off + k * 2 + 1, none⟩ = some (.int .i64 s.2.1) := c1
          clear hbr hcs i1 i2
          rcases list_snoc acc with hsn | ⟨a0, q, hsn⟩
          · have Hnew : Hid (sweep acc s = acc ++ [s]) := Lib.hid (sweep_new acc s (by rw [hsn]; simp))
            have hl0 : acc.length = 0 := by rw [hsn]; rfl
            have Hlen := Lib.hid hl0
            rw [hl0] at Hown hal
            obtain ⟨Bd, bc, rfl, _, _, _⟩ := own_slice Hown.out
            clear hsn hl0
            go_upto_region 14 with fail
            obtain ⟨wb, hwb⟩ : ∃ wb : World, wb = wr.alloc (.cells #[.int .i64 s.1, .int .i64 s.2.1] 111) := ⟨_, rfl⟩
            rw [← hwb]
            have hq : wb.heap[wr.heap.size]? = some (.cells #[.int .i64 s.1, .int .i64 s.2.1] 111 (0, 0)) := by rw [hwb]; exact heap_alloc_new wr _
            have q0 := cell_of_row wb wr.heap.size 0 _ _ _ hq
            have q1 := cell_of_row wb wr.heap.size 1 _ _ _ hq
            have hsb2 : wr.heap.size < wb.heap.size := by rw [hwb]; simp
            have Hbb : Hid (Below wr.heap.size wr wb) := Lib.hid (by rw [hwb]; exact (by repeat' (first | with_reducible exact Below.refl _ _ | with_reducible refine below_drewN ?_ _ | with_reducible refine Below.drew ?_ | with_reducible refine Below.alloc ?_ ?_ _ | with_reducible refine Below.setCell ?_ ?_ _ | with_reducible refine Below.trans ?_ (Below.mono (by with_reducible assumption) ?_) | (simp; done) | (simp; omega) | omega)))
            clear hwb hq c0 c1 c1'
            go_quiet (fail)
            go_upto_region 16 with fail
            have Hb4 : Hid (Below wr.heap.size wr (wb.drewN nq)) := Lib.hid (below_drewN Hbb.out nq)
            have q04 : (wb.drewN nq).cell? ⟨wr.heap.size, 0, none⟩ = some (.int .i64 s.1) := q0
            have q14 : (wb.drewN nq).cell? ⟨wr.heap.size, 1, none⟩ = some (.int .i64 s.2.1) := q1
            generalize wb.drewN nq = w4 at *
            have hs4 := Hb4.out.size
            have Hown4 : Hid (w4.ownsRow w1.heap.size 111 2 (.slice Bd 0 bc) 0 (sCells acc)) := Lib.hid (ownsRow_below Hown.out Hb4.out)
            clear q0 q1
            go_wp2_with (first
              | (at_builtin
                 refine wpList_append_any _ rfl (.tmp 74) (.tmp 76) _ rfl w1.heap.size 111 i0 _ 2 16 Tryz.underlying96 hi hz0 hz1 hz2 rfl (by omega) _ 0 (sCells acc) rfl
                   (Hown4.out.alloc _) _ _ 1 1 [.int .i64 s.1, .int .i64 s.2.1] rfl ⟨rfl, fun _ => ⟨_, rfl, Nat.lt_succ_self _, fun j u hu => (by exact news_any _ _ _ j u hu)⟩⟩ (by simp [Value.oneCell']) (by simp only [maxLen]; omega) (by omega) (by simp; omega) ?_
                 intro v5 w5 hown5 hg5 hat5)
              | fail)
            go_roundw
            case rel =>
              refine ⟨k + 1, by omega, by go_num, ?_, ?_⟩
              · rw [Hnext.out, Hnew.out, List.length_append, sCells_snoc, Hlen.out]
                exact hown5
              · exact Below.grown ((Hbr.out.trans (Hb4.out.mono hsr)).alloc (by omega) _) hg5 (by simp; omega) (own_base Hown4.out)
            case measure => simp [intOf]; omega
          · have hl0 : acc.length = a0.length + 1 := by rw [hsn]; simp
            obtain ⟨nb, hnb⟩ : ∃ nb, acc.length = nb := ⟨_, rfl⟩
            obtain ⟨p, hp⟩ : ∃ p, a0.length = p := ⟨_, rfl⟩
            have hn1 : nb = p + 1 := by omega
            have hpl : p < acc.length := by omega
            have hblp : acc[p] = q := by
              have h1 : acc[p]? = some q := by rw [hsn, List.getElem?_append_right (by omega), hp]; simp
              rw [List.getElem?_eq_getElem hpl] at h1
              exact Option.some.inj h1
            have Hlen := Lib.hid hnb
            have Hn1 := Lib.hid hn1
            have Hsn := Lib.hid hsn
            have Hp := Lib.hid hp
            rw [hnb] at Hown hal
            obtain ⟨g, bc, rfl, hgb, hgl, hnc, hcm, hcells, hfr⟩ := own_at Hown.out (by omega)
            have cr := hcells (p * 2 + 1) _ (sCells_at acc p hpl).2
            rw [hblp] at cr
            have Hset : Hid (∀ z : Int, sCells (a0 ++ [(q.1, z, ())]) = (sCells acc).set (p * 2 + 1) (.int .i64 z)) := Lib.hid (fun z => by
              rw [← sCells_setR acc p hpl z, hblp, hsn]
              congr 1
              rw [List.set_append_right _ _ (by omega), hp, Nat.sub_self]
              rfl)
            have hwn : IntKind.i64.wrap ((nb : Int) - 1) = (p : Int) := by rw [IntWalk.i64_in _ (by omega)]; omega
            have hnp : (p : Int) < (nb : Int) := by omega
            have hn00 : (0 : Int) < (nb : Int) := by omega
            have hp00 : (0 : Int) ≤ (p : Int) := by omega
            have hn0N : 0 < nb := by omega
            have hnpN : p < nb := by omega
            have hdn : decide (0 < nb) = true := decide_eq_true hn0N
            have hfg := hfr (p * 2 + 1)
            clear hsn hl0 hnb hp hn1 hpl hblp hcells hfr
            go_upto_region 14 with fail
            obtain ⟨wb, hwb⟩ : ∃ wb : World, wb = wr.alloc (.cells #[.int .i64 s.1, .int .i64 s.2.1] 111) := ⟨_, rfl⟩
            rw [← hwb]
            have hq : wb.heap[wr.heap.size]? = some (.cells #[.int .i64 s.1, .int .i64 s.2.1] 111 (0, 0)) := by rw [hwb]; exact heap_alloc_new wr _
            have q0 := cell_of_row wb wr.heap.size 0 _ _ _ hq
            have q1 := cell_of_row wb wr.heap.size 1 _ _ _ hq
            have hsb2 : wr.heap.size < wb.heap.size := by rw [hwb]; simp
            have Hbb : Hid (Below wr.heap.size wr wb) := Lib.hid (by rw [hwb]; exact (by repeat' (first | with_reducible exact Below.refl _ _ | with_reducible refine below_drewN ?_ _ | with_reducible refine Below.drew ?_ | with_reducible refine Below.alloc ?_ ?_ _ | with_reducible refine Below.setCell ?_ ?_ _ | with_reducible refine Below.trans ?_ (Below.mono (by with_reducible assumption) ?_) | (simp; done) | (simp; omega) | omega)))
            have crb := (Hbb.out.cell (p := ⟨g, p * 2 + 1, none⟩) hgl).trans cr
            have frb := (Hbb.out.frozen (p := ⟨g, p * 2 + 1, none⟩) hgl).trans hfg
            clear hwb hq c0 c1 c1' cr hfg
            by_cases hsq : s.1 ≤ q.2.1
            · have Hext : Hid (sweep acc s = a0 ++ [(q.1, max q.2.1 s.2.1, ())]) := Lib.hid (by rw [Hsn.out]; exact sweep_ext a0 q s hsq)
              go_quiet (fail)
              go_upto_region 15 with fail
              have Hb4 : Hid (Below wr.heap.size wr (wb.drewN nq)) := Lib.hid (below_drewN Hbb.out nq)
              have q14 : (wb.drewN nq).cell? ⟨wr.heap.size, 1, none⟩ = some (.int .i64 s.2.1) := q1
              have cr4 : (wb.drewN nq).cell? ⟨g, p * 2 + 1, none⟩ = some (.int .i64 q.2.1) := crb
              have fr4 : (wb.drewN nq).frozen? ⟨g, p * 2 + 1, none⟩ = false := frb
              generalize wb.drewN nq = w4 at *
              have hs4 := Hb4.out.size
              have Hown4 : Hid (w4.ownsRow w1.heap.size 111 2 (.slice (some ⟨g, 0, none⟩) nb bc) nb (sCells acc)) := Lib.hid (ownsRow_below Hown.out Hb4.out)
              clear q0 q1 crb frb
              go_still_tail 14, (by kernel_rfl)
              change wpList _ _ _ _ _ w4.drew
              have q15 : w4.drew.cell? ⟨wr.heap.size, 1, none⟩ = some (.int .i64 s.2.1) := q14
              have cr5 : w4.drew.cell? ⟨g, p * 2 + 1, none⟩ = some (.int .i64 q.2.1) := cr4
              have fr5 : w4.drew.frozen? ⟨g, p * 2 + 1, none⟩ = false := fr4
              have Hb5 : Hid (Below wr.heap.size wr w4.drew) := Lib.hid (Below.drew Hb4.out)
              have Hown5 : Hid (w4.drew.ownsRow w1.heap.size 111 2 (.slice (some ⟨g, 0, none⟩) nb bc) nb (sCells acc)) := Hown4
              clear q14 cr4 fr4
              generalize w4.drew = w5 at *
              go_wp2
              go_roundw
              case rel =>
                refine ⟨k + 1, by omega, by go_num, ?_, ?_⟩
                · have e1 : (a0 ++ [(q.1, max q.2.1 s.2.1, ())]).length = nb := by rw [List.length_append, Hp.out, Hn1.out]; rfl
                  rw [Hnext.out, Hext.out, e1, Hset.out]
                  exact own_setN Hown5.out _ _
                · exact (Hbr.out.trans (Hb5.out.mono hsr)).setCell hgb _
              case measure => simp [intOf]; omega
            · have Hnew : Hid (sweep acc s = acc ++ [s]) := Lib.hid (sweep_new acc s (by rw [Hsn.out]; simp; omega))
              go_quiet (fail)
              go_upto_region 16 with fail
              have Hb4 : Hid (Below wr.heap.size wr (wb.drewN nq)) := Lib.hid (below_drewN Hbb.out nq)
              have q04 : (wb.drewN nq).cell? ⟨wr.heap.size, 0, none⟩ = some (.int .i64 s.1) := q0
              have q14 : (wb.drewN nq).cell? ⟨wr.heap.size, 1, none⟩ = some (.int .i64 s.2.1) := q1
              generalize wb.drewN nq = w4 at *
              have hs4 := Hb4.out.size
              have Hown4 : Hid (w4.ownsRow w1.heap.size 111 2 (.slice (some ⟨g, 0, none⟩) nb bc) nb (sCells acc)) := Lib.hid (ownsRow_below Hown.out Hb4.out)
              clear q0 q1
              go_wp2_with (first
                | (at_builtin
                   refine wpList_append_any _ rfl (.tmp 74) (.tmp 76) _ rfl w1.heap.size 111 i0 _ 2 16 Tryz.underlying96 hi hz0 hz1 hz2 rfl (by omega) _ nb (sCells acc) rfl
                     (Hown4.out.alloc _) _ _ 1 1 [.int .i64 s.1, .int .i64 s.2.1] rfl ⟨rfl, fun _ => ⟨_, rfl, Nat.lt_succ_self _, fun j u hu => (by exact news_any _ _ _ j u hu)⟩⟩ (by simp [Value.oneCell']) (by simp only [maxLen]; omega) (by omega) (by simp; omega) ?_
                   intro v5 w5 hown5 hg5 hat5)
                | fail)
              go_roundw
              case rel =>
                refine ⟨k + 1, by omega, by go_num, ?_, ?_⟩
                · rw [Hnext.out, Hnew.out, List.length_append, sCells_snoc, Hlen.out]
                  exact hown5
                · exact Below.grown ((Hbr.out.trans (Hb4.out.mono hsr)).alloc (by omega) _) hg5 (by simp; omega) (own_base Hown4.out)
              case measure => simp [intOf]; omega
        · have Hown3 : Hid (wr.ownsRow w1.heap.size 111 2 u8 (rowP l y).length (sCells (rowP l y))) := Lib.hid (by have := Hown.out; rw [List.take_of_length_le (by omega), Hss.out] at this; exact this)
          have hkn' : ¬ (k : Int) < (ss.length : Int) := by omega
          clear hbr
          go_wp2
          go_ret
          exact ⟨_, rfl, own_rebase Hown3.out hs1, Hb1.out.trans (Hbr.out.mono hs1)⟩
end Go.Proofs.YtpcfhcdbibklcaaGreat
