import Derived.StillTailTactics
import Derived.Test.YtfmkmhhghmdakaaGreatDoorRA
import Derived.Test.YtfmkmhhghmdakaaGreatDoorRB
namespace Go.Proofs.YtfmkmhhghmdakaaGreatDoor
open Go.RowKit
set_option linter.unusedVariables false
set_option linter.unusedSimpArgs false
set_option maxHeartbeats 64000000
set_option maxRecDepth 100000
theorem Tryz.infoSpan : (Tryz.prog.info? 256).map (fun i => (i.zero, i.size, i.bytes)) = some (some (.agg #[.int .i64 0, .int .i64 0]), 2, 16) := by kernel_rfl
theorem spansAt_succ (l : List R4) (y : Int) (k : Nat) (h : k < l.length) : spansAt (l.take (k + 1)) y = if covers y l[k] then spansAt (l.take k) y ++ [(l[k].l, l[k].r, ())] else spansAt (l.take k) y := by
  unfold spansAt
  rw [List.take_succ_eq_append_getElem h, List.filter_append, List.map_append]
  split
  · rename_i hc; simp [List.filter_cons, hc]
  · rename_i hc; simp [List.filter_cons, hc]
theorem sweep_new (acc : List (Sg Unit)) (s : Sg Unit) (h : ∀ q, acc.getLast? = some q → ¬ s.1 ≤ q.2.1) : sweep acc s = acc ++ [s] := by
  unfold sweep
  cases hq : acc.getLast? with
  | none =>
    have : acc = [] := List.getLast?_eq_none_iff.1 hq
    subst this; rfl
  | some q => simp only; rw [if_neg (h q hq)]
theorem sweep_ext (acc : List (Sg Unit)) (q s : Sg Unit) (h : s.1 ≤ q.2.1) : sweep (acc ++ [q]) s = acc ++ [(q.1, max q.2.1 s.2.1, ())] := by
  simp [sweep, h]
theorem sCells_split (l : List (Sg Unit)) (i : Nat) (h : i < l.length) : ∃ p q, sCells l = p ++ [.int .i64 l[i].1, .int .i64 l[i].2.1] ++ q ∧ p.length = i * 2 ∧ ∀ z : Sg Unit, sCells (l.set i z) = p ++ [.int .i64 z.1, .int .i64 z.2.1] ++ q := by
  refine ⟨sCells (l.take i), sCells (l.drop (i + 1)), ?_, by rw [sCells_len, List.length_take]; omega, fun z => ?_⟩
  · have e1 : sCells l = sCells (l.take i) ++ sCells (l.drop i) := by
      conv => lhs; rw [← List.take_append_drop i l]
      unfold sCells
      rw [List.flatMap_append]
    rw [List.drop_eq_getElem_cons h, show sCells (l[i] :: l.drop (i + 1)) = encSp l[i] ++ sCells (l.drop (i + 1)) from by rw [sCells, List.flatMap_cons]; rfl] at e1
    rw [e1, List.append_assoc]
    rfl
  · rw [List.set_eq_take_append_cons_drop, if_pos h]
    unfold sCells
    rw [List.flatMap_append, List.flatMap_cons, List.append_assoc]
    rfl
theorem sCells_setR (l : List (Sg Unit)) (i : Nat) (h : i < l.length) (x : Int) : sCells (l.set i (l[i].1, x, ())) = (sCells l).set (i * 2 + 1) (.int .i64 x) := by
  obtain ⟨p, q, e1, e2, e3⟩ := sCells_split l i h
  rw [e3, e1, ← e2]
  simp
theorem take_succ_foldl (ss : List (Sg Unit)) (k : Nat) (h : k < ss.length) : (ss.take (k + 1)).foldl sweep [] = sweep ((ss.take k).foldl sweep []) ss[k] := by
  rw [List.take_succ_eq_append_getElem h, List.foldl_append]; rfl
theorem row_any (A : Option Addr) (n c : Nat) (l : List R4) (y : Int) (w : World) (hA : SlR w A n c l) (hn1 : n ≤ 100000) (hl : ∀ q ∈ l, q.l < q.r) :
    Calls Tryz.prog 140 #[.slice A n c, .int .i64 y] w fun e w' => ∃ v, e = .returned v ∧ w'.ownsRow w.heap.size 256 2 v (rowP l y).length (sCells (rowP l y)) ∧ Below w.heap.size w w' := by
  obtain ⟨i0, hi, hz0, hz1, hz2⟩ := info_parts Tryz.infoSpan
  have hn := hA.len
  have HA := Lib.hid hA
  have Hl := Lib.hid hl
  clear hA hl
  go_enter Tryz.func140, Tryz.ntmps140
  go_upto_region 3 with fail
  go_loopw [5, 7, 14] (fun o _ i wr => ∃ k : Nat, k ≤ n ∧ i = .int .i64 (k : Int) ∧ wr.ownsRow w.heap.size 256 2 o (spansAt (l.take k) y).length (sCells (spansAt (l.take k) y)) ∧ Below w.heap.size w wr) (fun _ _ i _ => n - (intOf i).toNat)
  case atStart => exact ⟨0, Nat.zero_le _, rfl, World.ownsRow_nil _ _ _ _, Below.refl _ _⟩
  case round =>
    obtain ⟨k, hk, rfl, hown, hbw⟩ := hrel
    have hsw := hbw.size
    have Hown := Lib.hid hown
    have Hbw := Lib.hid hbw
    clear hown
    by_cases hkn : k < n
    · have hkl : k < l.length := by omega
      obtain ⟨b, off, rfl, hb, c0, c1, c2, c3⟩ := (HA.out.below hbw).at k hkl
      have hlen : (spansAt (l.take k) y).length ≤ 100000 := by have := spansAt_len (l.take k) y; rw [List.length_take] at this; omega
      have Hstep := Lib.hid (spansAt_succ l y k hkl)
      have hkn' : (k : Int) < (n : Int) := by omega
      have Hcov : Hid (covers y l[k] = (decide (l[k].b ≤ y) && decide (y < l[k].t))) := Lib.hid rfl
      generalize l[k] = q at *
      generalize spansAt (l.take k) y = sp at *
      clear hbw
      by_cases hc : q.b ≤ y ∧ y < q.t
      · obtain ⟨hc1, hc2⟩ := hc
        have Hcv : Hid (covers y q = true) := Lib.hid (by rw [Hcov.out]; simp; omega)
        go_wp2_with (first
          | (at_builtin
             refine wpList_append_any _ rfl (.tmp 28) (.tmp 34) _ rfl w.heap.size 256 i0 _ 2 16 Tryz.underlying195 hi hz0 hz1 hz2 rfl (by omega) _ sp.length (sCells sp) rfl
               ((Hown.out.alloc _).alloc _) _ _ 1 1 [.int .i64 q.l, .int .i64 q.r] rfl ⟨rfl, fun _ => ⟨_, rfl, Nat.lt_succ_self _, fun j u hu => (by exact World.news_of_block (heap_alloc2_new wr _ (.cells #[.int .i64 q.l, .int .i64 q.r] 256)) j u hu)⟩⟩ (by simp [Value.oneCell']) (by simp only [maxLen]; omega) (by omega) (by simp; omega) ?_
             intro v5 w5 hown5 hg5 hat5)
          | fail)
        go_roundw
        case rel =>
          refine ⟨k + 1, by omega, by go_num, ?_, ?_⟩
          · rw [Hstep.out, if_pos Hcv.out, List.length_append, sCells_snoc]
            exact hown5
          · exact Below.grown (((Hbw.out.alloc hsw _).alloc (by simp; omega) _)) hg5 (by simp; omega) (own_base Hown.out)
        case measure => simp [intOf]; omega
      · have Hcv : Hid (¬ covers y q = true) := Lib.hid (by rw [Hcov.out]; simp; omega)
        by_cases hc1 : q.b ≤ y
        · have hc2 : ¬ y < q.t := fun h => hc ⟨hc1, h⟩
          clear hc
          go_wp2
          go_roundw
          case rel => exact ⟨k + 1, by omega, by go_num, by rw [Hstep.out, if_neg Hcv.out]; exact Hown.out.alloc _, Hbw.out.alloc hsw _⟩
          case measure => simp [intOf]; omega
        · clear hc
          go_wp2
          go_roundw
          case rel => exact ⟨k + 1, by omega, by go_num, by rw [Hstep.out, if_neg Hcv.out]; exact Hown.out.alloc _, Hbw.out.alloc hsw _⟩
          case measure => simp [intOf]; omega
    · have Hown1 : Hid (wr.ownsRow w.heap.size 256 2 u5 (spansAt l y).length (sCells (spansAt l y))) := Lib.hid (by have := Hown.out; rw [List.take_of_length_le (by omega)] at this; exact this)
      have hsl := spansAt_len l y
      have hkn' : ¬ (k : Int) < (n : Int) := by omega
      have hub := Lib.hid (own_base Hown1.out)
      have Hrow := Lib.hid (fun ss h1 h2 => rowP_eq l y Hl.out ss h1 h2)
      generalize spansAt l y = sp at *
      clear hbw Hown
      go_wp2_with fail
      refine (sortSpan_own _ Hown1.out (by omega)).mono ?_
      rintro e w1 ⟨rfl, ss, hperm, hsort, hown1, hg1⟩
      have Hss : Hid (ss.foldl sweep [] = rowP l y) := Lib.hid (Hrow.out ss hperm hsort)
      have hsl2 : ss.length ≤ 100000 := by have := hperm.length_eq; omega
      have Hb1 : Hid (Below w.heap.size w w1) := Lib.hid (Hbw.out.grown hg1 hsw hub.out)
      have hsb := hg1.size
      obtain ⟨Sd, sc, rfl, hSl, hSc, hSm⟩ := own_slice hown1
      have HSl := Lib.hid hSl
      clear hperm hsort hown1 hg1 hSl Hrow
      have hs1 : w.heap.size ≤ w1.heap.size := by omega
      go_upto_region 11 with fail
      go_loopw [8, 10, 11, 41] (fun o _ _ i wr => ∃ k : Nat, k ≤ ss.length ∧ i = .int .i64 (k : Int) ∧ wr.ownsRow w1.heap.size 256 2 o ((ss.take k).foldl sweep []).length (sCells ((ss.take k).foldl sweep [])) ∧ Below w1.heap.size w1 wr) (fun _ _ _ i _ => ss.length - (intOf i).toNat)
      case atStart => exact ⟨0, Nat.zero_le _, rfl, World.ownsRow_nil _ _ _ _, Below.refl _ _⟩
      case round =>
        obtain ⟨k, hk, rfl, hown, hbr⟩ := hrel
        have hsr := hbr.size
        have Hown := Lib.hid hown
        have Hbr := Lib.hid hbr
        clear hown
        by_cases hkn : k < ss.length
        · obtain ⟨b, off, rfl, hb, hcs⟩ := (HSl.out.below hbr).resolve_left (by omega)
          obtain ⟨i1, i2⟩ := sCells_at ss k hkn
          have c0 := hcs _ _ i1
          have c1 := hcs _ _ i2
          have Hnext := Lib.hid (take_succ_foldl ss k hkn)
          have hal : ((ss.take k).foldl sweep []).length ≤ 100000 := by have := sweeps_len (ss.take k) []; rw [List.length_take] at this; simp at this; omega
          have hkn' : (k : Int) < (ss.length : Int) := by omega
          generalize ss[k] = s at *
          generalize (ss.take k).foldl sweep [] = acc at *
          have c1' : wr.cell? ⟨b, off + k * 2 + 1, none⟩ = some (.int .i64 s.2.1) := c1
          clear hbr hcs i1 i2
          rcases list_snoc acc with hsn | ⟨a0, q, hsn⟩
          · have Hnew : Hid (sweep acc s = acc ++ [s]) := Lib.hid (sweep_new acc s (by rw [hsn]; simp))
            have hl0 : acc.length = 0 := by rw [hsn]; rfl
            have Hlen := Lib.hid hl0
            rw [hl0] at Hown hal
            obtain ⟨Bd, bc, rfl, _, _, _⟩ := own_slice Hown.out
            clear hsn hl0
            go_upto_region 14 with fail
            obtain ⟨wb, hwb⟩ : ∃ wb : World, wb = wr.alloc (.cells #[.int .i64 s.1, .int .i64 s.2.1] 256) := ⟨_, rfl⟩
            rw [← hwb]
            have hq : wb.heap[wr.heap.size]? = some (.cells #[.int .i64 s.1, .int .i64 s.2.1] 256 (0, 0)) := by rw [hwb]; exact heap_alloc_new wr _
            have q0 := cell_of_row wb wr.heap.size 0 _ _ _ hq
            have q1 := cell_of_row wb wr.heap.size 1 _ _ _ hq
            have hsb2 : wr.heap.size < wb.heap.size := by rw [hwb]; simp
            have Hbb : Hid (Below wr.heap.size wr wb) := Lib.hid (by rw [hwb]; exact gBel)
            clear hwb hq c0 c1 c1'
            go_quiet (fail)
            go_upto_region 16 with fail
            have Hb4 : Hid (Below wr.heap.size wr (wb.drewN nq)) := Lib.hid (below_drewN Hbb.out nq)
            have q04 : (wb.drewN nq).cell? ⟨wr.heap.size, 0, none⟩ = some (.int .i64 s.1) := q0
            have q14 : (wb.drewN nq).cell? ⟨wr.heap.size, 1, none⟩ = some (.int .i64 s.2.1) := q1
            generalize wb.drewN nq = w4 at *
            have hs4 := Hb4.out.size
            have Hown4 : Hid (w4.ownsRow w1.heap.size 256 2 (.slice Bd 0 bc) 0 (sCells acc)) := Lib.hid (ownsRow_below Hown.out Hb4.out)
            clear q0 q1
            go_wp2_with (first
              | (at_builtin
                 refine wpList_append_any _ rfl (.tmp 74) (.tmp 76) _ rfl w1.heap.size 256 i0 _ 2 16 Tryz.underlying195 hi hz0 hz1 hz2 rfl (by omega) _ 0 (sCells acc) rfl
                   (Hown4.out.alloc _) _ _ 1 1 [.int .i64 s.1, .int .i64 s.2.1] rfl ⟨rfl, fun _ => ⟨_, rfl, Nat.lt_succ_self _, fun j u hu => (by exact news_any _ _ _ j u hu)⟩⟩ (by simp [Value.oneCell']) (by simp only [maxLen]; omega) (by omega) (by simp; omega) ?_
                 intro v5 w5 hown5 hg5 hat5)
              | fail)
            go_roundw
            case rel =>
              refine ⟨k + 1, by omega, by go_num, ?_, ?_⟩
              · rw [Hnext.out, Hnew.out, List.length_append, sCells_snoc, Hlen.out]
                exact hown5
              · exact Below.grown ((Hbr.out.trans (Hb4.out.mono hsr)).alloc (by omega) _) hg5 (by simp; omega) (own_base Hown4.out)
            case measure => simp [intOf]; omega
          · have hl0 : acc.length = a0.length + 1 := by rw [hsn]; simp
            obtain ⟨nb, hnb⟩ : ∃ nb, acc.length = nb := ⟨_, rfl⟩
            obtain ⟨p, hp⟩ : ∃ p, a0.length = p := ⟨_, rfl⟩
            have hn1 : nb = p + 1 := by omega
            have hpl : p < acc.length := by omega
            have hblp : acc[p] = q := by
              have h1 : acc[p]? = some q := by rw [hsn, List.getElem?_append_right (by omega), hp]; simp
              rw [List.getElem?_eq_getElem hpl] at h1
              exact Option.some.inj h1
            have Hlen := Lib.hid hnb
            have Hn1 := Lib.hid hn1
            have Hsn := Lib.hid hsn
            have Hp := Lib.hid hp
            rw [hnb] at Hown hal
            obtain ⟨g, bc, rfl, hgb, hgl, hnc, hcm, hcells, hfr⟩ := own_at Hown.out (by omega)
            have cr := hcells (p * 2 + 1) _ (sCells_at acc p hpl).2
            rw [hblp] at cr
            have Hset : Hid (∀ z : Int, sCells (a0 ++ [(q.1, z, ())]) = (sCells acc).set (p * 2 + 1) (.int .i64 z)) := Lib.hid (fun z => by
              rw [← sCells_setR acc p hpl z, hblp, hsn]
              congr 1
              rw [List.set_append_right _ _ (by omega), hp, Nat.sub_self]
              rfl)
            have hwn : IntKind.i64.wrap ((nb : Int) - 1) = (p : Int) := by rw [IntWalk.i64_in _ (by omega)]; omega
            have hnp : (p : Int) < (nb : Int) := by omega
            have hn00 : (0 : Int) < (nb : Int) := by omega
            have hp00 : (0 : Int) ≤ (p : Int) := by omega
            have hn0N : 0 < nb := by omega
            have hnpN : p < nb := by omega
            have hdn : decide (0 < nb) = true := decide_eq_true hn0N
            have hfg := hfr (p * 2 + 1)
            clear hsn hl0 hnb hp hn1 hpl hblp hcells hfr
            go_upto_region 14 with fail
            obtain ⟨wb, hwb⟩ : ∃ wb : World, wb = wr.alloc (.cells #[.int .i64 s.1, .int .i64 s.2.1] 256) := ⟨_, rfl⟩
            rw [← hwb]
            have hq : wb.heap[wr.heap.size]? = some (.cells #[.int .i64 s.1, .int .i64 s.2.1] 256 (0, 0)) := by rw [hwb]; exact heap_alloc_new wr _
            have q0 := cell_of_row wb wr.heap.size 0 _ _ _ hq
            have q1 := cell_of_row wb wr.heap.size 1 _ _ _ hq
            have hsb2 : wr.heap.size < wb.heap.size := by rw [hwb]; simp
            have Hbb : Hid (Below wr.heap.size wr wb) := Lib.hid (by rw [hwb]; exact gBel)
            have crb := (Hbb.out.cell (p := ⟨g, p * 2 + 1, none⟩) hgl).trans cr
            have frb := (Hbb.out.frozen (p := ⟨g, p * 2 + 1, none⟩) hgl).trans hfg
            clear hwb hq c0 c1 c1' cr hfg
            by_cases hsq : s.1 ≤ q.2.1
            · have Hext : Hid (sweep acc s = a0 ++ [(q.1, max q.2.1 s.2.1, ())]) := Lib.hid (by rw [Hsn.out]; exact sweep_ext a0 q s hsq)
              go_quiet (fail)
              go_upto_region 15 with fail
              have Hb4 : Hid (Below wr.heap.size wr (wb.drewN nq)) := Lib.hid (below_drewN Hbb.out nq)
              have q14 : (wb.drewN nq).cell? ⟨wr.heap.size, 1, none⟩ = some (.int .i64 s.2.1) := q1
              have cr4 : (wb.drewN nq).cell? ⟨g, p * 2 + 1, none⟩ = some (.int .i64 q.2.1) := crb
              have fr4 : (wb.drewN nq).frozen? ⟨g, p * 2 + 1, none⟩ = false := frb
              generalize wb.drewN nq = w4 at *
              have hs4 := Hb4.out.size
              have Hown4 : Hid (w4.ownsRow w1.heap.size 256 2 (.slice (some ⟨g, 0, none⟩) nb bc) nb (sCells acc)) := Lib.hid (ownsRow_below Hown.out Hb4.out)
              clear q0 q1 crb frb
              go_still_tail 14, (by kernel_rfl)
              change wpList _ _ _ _ _ w4.drew
              have q15 : w4.drew.cell? ⟨wr.heap.size, 1, none⟩ = some (.int .i64 s.2.1) := q14
              have cr5 : w4.drew.cell? ⟨g, p * 2 + 1, none⟩ = some (.int .i64 q.2.1) := cr4
              have fr5 : w4.drew.frozen? ⟨g, p * 2 + 1, none⟩ = false := fr4
              have Hb5 : Hid (Below wr.heap.size wr w4.drew) := Lib.hid (Below.drew Hb4.out)
              have Hown5 : Hid (w4.drew.ownsRow w1.heap.size 256 2 (.slice (some ⟨g, 0, none⟩) nb bc) nb (sCells acc)) := Hown4
              clear q14 cr4 fr4
              generalize w4.drew = w5 at *
              go_wp2
              go_roundw
              case rel =>
                refine ⟨k + 1, by omega, by go_num, ?_, ?_⟩
                · have e1 : (a0 ++ [(q.1, max q.2.1 s.2.1, ())]).length = nb := by rw [List.length_append, Hp.out, Hn1.out]; rfl
                  rw [Hnext.out, Hext.out, e1, Hset.out]
                  exact own_setN Hown5.out _ _
                · exact (Hbr.out.trans (Hb5.out.mono hsr)).setCell hgb _
              case measure => simp [intOf]; omega
            · have Hnew : Hid (sweep acc s = acc ++ [s]) := Lib.hid (sweep_new acc s (by rw [Hsn.out]; simp; omega))
              go_quiet (fail)
              go_upto_region 16 with fail
              have Hb4 : Hid (Below wr.heap.size wr (wb.drewN nq)) := Lib.hid (below_drewN Hbb.out nq)
              have q04 : (wb.drewN nq).cell? ⟨wr.heap.size, 0, none⟩ = some (.int .i64 s.1) := q0
              have q14 : (wb.drewN nq).cell? ⟨wr.heap.size, 1, none⟩ = some (.int .i64 s.2.1) := q1
              generalize wb.drewN nq = w4 at *
              have hs4 := Hb4.out.size
              have Hown4 : Hid (w4.ownsRow w1.heap.size 256 2 (.slice (some ⟨g, 0, none⟩) nb bc) nb (sCells acc)) := Lib.hid (ownsRow_below Hown.out Hb4.out)
              clear q0 q1
              go_wp2_with (first
                | (at_builtin
                   refine wpList_append_any _ rfl (.tmp 74) (.tmp 76) _ rfl w1.heap.size 256 i0 _ 2 16 Tryz.underlying195 hi hz0 hz1 hz2 rfl (by omega) _ nb (sCells acc) rfl
                     (Hown4.out.alloc _) _ _ 1 1 [.int .i64 s.1, .int .i64 s.2.1] rfl ⟨rfl, fun _ => ⟨_, rfl, Nat.lt_succ_self _, fun j u hu => (by exact news_any _ _ _ j u hu)⟩⟩ (by simp [Value.oneCell']) (by simp only [maxLen]; omega) (by omega) (by simp; omega) ?_
                   intro v5 w5 hown5 hg5 hat5)
                | fail)
              go_roundw
              case rel =>
                refine ⟨k + 1, by omega, by go_num, ?_, ?_⟩
                · rw [Hnext.out, Hnew.out, List.length_append, sCells_snoc, Hlen.out]
                  exact hown5
                · exact Below.grown ((Hbr.out.trans (Hb4.out.mono hsr)).alloc (by omega) _) hg5 (by simp; omega) (own_base Hown4.out)
              case measure => simp [intOf]; omega
        · have Hown3 : Hid (wr.ownsRow w1.heap.size 256 2 u8 (rowP l y).length (sCells (rowP l y))) := Lib.hid (by have := Hown.out; rw [List.take_of_length_le (by omega), Hss.out] at this; exact this)
          have hkn' : ¬ (k : Int) < (ss.length : Int) := by omega
          clear hbr
          go_wp2
          go_ret
          exact ⟨_, rfl, own_rebase Hown3.out hs1, Hb1.out.trans (Hbr.out.mono hs1)⟩
structure SlS (w : World) (v : Value) (l : List (Sg Unit)) : Prop where
  sl : ∃ A c, v = .slice A l.length c ∧ l.length ≤ c ∧ c ≤ maxLen ∧ Lies w A l.length (sCells l)
theorem SlS.below {w w' : World} {v : Value} {l : List (Sg Unit)} (h : SlS w v l) (hb : Below w.heap.size w w') : SlS w' v l := by
  obtain ⟨A, c, h1, h2, h3, h4⟩ := h
  exact ⟨A, c, h1, h2, h3, h4.below hb⟩
theorem SlS.of_own {w : World} {base : Nat} {v : Value} {l : List (Sg Unit)} (h : w.ownsRow base 256 2 v l.length (sCells l)) : SlS w v l := by
  obtain ⟨A, c, rfl, h1, h2, h3⟩ := own_slice h
  exact ⟨A, c, rfl, h2, h3, h1⟩
def bCells (bs : List (Sg (List (Sg Unit)))) (vs : List Value) : List Value := (bs.zip vs).flatMap fun x => [.int .i64 x.1.1, .int .i64 x.1.2.1, x.2]
theorem bCells_snoc (bs : List (Sg (List (Sg Unit)))) (vs : List Value) (h : vs.length = bs.length) (b : Sg (List (Sg Unit))) (v : Value) : bCells (bs ++ [b]) (vs ++ [v]) = bCells bs vs ++ [.int .i64 b.1, .int .i64 b.2.1, v] := by
  unfold bCells
  rw [List.zip_append h.symm]
  simp
theorem bCells_split (bs : List (Sg (List (Sg Unit)))) (vs : List Value) (h : vs.length = bs.length) (i : Nat) (hi : i < bs.length) (hv : i < vs.length) : ∃ p q, bCells bs vs = p ++ [.int .i64 bs[i].1, .int .i64 bs[i].2.1, vs[i]] ++ q ∧ p.length = i * 3 ∧ ∀ z, bCells (bs.set i z) vs = p ++ [.int .i64 z.1, .int .i64 z.2.1, vs[i]] ++ q := by
  induction bs generalizing vs i with
  | nil => simp at hi
  | cons b t ih =>
    cases vs with
    | nil => simp at h
    | cons v u =>
      rcases i with _ | i
      · exact ⟨[], bCells t u, by simp [bCells], rfl, fun z => by simp [bCells]⟩
      · obtain ⟨p, q, e1, e2, e3⟩ := ih u (by simpa using h) i (by simpa using hi) (by simpa using hv)
        refine ⟨[.int .i64 b.1, .int .i64 b.2.1, v] ++ p, q, ?_, by simp; omega, fun z => ?_⟩
        · have : bCells (b :: t) (v :: u) = [.int .i64 b.1, .int .i64 b.2.1, v] ++ bCells t u := by simp [bCells]
          rw [this, e1]; simp
        · have : bCells ((b :: t).set (i + 1) z) (v :: u) = [.int .i64 b.1, .int .i64 b.2.1, v] ++ bCells (t.set i z) u := by simp [bCells]
          rw [this, e3]; simp
theorem bCells_at (bs : List (Sg (List (Sg Unit)))) (vs : List Value) (h : vs.length = bs.length) (i : Nat) (hi : i < bs.length) (hv : i < vs.length) : (bCells bs vs)[i * 3]? = some (.int .i64 bs[i].1) ∧ (bCells bs vs)[i * 3 + 1]? = some (.int .i64 bs[i].2.1) ∧ (bCells bs vs)[i * 3 + 2]? = some vs[i] := by
  obtain ⟨p, q, e1, e2, _⟩ := bCells_split bs vs h i hi hv
  rw [e1, ← e2, List.append_assoc]
  refine ⟨?_, ?_, ?_⟩ <;> (rw [List.getElem?_append_right (by omega)]) <;> simp
theorem bCells_setH (bs : List (Sg (List (Sg Unit)))) (vs : List Value) (h : vs.length = bs.length) (i : Nat) (hi : i < bs.length) (hv : i < vs.length) (x : Int) : bCells (bs.set i (bs[i].1, x, bs[i].2.2)) vs = (bCells bs vs).set (i * 3 + 1) (.int .i64 x) := by
  obtain ⟨p, q, e1, e2, e3⟩ := bCells_split bs vs h i hi hv
  rw [e3, e1, ← e2]
  simp
structure SlB (w : World) (A : Option Addr) (n c : Nat) (bs : List (Sg (List (Sg Unit)))) (vs : List Value) : Prop where
  len : bs.length = n
  vlen : vs.length = bs.length
  cap : n ≤ c
  top : c ≤ maxLen
  lies : Lies w A n (bCells bs vs)
  sl : ∀ i (h : i < bs.length) (h' : i < vs.length), SlS w vs[i] bs[i].2.2
theorem flat_take_succ (bs : List (Sg (List (Sg Unit)))) (k : Nat) (h : k < bs.length) : flat (bs.take (k + 1)) = flat (bs.take k) ++ bandR bs[k].1 bs[k].2.1 bs[k].2.2 := by
  rw [List.take_succ_eq_append_getElem h, flat_app, flat_one]
theorem bandR_take_succ (y z : Int) (l : List (Sg Unit)) (k : Nat) (h : k < l.length) : bandR y z (l.take (k + 1)) = bandR y z (l.take k) ++ [⟨l[k].1, y, l[k].2.1, z⟩] := by
  rw [List.take_succ_eq_append_getElem h, bandR_snoc]
theorem rects_any (A : Option Addr) (n c : Nat) (bs : List (Sg (List (Sg Unit)))) (vs : List Value) (w : World) (h : SlB w A n c bs vs) (hf : (flat bs).length ≤ 10000000) :
    Calls Tryz.prog 220 #[.slice A n c] w fun e w' => ∃ v, e = .returned v ∧ w'.ownsRow w.heap.size 68 4 v (flat bs).length (rCells (flat bs)) ∧ Below w.heap.size w w' := by
  obtain ⟨i0, hi, hz0, hz1, hz2⟩ := info_parts Tryz.infoRect
  have hn := h.len
  have H := Lib.hid h
  have Hf := Lib.hid hf
  have hnm := Nat.le_trans h.cap h.top
  unfold maxLen at hnm
  clear h hf
  go_enter Tryz.func220, Tryz.ntmps220
  go_upto_region 3 with fail
  go_loopw [3, 5, 7, 10] (fun o _ _ i wr => ∃ j : Nat, j ≤ n ∧ i = .int .i64 (j : Int) ∧ wr.ownsRow w.heap.size 68 4 o (flat (bs.take j)).length (rCells (flat (bs.take j))) ∧ Below w.heap.size w wr) (fun _ _ _ i _ => n - (intOf i).toNat)
  case atStart => exact ⟨0, Nat.zero_le _, rfl, World.ownsRow_nil _ _ _ _, Below.refl _ _⟩
  case round =>
    obtain ⟨wo, rfl⟩ : ∃ wo : World, wo = wr := ⟨_, rfl⟩
    obtain ⟨j, hj, rfl, hown, hbo⟩ := hrel
    have hso := hbo.size
    have Hown := Lib.hid hown
    have Hbo := Lib.hid hbo
    clear hown
    by_cases hjn : j < n
    · have hjl : j < bs.length := by omega
      have hjv : j < vs.length := by have := H.out.vlen; omega
      obtain ⟨b, off, hAe, hb, hcs⟩ := H.out.lies.resolve_left (by omega)
      obtain ⟨i1, i2, i3⟩ := bCells_at bs vs H.out.vlen j hjl hjv
      have c0 := (hbo.cell (p := ⟨b, off + j * 3, none⟩) hb).trans (hcs _ _ i1)
      have c1 := (hbo.cell (p := ⟨b, off + j * 3 + 1, none⟩) hb).trans (hcs _ _ i2)
      have c2 := (hbo.cell (p := ⟨b, off + j * 3 + 2, none⟩) hb).trans (hcs _ _ i3)
      obtain ⟨P, pc, hv, hpc, hpm, hPl⟩ := H.out.sl j hjl hjv
      have Hnext := Lib.hid (flat_take_succ bs j hjl)
      have hfl : (flat (bs.take j)).length + (bs[j].2.2).length ≤ 10000000 := by
        have h1 := Hf.out
        have h2 := congrArg List.length (congrArg flat (List.take_append_drop (j + 1) bs))
        rw [flat_app, List.length_append, Hnext.out, List.length_append, bandR_len] at h2
        omega
      rw [hv] at c2
      have HPl := Lib.hid hPl
      have hjn' : (j : Int) < (n : Int) := by omega
      have hbs : b < wo.heap.size := by omega
      subst hAe
      generalize bs[j] = bd at *
      obtain ⟨lo, hi', sp⟩ := bd
      generalize flat (bs.take j) = dn at *
      simp only at c0 c1 c2 hfl hpc HPl
      have Hnext2 : Hid (flat (bs.take (j + 1)) = dn ++ bandR lo hi' sp) := Lib.hid Hnext.out
      have hnx : ∃ nx, flat (bs.take (j + 1)) = nx := ⟨_, rfl⟩
      clear hbo hcs i1 i2 i3 hv hPl Hnext
      go_upto_region 6 with fail
      obtain ⟨wb, hwb⟩ : ∃ wb : World, wb = wo.alloc (.cells #[.int .i64 lo, .int .i64 hi', .slice P sp.length pc] 259) := ⟨_, rfl⟩
      rw [← hwb]
      have hq : wb.heap[wo.heap.size]? = some (.cells #[.int .i64 lo, .int .i64 hi', .slice P sp.length pc] 259 (0, 0)) := by rw [hwb]; exact heap_alloc_new wo _
      have hsb : wo.heap.size < wb.heap.size := by rw [hwb]; simp
      have Hbb : Hid (Below w.heap.size w wb) := Lib.hid (by rw [hwb]; exact Hbo.out.alloc hso _)
      have Hownb : Hid (wb.ownsRow w.heap.size 68 4 u3 dn.length (rCells dn)) := Lib.hid (by rw [hwb]; exact Hown.out.alloc _)
      have Hnew : Hid (∀ k, u3.ownBlock = some k → k ≠ wo.heap.size) := Lib.hid (fun k hk e => own_fresh Hown.out (by rw [hk, e]))
      have Hq := Lib.hid hq
      clear hwb hq c0 c1 c2
      go_loopw [3, 7, 17] (fun o _ i wr => ∃ k : Nat, k ≤ sp.length ∧ i = .int .i64 (k : Int) ∧ wr.ownsRow w.heap.size 68 4 o (dn ++ bandR lo hi' (sp.take k)).length (rCells (dn ++ bandR lo hi' (sp.take k))) ∧ Below w.heap.size w wr ∧ wr.heap[wo.heap.size]? = some (.cells #[.int .i64 lo, .int .i64 hi', .slice P sp.length pc] 259 (0, 0)) ∧ Hid (∀ k, o.ownBlock = some k → k ≠ wo.heap.size) ∧ wo.heap.size < wr.heap.size) (fun _ _ i _ => sp.length - (intOf i).toNat)
      case atStart => exact ⟨0, Nat.zero_le _, rfl, by simpa [bandR] using Hownb.out, Hbb.out, Hq.out, Hnew, hsb⟩
      case round =>
        obtain ⟨k, hk, rfl, hown2, hbw, hq2, Hne, hlt⟩ := hrel
        have Hown2 := Lib.hid hown2
        have Hbw := Lib.hid hbw
        have Hq2 := Lib.hid hq2
        have hsw := hbw.size
        by_cases hkn : k < sp.length
        · obtain ⟨b2, o2, rfl, hb2, hcs2⟩ := (HPl.out.below hbw).resolve_left (by omega)
          obtain ⟨j1, j2⟩ := sCells_at sp k hkn
          have s0 := hcs2 _ _ j1
          have s1 : wr.cell? ⟨b2, o2 + k * 2 + 1, none⟩ = some (.int .i64 sp[k].2.1) := hcs2 _ _ j2
          have Hstep := Lib.hid (bandR_take_succ lo hi' sp k hkn)
          have hlen2 : (dn ++ bandR lo hi' (sp.take k)).length ≤ 10000000 := by rw [List.length_append, bandR_len, List.length_take]; omega
          have hkn' : (k : Int) < (sp.length : Int) := by omega
          generalize sp[k] = s at *
          generalize bandR lo hi' (sp.take k) = bk at *
          have q0 := cell_of_row wr wo.heap.size 0 _ _ _ hq2
          have q1 := cell_of_row wr wo.heap.size 1 _ _ _ hq2
          have q2 := cell_of_row wr wo.heap.size 2 _ _ _ hq2
          clear hown2 hbw hq2 hcs2 j1 j2
          go_wp2_with (first
            | (at_builtin
               refine wpList_append_any _ rfl (.tmp 21) (.tmp 31) _ rfl w.heap.size 68 i0 _ 4 32 Tryz.underlying31 hi hz0 hz1 hz2 rfl (by omega) _ (dn ++ bk).length (rCells (dn ++ bk)) rfl
                 ((Hown2.out.alloc _).alloc _) _ _ 1 1 [.int .i64 s.1, .int .i64 lo, .int .i64 s.2.1, .int .i64 hi'] rfl ⟨rfl, fun _ => ⟨_, rfl, Nat.lt_succ_self _, fun j u hu => (by exact World.news_of_block (heap_alloc2_new wr _ (.cells #[.int .i64 s.1, .int .i64 lo, .int .i64 s.2.1, .int .i64 hi'] 68)) j u hu)⟩⟩ (by simp [Value.oneCell']) (by simp only [maxLen]; omega) (by omega) (by simp; omega) ?_
               intro v5 w5 hown5 hg5 hat5)
            | fail)
          go_roundw
          case rel =>
            have hsz5 := hg5.size
            simp at hsz5
            refine ⟨k + 1, by omega, by go_num, ?_, ?_, ?_, Lib.hid (fun g hg e => ?_), by omega⟩
            · rw [Hstep.out, ← List.append_assoc, List.length_append, rCells_snoc]
              exact hown5
            · exact Below.grown (((Hbw.out.alloc hsw _).alloc (by simp; omega) _)) hg5 (by simp; omega) (own_base Hown2.out)
            · refine (hg5.block wo.heap.size (by simp; omega) (fun e => Hne.out _ e.symm rfl)).trans ?_
              exact (Below.heap_alloc _ _ _ (by simp; omega)).trans ((Below.heap_alloc wr _ _ hlt).trans Hq2.out)
            · rcases hat5 with h | h
              · rw [h] at hg
                exact Hne.out g hg e
              · rw [h] at hg
                simp at hg
                omega
          case measure => simp [intOf]; omega
        · have Hown3 : Hid (wr.ownsRow w.heap.size 68 4 u3 (dn ++ bandR lo hi' sp).length (rCells (dn ++ bandR lo hi' sp))) := Lib.hid (by have := Hown2.out; rw [List.take_of_length_le (by omega)] at this; exact this)
          have hkn' : ¬ (k : Int) < (sp.length : Int) := by omega
          clear hown2 hbw hq2
          go_wp2
          go_roundw
          case rel => exact ⟨j + 1, by omega, by go_num, by rw [Hnext2.out]; exact Hown3.out, Hbw.out⟩
          case measure => simp [intOf]; omega
    · have Hown3 : Hid (wo.ownsRow w.heap.size 68 4 u3 (flat bs).length (rCells (flat bs))) := Lib.hid (by have := Hown.out; rw [List.take_of_length_le (by omega)] at this; exact this)
      have hjn' : ¬ (j : Int) < (n : Int) := by omega
      clear hbo
      go_wp2
      go_ret
      exact ⟨_, rfl, Hown3.out, Hbo.out⟩
end Go.Proofs.YtfmkmhhghmdakaaGreatDoor
namespace Go.Proofs.YtfmkmhhghmdakaaGreatDoor
open Go.RowKit Go.Shelf Go.Lib Go.Sort
set_option linter.unusedVariables false
set_option linter.unusedSimpArgs false
set_option maxHeartbeats 64000000
set_option maxRecDepth 100000
theorem neqR : NeqAt Tryz.prog 68 (fun q : R4 => .agg (R4.cells q).toArray) (fun o p => decide (o = p)) := by
  refine ⟨fun x y w => ?_, fun op a b x y w => rGuard w a b op _ _⟩
  have h := r_neq w x.l x.b x.r x.t y.l y.b y.r y.t
  have e : rEq x.l x.b x.r x.t y.l y.b y.r y.t = decide (x = y) := by
    rw [Bool.eq_iff_iff, rEq_iff]; simp
  rw [e] at h
  exact h
theorem allEq_dec {α : Type} [Inhabited α] [DecidableEq α] : ∀ (l m : List α), allEq (fun o p : α => decide (o = p)) l m = decide (l = m)
  | [], [] => by simp [allEq]
  | [], y :: ys => by simp [allEq]
  | x :: xs, [] => by simp [allEq]
  | x :: xs, y :: ys => by simp [allEq, allEq_dec xs ys]
theorem equalR_any (A B : Option Addr) (n c m d : Nat) (l k : List R4) (w : World) (hA : SlR w A n c l) (hB : SlR w B m d k) :
    Calls Tryz.prog 110 #[.slice A n c, .slice B m d] w fun e w' => e = .returned (.bool (decide (l = k))) ∧ Below w.heap.size w w' := by
  have hx := hA.len
  have hy := hB.len
  have hn := Nat.le_trans hA.cap hA.top
  have hm := Nat.le_trans hB.cap hB.top
  unfold maxLen at hn hm
  by_cases hnm : n = m
  · subst hnm
    rcases Nat.eq_zero_or_pos n with h0 | h0
    · subst h0
      obtain rfl : l = [] := List.length_eq_zero_iff.1 hx
      obtain rfl : k = [] := List.length_eq_zero_iff.1 hy
      clear hA hB
      go_enter Tryz.func110, Tryz.ntmps110
      go_wp2
      go_loop [13] (fun i => i = .int .i64 0) (fun _ => 0)
      case atStart => rfl
      case round =>
        subst hrel
        go_wp2
        go_ret
        exact ⟨rfl, Below.refl _ _⟩
    · obtain ⟨b1, o1, rfl, hb1, hc1⟩ := hA.lies.resolve_left (by omega)
      obtain ⟨b2, o2, rfl, hb2, hc2⟩ := hB.lies.resolve_left (by omega)
      have cells : ∀ (l : List R4) (b o : Nat), (∀ j u, (rCells l)[j]? = some u → w.cell? ⟨b, o + j, none⟩ = some u) → ∀ j, j < l.length → ∀ i v, (R4.cells l[j]!)[i]? = some v → w.cell? ⟨b, o + j * 4 + i, none⟩ = some v := by
        intro l b o hc j hj i v hv
        obtain ⟨h0, h1, h2, h3⟩ := rCells_at l j hj
        rw [getElem!_pos l j hj] at hv
        have hi : i < 4 := by
          rcases Nat.lt_or_ge i 4 with h | h
          · exact h
          · rw [List.getElem?_eq_none (by simpa [R4.cells] using h)] at hv; cases hv
        rcases (show i = 0 ∨ i = 1 ∨ i = 2 ∨ i = 3 by omega) with rfl | rfl | rfl | rfl
        · simp [R4.cells] at hv; subst hv; exact hc _ _ h0
        · simp [R4.cells] at hv; subst hv; rw [Nat.add_assoc]; exact hc _ _ h1
        · simp [R4.cells] at hv; subst hv; rw [Nat.add_assoc]; exact hc _ _ h2
        · simp [R4.cells] at hv; subst hv; rw [Nat.add_assoc]; exact hc _ _ h3
      refine (AnyQ.slices_Equal Tryz.layEqualRect 4 Tryz.isAgg68 Tryz.sizeOf68 R4.cells (fun _ => rfl) (fun o p => decide (o = p)) neqR b1 o1 n c b2 o2 n d l k w (by omega) (by omega) (by omega) (by omega) (cells l b1 o1 hc1) (cells k b2 o2 hc2)).mono ?_
      rintro e w' ⟨rfl, q, rfl⟩
      refine ⟨?_, below_drewN (Below.refl _ _) q⟩
      rw [List.take_of_length_le (by omega), List.take_of_length_le (by omega), allEq_dec]
  · clear hA hB
    go_enter Tryz.func110, Tryz.ntmps110
    go_wp2
    go_ret
    exact ⟨ret_bool (by simp; intro e; rw [e] at hx; omega), Below.refl _ _⟩
theorem containsR_any (p : R4 → Bool) (f : Nat) (lb : Array Value) (eg : ∀ args w, (callFunc f args).run Tryz.prog w = .ok (.enter f args) w) (A : Option Addr) (n c : Nat) (l : List R4) (w : World) (hA : SlR w A n c l)
    (hp : PredBelow Tryz.prog f lb (fun q : R4 => .agg (R4.cells q).toArray) p w) :
    Calls Tryz.prog 89 #[.slice A n c, .func (.func f) #[] lb] w fun e w' => e = .returned (.bool (l.any p)) ∧ Below w.heap.size w w' := by
  have hx := hA.len
  have hn := Nat.le_trans hA.cap hA.top
  unfold maxLen at hn
  rcases Nat.eq_zero_or_pos n with h0 | h0
  · subst h0
    obtain rfl : l = [] := List.length_eq_zero_iff.1 hx
    clear hA hp eg
    go_enter Tryz.func89, Tryz.ntmps89
    go_wp2
    go_loop [8] (fun i => i = .int .i64 0) (fun _ => 0)
    case atStart => rfl
    case round =>
      subst hrel
      go_wp2
      go_ret
      exact ⟨rfl, Below.refl _ _⟩
  · obtain ⟨b1, o1, rfl, hb1, hc1⟩ := hA.lies.resolve_left (by omega)
    refine (AnyQ.slices_ContainsFunc Tryz.layContainsRect 4 Tryz.isAgg68 Tryz.sizeOf68 R4.cells (fun _ => rfl) p f lb eg b1 o1 n c l w hp (by omega) (by omega) hb1 ?_).mono ?_
    · intro j hj i v hv
      obtain ⟨h0, h1, h2, h3⟩ := rCells_at l j hj
      rw [getElem!_pos l j hj] at hv
      have hi : i < 4 := by
        rcases Nat.lt_or_ge i 4 with h | h
        · exact h
        · rw [List.getElem?_eq_none (by simpa [R4.cells] using h)] at hv; cases hv
      rcases (show i = 0 ∨ i = 1 ∨ i = 2 ∨ i = 3 by omega) with rfl | rfl | rfl | rfl
      · simp [R4.cells] at hv; subst hv; exact hc1 _ _ h0
      · simp [R4.cells] at hv; subst hv; rw [Nat.add_assoc]; exact hc1 _ _ h1
      · simp [R4.cells] at hv; subst hv; rw [Nat.add_assoc]; exact hc1 _ _ h2
      · simp [R4.cells] at hv; subst hv; rw [Nat.add_assoc]; exact hc1 _ _ h3
    · rintro e w' ⟨rfl, hb⟩
      rw [List.take_of_length_le (by omega)]
      exact ⟨rfl, hb⟩
theorem sGuard (w : World) (x y : Operand) (op : BinOp) (xs ys : Array Value) : (eqGuard op 256 x y (.agg xs) (.agg ys)).run Tryz.prog w = .ok () w := run_eqGuard_agg w op _ x y xs ys (by kernel_rfl)
theorem sFields : Tryz.prog.fieldsOf 256 = #[{ name := "Left", type := 3, offset := 0, embedded := false, tag := "", pkgPath := "", byteOffset := 0 }, { name := "Right", type := 3, offset := 1, embedded := false, tag := "", pkgPath := "", byteOffset := 8 }] := by kernel_rfl
def sEq (a b a' b' : Int) : Bool := a == a' && b == b'
theorem sEqualIn (w : World) (k : Nat) (a b a' b' : Int) : (Op.equalIn (k + 2) 256 (.agg #[.int .i64 a, .int .i64 b]) (.agg #[.int .i64 a', .int .i64 b'])).run Tryz.prog w = .ok (sEq a b a' b') w := by
  have ci : Tryz.prog.cellsOf 3 = 1 := by kernel_rfl
  have h3 : ∀ (x y : Int) (w : World), (Op.equalIn (k + 1) 3 (.int .i64 x) (.int .i64 y)).run Tryz.prog w = .ok (x == y) w := fun x y w => run_equalIn_int w k 3 .i64 .i64 x y Tryz.underlying3
  rw [run_equalIn_agg w (k + 1) _ _ _ (by kernel_rfl) (by kernel_rfl), sFields]
  unfold sEq
  cases h1 : a == a' <;> cases h2 : b == b' <;> simp [Op.eqFields, go_sem, h3, h1, h2]
theorem s_neq (w : World) (a b a' b' : Int) : (binOp .neq 256 (.agg #[.int .i64 a, .int .i64 b]) (.agg #[.int .i64 a', .int .i64 b'])).run Tryz.prog w = .ok (.bool (!(sEq a b a' b'))) w := by
  rw [run_neq_struct, sEqualIn w 9998]
  rfl
theorem neqS : NeqAt Tryz.prog 256 (fun q : Sg Unit => .agg (encSp q).toArray) (fun o p => decide (o = p)) := by
  refine ⟨fun x y w => ?_, fun op a b x y w => sGuard w a b op _ _⟩
  have h := s_neq w x.1 x.2.1 y.1 y.2.1
  have e : sEq x.1 x.2.1 y.1 y.2.1 = decide (x = y) := by
    obtain ⟨a, b, ⟨⟩⟩ := x
    obtain ⟨c, d, ⟨⟩⟩ := y
    rw [Bool.eq_iff_iff]; simp [sEq]
  rw [e] at h
  exact h
theorem equalS_any (u v : Value) (l k : List (Sg Unit)) (w : World) (hA : SlS w u l) (hB : SlS w v k) :
    Calls Tryz.prog 219 #[u, v] w fun e w' => e = .returned (.bool (decide (l = k))) ∧ Below w.heap.size w w' := by
  obtain ⟨A, c, rfl, hc1, hm1, hl1⟩ := hA
  obtain ⟨B, d, rfl, hc2, hm2, hl2⟩ := hB
  have hn := Nat.le_trans hc1 hm1
  have hm := Nat.le_trans hc2 hm2
  unfold maxLen at hn hm
  by_cases hnm : l.length = k.length
  · rcases Nat.eq_zero_or_pos l.length with h0 | h0
    · obtain rfl : l = [] := List.length_eq_zero_iff.1 h0
      obtain rfl : k = [] := List.length_eq_zero_iff.1 (by omega)
      clear hl1 hl2
      go_enter Tryz.func219, Tryz.ntmps219
      go_wp2
      go_loop [13] (fun i => i = .int .i64 0) (fun _ => 0)
      case atStart => rfl
      case round =>
        subst hrel
        go_wp2
        go_ret
        exact ⟨rfl, Below.refl _ _⟩
    · obtain ⟨b1, o1, rfl, hb1, hcc1⟩ := hl1.resolve_left (by omega)
      obtain ⟨b2, o2, rfl, hb2, hcc2⟩ := hl2.resolve_left (by omega)
      have cells : ∀ (l : List (Sg Unit)) (b o : Nat), (∀ j u, (sCells l)[j]? = some u → w.cell? ⟨b, o + j, none⟩ = some u) → ∀ j, j < l.length → ∀ i v, (encSp l[j]!)[i]? = some v → w.cell? ⟨b, o + j * 2 + i, none⟩ = some v := by
        intro l b o hc j hj i v hv
        obtain ⟨h0, h1⟩ := sCells_at l j hj
        rw [getElem!_pos l j hj] at hv
        have hi : i < 2 := by
          rcases Nat.lt_or_ge i 2 with h | h
          · exact h
          · rw [List.getElem?_eq_none (by simpa [encSp] using h)] at hv; cases hv
        rcases (show i = 0 ∨ i = 1 by omega) with rfl | rfl
        · simp [encSp] at hv; subst hv; exact hc _ _ h0
        · simp [encSp] at hv; subst hv; rw [Nat.add_assoc]; exact hc _ _ h1
      refine (AnyQ.slices_Equal Tryz.layEqualSpan 2 Tryz.isAgg256 Tryz.sizeOf256 encSp (fun _ => rfl) (fun o p => decide (o = p)) neqS b1 o1 l.length c b2 o2 k.length d l k w (Nat.le_refl _) (Nat.le_refl _) (by omega) (by omega) (cells l b1 o1 hcc1) (cells k b2 o2 hcc2)).mono ?_
      rintro e w' ⟨rfl, q, rfl⟩
      refine ⟨?_, below_drewN (Below.refl _ _) q⟩
      rw [List.take_of_length_le (Nat.le_refl _), List.take_of_length_le (Nat.le_refl _), allEq_dec]
  · clear hl1 hl2
    have hnm' : ¬ (l.length : Int) = (k.length : Int) := by omega
    have Hne : Hid (¬ l = k) := Lib.hid (fun e => hnm (by rw [e]))
    go_enter Tryz.func219, Tryz.ntmps219
    go_wp2
    go_ret
    exact ⟨ret_bool (by simpa using Hne.out), Below.refl _ _⟩
end Go.Proofs.YtfmkmhhghmdakaaGreatDoor
