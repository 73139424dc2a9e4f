/- Contracts: ends, within (overlay): where spans of rows begin or end; the set of a square. -/
import Derived.Test.YtabcadpfhachoaaGreatU1
import Derived.Test.YtabcadpfhachoaaGreatO1
namespace Go.Proofs.YtabcadpfhachoaaGreat
open Go.RowKit Go.Shelf
set_option linter.unusedVariables false
set_option linter.unusedSimpArgs false

/-- A slice of slices of spans. -/
structure SlSS (w : World) (X : Option Addr) (n : Nat) (rows : List (List (Sg Unit))) : Prop where
  len : rows.length = n
  at' : ∀ i (h : i < rows.length), ∃ b off A c, X = some ⟨b, off, none⟩ ∧ b < w.heap.size ∧ w.cell? ⟨b, off + i, none⟩ = some (.slice A rows[i].length c) ∧ SlS w (.slice A rows[i].length c) rows[i]
theorem SlSS.below {w w' : World} {X : Option Addr} {n : Nat} {rows : List (List (Sg Unit))} (h : SlSS w X n rows) (hb : Below w.heap.size w w') : SlSS w' X n rows :=
  ⟨h.len, fun i hi => by
    obtain ⟨b, off, A, c, h1, h2, h3, h4⟩ := h.at' i hi
    exact ⟨b, off, A, c, h1, Nat.lt_of_lt_of_le h2 hb.size, (hb.cell (p := ⟨b, off + i, none⟩) h2).trans h3, h4.below hb⟩⟩
def ssEdges (rows : List (List (Sg Unit))) : List Int := rows.flatMap fun r => r.flatMap fun s => [s.1, s.2.1]
theorem ssEdges_app (a b : List (List (Sg Unit))) : ssEdges (a ++ b) = ssEdges a ++ ssEdges b := by simp [ssEdges]
theorem ssEdges_one (r : List (Sg Unit)) : ssEdges [r] = sEdges r := by simp [ssEdges, sEdges]
theorem sEdges_snoc (l : List (Sg Unit)) (s : Sg Unit) : sEdges (l ++ [s]) = sEdges l ++ [s.1, s.2.1] := by simp [sEdges]
theorem sEdges_len' (l : List (Sg Unit)) : (sEdges l).length = 2 * l.length := by
  induction l with
  | nil => rfl
  | cons a t ih => simp [sEdges] at ih ⊢; omega
theorem ssEdges_len : ∀ (rows : List (List (Sg Unit))), (ssEdges rows).length = 2 * rows.flatten.length
  | [] => rfl
  | r :: t => by
    rw [show r :: t = [r] ++ t from rfl, ssEdges_app, ssEdges_one, List.length_append, sEdges_len', ssEdges_len t]
    simp
    omega
theorem SlS.at2 {w : World} {A : Option Addr} {c : Nat} {l : List (Sg Unit)} (h : SlS w (.slice A l.length c) l) (i : Nat) (hi : i < l.length) :
    ∃ b off, A = some ⟨b, off, none⟩ ∧ b < w.heap.size ∧ w.cell? ⟨b, off + i * 2, none⟩ = some (.int .i64 l[i].1) ∧ w.cell? ⟨b, off + i * 2 + 1, none⟩ = some (.int .i64 l[i].2.1) := by
  obtain ⟨A', c', e, h1, h2, h3⟩ := h
  injection e with e1 e2 e3
  subst e1
  rcases h3 with h3 | ⟨b, off, rfl, hb, hc⟩
  · omega
  · exact ⟨b, off, rfl, hb, hc _ _ (sCells_at l i hi).1, by rw [Nat.add_assoc]; exact hc _ _ (sCells_at l i hi).2⟩

set_option maxHeartbeats 8000000 in
set_option maxRecDepth 100000 in
theorem ends_any (X : Option Addr) (p pc : Nat) (rows : List (List (Sg Unit))) (w : World) (hX : SlSS w X p rows) (hpl : p ≤ 1000) (hs : rows.flatten.length ≤ 100000) :
    Calls Tryz.prog 58 #[.slice X p pc] w fun e w' => ∃ v, e = .returned v ∧ w'.ownsRow w.heap.size 3 1 v (endsP rows).length ((endsP rows).map (.int .i64)) ∧ Below w.heap.size w w' := by
  obtain ⟨i0, hi, hz0, hz1, hz2⟩ := info_parts Tryz.infoInt
  have HX := Lib.hid hX
  have Hs := Lib.hid hs
  have hp := hX.len
  clear hX hs
  go_enter Tryz.func58, Tryz.ntmps58
  go_upto_region 3 with fail
  go_loopw [3, 5, 10] (fun o _ i wr => ∃ j : Nat, j ≤ p ∧ i = .int .i64 (j : Int) ∧ wr.ownsRow w.heap.size 3 1 o (ssEdges (rows.take j)).length ((ssEdges (rows.take j)).map (.int .i64)) ∧ Below w.heap.size w wr) (fun _ _ i _ => p - (intOf i).toNat)
  case atStart => exact ⟨0, Nat.zero_le _, rfl, World.ownsRow_nil _ _ _ _, Below.refl _ _⟩
  case round =>
    obtain ⟨wo, rfl⟩ : ∃ wo : World, wo = wr := ⟨_, rfl⟩
    obtain ⟨j, hj, rfl, hown, hbo⟩ := hrel
    have hso := hbo.size
    have Hown := Lib.hid hown
    have Hbo := Lib.hid hbo
    clear hown
    by_cases hjp : j < p
    · have hjl : j < rows.length := by omega
      obtain ⟨b, off, A, c, rfl, hb, hc0, hA⟩ := HX.out.at' j hjl
      have c0 := (hbo.cell (p := ⟨b, off + j, none⟩) hb).trans hc0
      have Hnext : Hid (ssEdges (rows.take (j + 1)) = ssEdges (rows.take j) ++ sEdges rows[j]) := Lib.hid (by rw [List.take_succ_eq_append_getElem hjl, ssEdges_app, ssEdges_one])
      have hle : (ssEdges (rows.take j)).length + 2 * (rows[j]).length ≤ 200000 := by
        have h1 := Hs.out
        have h2 := congrArg List.length (congrArg ssEdges (List.take_append_drop (j + 1) rows))
        rw [ssEdges_app, List.length_append, Hnext.out, List.length_append, sEdges_len', ssEdges_len rows] at h2
        omega
      obtain ⟨n, hn⟩ : ∃ n, rows[j].length = n := ⟨_, rfl⟩
      have HA : Hid (SlS w (.slice A n c) rows[j]) := Lib.hid (by rw [← hn]; exact hA)
      rw [hn] at c0
      generalize ssEdges (rows.take j) = dn at *
      generalize rows[j] = l at *
      have hjp' : (j : Int) < (p : Int) := by omega
      have hbs : b < wo.heap.size := by omega
      have Hn := Lib.hid hn
      clear hbo hA hc0
      rw [hn] at hle
      clear hn
      go_upto_region 6 with fail
      go_loopw [3, 7, 16] (fun o _ i wr => ∃ k : Nat, k ≤ n ∧ i = .int .i64 (k : Int) ∧ wr.ownsRow w.heap.size 3 1 o (dn ++ sEdges (l.take k)).length ((dn ++ sEdges (l.take k)).map (.int .i64)) ∧ wo.heap.size ≤ wr.heap.size ∧ Below w.heap.size w wr) (fun _ _ i _ => n - (intOf i).toNat)
      case atStart => exact ⟨0, Nat.zero_le _, rfl, by simpa [sEdges] using Hown.out, Nat.le_refl _, Hbo.out⟩
      case round =>
        obtain ⟨k, hk, rfl, hown2, hwr, hbw⟩ := hrel
        have Hown2 := Lib.hid hown2
        have hsw := hbw.size
        clear hown2
        by_cases hkn : k < n
        · have hl : k < l.length := by have := Hn.out; omega
          obtain ⟨b2, o2, rfl, hb2, c1, c2⟩ := SlS.at2 (by have := HA.out.below hbw; rw [← Hn.out] at this; exact this) k hl
          have hlen : (dn ++ sEdges (l.take k)).length ≤ 400000 := by rw [List.length_append, sEdges_len', List.length_take]; omega
          have Hn2 : Hid (dn ++ sEdges (l.take (k + 1)) = (dn ++ sEdges (l.take k)) ++ [l[k].1, l[k].2.1]) := Lib.hid (by rw [List.take_succ_eq_append_getElem hl, sEdges_snoc, List.append_assoc])
          have hkn' : (k : Int) < (n : Int) := by omega
          generalize l[k] = q at *
          generalize dn ++ sEdges (l.take k) = d2 at *
          have Hbw := Lib.hid hbw
          clear hbw
          go_wp2_with (first
            | (at_builtin
               refine wpList_append_any _ rfl (.tmp 20) (.tmp 25) _ rfl w.heap.size 3 i0 _ 1 8 Tryz.underlying22 hi hz0 hz1 hz2 rfl (by omega) _ d2.length (d2.map (.int .i64)) rfl
                 ((Hown2.out.alloc _).alloc _) _ _ 2 2 [.int .i64 q.1, .int .i64 q.2.1] rfl ⟨rfl, fun _ => ⟨_, rfl, Nat.lt_succ_self _, fun j u hu => (by exact World.news_of_block (heap_alloc2_new wr _ (.cells #[.int .i64 q.1, .int .i64 q.2.1] 3)) j u hu)⟩⟩ (by simp [Value.oneCell']) (by simp only [maxLen]; omega) (by omega) (by simp; omega) ?_
               intro v5 w5 hown5 hg5 hat5)
            | fail)
          go_roundw
          case rel =>
            have hsz5 := hg5.size
            simp at hsz5
            refine ⟨k + 1, by omega, by go_num, ?_, by omega, ?_⟩
            · rw [Hn2.out, List.length_append, List.map_append]
              exact hown5
            · exact Below.grown (((Hbw.out.alloc hsw _).alloc (by simp; omega) _)) hg5 (by simp; omega) (own_base Hown2.out)
          case measure => simp [intOf]; omega
        · have e1 : l.take k = l := List.take_of_length_le (by have := Hn.out; omega)
          have Hown3 : Hid (wr.ownsRow w.heap.size 3 1 u3 (dn ++ sEdges l).length ((dn ++ sEdges l).map (.int .i64))) := Lib.hid (by have := Hown2.out; rw [e1] at this; exact this)
          have hkn' : ¬ (k : Int) < (n : Int) := by omega
          have Hbw := Lib.hid hbw
          clear e1 hbw
          go_wp2
          go_roundw
          case rel => exact ⟨j + 1, by omega, by go_num, by rw [Hnext.out]; exact Hown3.out, Hbw.out⟩
          case measure => simp [intOf]; omega
    · have hjp' : ¬ (j : Int) < (p : Int) := by omega
      have Hown3 : Hid (wo.ownsRow w.heap.size 3 1 u3 (ssEdges rows).length ((ssEdges rows).map (.int .i64))) := Lib.hid (by have := Hown.out; rw [List.take_of_length_le (by omega)] at this; exact this)
      have hel : (ssEdges rows).length ≤ 200000 := by have := Hs.out; rw [ssEdges_len]; omega
      have Hsr := Lib.hid (srt_len (ssEdges rows))
      have Hcut : Hid (endsP rows = Lib.compact (srt (ssEdges rows))) := Lib.hid rfl
      have hub := Lib.hid (own_base Hown3.out)
      clear hbo Hown
      generalize ssEdges rows = es at *
      go_wp2_with fail
      refine (sort_own _ Hown3.out (by omega)).mono ?_
      rintro e w1 ⟨rfl, hown1, hg1⟩
      have Hown1 : Hid (w1.ownsRow w.heap.size 3 1 u3 (srt es).length ((srt es).map (.int .i64))) := Lib.hid (by rw [Hsr.out]; exact hown1)
      have Hb1 : Hid (Below w.heap.size w w1) := Lib.hid (Hbo.out.grown hg1 hso hub.out)
      clear hown1 hg1
      go_wp2_with fail
      refine (compact_own _ Hown1.out).mono ?_
      rintro e w2 ⟨v2, rfl, hown2, hg2, hv2⟩
      have Hown2 := Lib.hid hown2
      have Hb2 : Hid (Below w.heap.size w w2) := Lib.hid (Hb1.out.grown hg2 Hb1.out.size hub.out)
      clear hown2 hg2 hv2
      go_wp2
      go_ret
      exact ⟨v2, rfl, by rw [Hcut.out]; exact Hown2.out, Hb2.out⟩

theorem shl_one (k : Nat) (hk : k ≤ 61) : wrap64 ((2 : Int) ^ k) = ((2 ^ k : Nat) : Int) := by
  have h1 : (2 : Nat) ^ k ≤ 2 ^ 61 := Nat.pow_le_pow_right (by omega) hk
  have h2 : ((2 ^ k : Nat) : Int) = (2 : Int) ^ k := by simp
  rw [← h2]
  generalize 2 ^ k = q at *
  unfold wrap64
  omega
theorem or_shl (m k : Nat) (hm : m < 2 ^ 62) (hk : k ≤ 61) : bits BinOp.or IntKind.i64 (m : Int) (wrap64 ((2 : Int) ^ k)) = ((m ||| true.toNat * 2 ^ k : Nat) : Int) := by
  have h1 : (2 : Nat) ^ k ≤ 2 ^ 61 := Nat.pow_le_pow_right (by omega) hk
  rw [shl_one k hk, or_i64n m (2 ^ k) hm (by omega)]
  simp
theorem withinPred (gx : Nat) (x : Int) (w : World) (hx : w.cell? ⟨gx, 0, none⟩ = some (.int .i64 x)) (hgx : gx < w.heap.size) :
    PredBelow Tryz.prog 87 #[.pointer (some ⟨gx, 0, none⟩)] (fun q : Sg Unit => .agg (encSp q).toArray) (fun q => inS q x) w := by
  intro W q hb
  refine Calls.mono (show Calls Tryz.prog 87 #[.agg #[.int .i64 q.1, .int .i64 q.2.1], .pointer (some ⟨gx, 0, none⟩)] W fun e w' => e = .returned (.bool (inS q x)) ∧ Below W.heap.size W w' from ?_) ?_
  · have cx := (hb.cell (p := ⟨gx, 0, none⟩) hgx).trans hx
    have hgx' : gx < W.heap.size := Nat.lt_of_lt_of_le hgx hb.size
    have Hh : Hid (inS q x = (decide (q.1 ≤ x) && decide (x < q.2.1))) := Lib.hid rfl
    generalize inS q x = res at *
    clear hx hb hgx
    by_cases h1 : q.1 ≤ x
    · by_cases h2 : x < q.2.1
      · have hR : res = true := by rw [Hh.out]; simp [h1, h2]
        subst hR
        go_enter Tryz.func87, Tryz.ntmps87
        go_wp2
        go_ret
        exact ⟨rfl, (by repeat' (first | with_reducible exact Below.refl _ _ | with_reducible refine below_drewN ?_ _ | with_reducible refine Below.drew ?_ | with_reducible refine Below.alloc ?_ ?_ _ | with_reducible refine Below.setCell ?_ ?_ _ | with_reducible refine Below.trans ?_ (Below.mono (by with_reducible assumption) ?_) | (simp; done) | (simp; omega) | omega))⟩
      · have hR : res = false := by rw [Hh.out]; simp [h2]
        subst hR
        go_enter Tryz.func87, Tryz.ntmps87
        go_wp2
        go_ret
        exact ⟨rfl, (by repeat' (first | with_reducible exact Below.refl _ _ | with_reducible refine below_drewN ?_ _ | with_reducible refine Below.drew ?_ | with_reducible refine Below.alloc ?_ ?_ _ | with_reducible refine Below.setCell ?_ ?_ _ | with_reducible refine Below.trans ?_ (Below.mono (by with_reducible assumption) ?_) | (simp; done) | (simp; omega) | omega))⟩
    · have hR : res = false := by rw [Hh.out]; simp [h1]
      subst hR
      go_enter Tryz.func87, Tryz.ntmps87
      go_wp2
      go_ret
      exact ⟨rfl, (by repeat' (first | with_reducible exact Below.refl _ _ | with_reducible refine below_drewN ?_ _ | with_reducible refine Below.drew ?_ | with_reducible refine Below.alloc ?_ ?_ _ | with_reducible refine Below.setCell ?_ ?_ _ | with_reducible refine Below.trans ?_ (Below.mono (by with_reducible assumption) ?_) | (simp; done) | (simp; omega) | omega))⟩
  · rintro e w' ⟨rfl, h⟩
    exact ⟨rfl, hb.trans (h.mono hb.size)⟩

theorem withinSP_take (rows : List (List (Sg Unit))) (x : Int) (k : Nat) (h : k < rows.length) : withinSP (rows.take (k + 1)) x = withinSP (rows.take k) x ||| ((inR rows[k] x).toNat * 2 ^ k) := by
  unfold withinSP
  rw [List.take_succ_eq_append_getElem h, List.map_append, List.map_cons, List.map_nil, ← maskL_or, List.length_map, List.length_take, Nat.min_eq_left (Nat.le_of_lt h)]
theorem withinSP_lt (rows : List (List (Sg Unit))) (x : Int) (h : rows.length ≤ 12) : withinSP rows x < 4096 := by
  have h1 := maskL_lt (rows.map fun r => inR r x)
  rw [List.length_map] at h1
  have h2 : 2 ^ rows.length ≤ 2 ^ 12 := Nat.pow_le_pow_right (by omega) h
  unfold withinSP
  omega
set_option maxHeartbeats 8000000 in
set_option maxRecDepth 100000 in
theorem within_any' (X : Option Addr) (p pc : Nat) (rows : List (List (Sg Unit))) (x : Int) (w : World) (hX : SlSS w X p rows) (hpl : p ≤ 12) :
    Calls Tryz.prog 59 #[.slice X p pc, .int .i64 x] w fun e w' => e = .returned (.int .i64 (withinSP rows x : Int)) ∧ Below w.heap.size w w' := by
  have hp := hX.len
  have HX := Lib.hid hX
  have eg : ∀ args w, (callFunc 87 args).run Tryz.prog w = .ok (.enter 87 args) w := enters_of Tryz.func87 (by kernel_rfl) rfl
  have Eg := Lib.hid eg
  clear hX eg
  go_enter Tryz.func59, Tryz.ntmps59
  go_upto_region 3 with fail
  go_loopw [5, 6, 7, 10] (fun s _ _ i wr => ∃ k : Nat, k ≤ p ∧ i = .int .i64 (k : Int) ∧ s = .int .i64 (withinSP (rows.take k) x : Int) ∧ Below (w.heap.size + 1) (w.alloc (.cells #[.int .i64 x] 3)) wr) (fun _ _ _ i _ => p - (intOf i).toNat)
  case atStart => exact ⟨0, Nat.zero_le _, rfl, rfl, Below.refl _ _⟩
  case round =>
    obtain ⟨k, hk, rfl, rfl, hbw⟩ := hrel
    have Hbw : Hid (Below w.heap.size w wr) := Lib.hid (((Below.refl _ w).alloc (Nat.le_refl _) _).trans (hbw.mono (by omega)))
    have hsw : w.heap.size + 1 ≤ wr.heap.size := by have := hbw.size; simpa using this
    have cx : wr.cell? ⟨w.heap.size, 0, none⟩ = some (.int .i64 x) := (hbw.cell (p := ⟨w.heap.size, 0, none⟩) (Nat.lt_succ_self _)).trans (cell_of_row _ w.heap.size 0 _ _ _ (heap_alloc_new w _))
    have HbA := Lib.hid hbw
    clear hbw
    by_cases hkn : k < p
    · have hkl : k < rows.length := by omega
      obtain ⟨b, off, A, c, rfl, hb, hc0, hA⟩ := HX.out.at' k hkl
      have c0 := (Hbw.out.cell (p := ⟨b, off + k, none⟩) hb).trans hc0
      have HA := Lib.hid (hA.below Hbw.out)
      have Hnext := Lib.hid (withinSP_take rows x k hkl)
      have hlt := withinSP_lt (rows.take k) x (by rw [List.length_take]; omega)
      have Hc := Lib.hid cx
      obtain ⟨n, hn⟩ : ∃ n, rows[k].length = n := ⟨_, rfl⟩
      rw [hn] at c0 HA
      generalize withinSP (rows.take k) x = m at *
      have hkn' : (k : Int) < (p : Int) := by omega
      have hbs : b < wr.heap.size := by have := Hbw.out.size; omega
      clear hc0 hA hn
      cases hin : inR rows[k] x with
      | true =>
        have Hin : Hid ((rows[k].any fun q => inS q x) = true) := Lib.hid hin
        rw [hin] at Hnext
        clear hin
        generalize rows[k] = row at *
        go_wp2_with (first
          | (go_at_call 86
             refine (containsS_any (fun q => inS q x) 87 #[.pointer (some ⟨w.heap.size, 0, none⟩)] Eg.out _ row _ HA.out (withinPred _ x _ Hc.out (by omega))).mono ?_
             rintro e w1 ⟨rfl, hb1⟩
             rw [Hin.out])
          | fail)
        go_roundw
        case rel => exact ⟨k + 1, by omega, by go_num, by rw [Hnext.out, or_shl m k (by omega) (by omega)], HbA.out.trans (hb1.mono (by omega))⟩
        case measure => simp [intOf]; omega
      | false =>
        have Hin : Hid ((rows[k].any fun q => inS q x) = false) := Lib.hid hin
        rw [hin] at Hnext
        clear hin
        generalize rows[k] = row at *
        go_wp2_with (first
          | (go_at_call 86
             refine (containsS_any (fun q => inS q x) 87 #[.pointer (some ⟨w.heap.size, 0, none⟩)] Eg.out _ row _ HA.out (withinPred _ x _ Hc.out (by omega))).mono ?_
             rintro e w1 ⟨rfl, hb1⟩
             rw [Hin.out])
          | fail)
        go_roundw
        case rel => exact ⟨k + 1, by omega, by go_num, by rw [Hnext.out]; simp, HbA.out.trans (hb1.mono (by omega))⟩
        case measure => simp [intOf]; omega
    · have e1 : rows.take k = rows := List.take_of_length_le (by omega)
      have hkn' : ¬ (k : Int) < (p : Int) := by omega
      rw [e1]
      clear e1
      go_wp2
      go_ret
      exact ⟨rfl, Hbw.out⟩
end Go.Proofs.YtabcadpfhachoaaGreat
