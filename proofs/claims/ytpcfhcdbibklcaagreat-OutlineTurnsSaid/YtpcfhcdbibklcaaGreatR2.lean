/- Contract: Cuts of one list (regions). -/
import Derived.Test.YtpcfhcdbibklcaaGreatS1
import Derived.Test.YtpcfhcdbibklcaaGreatF3
namespace Go.Proofs.YtpcfhcdbibklcaaGreat
open Go.RowKit
set_option linter.unusedVariables false
set_option linter.unusedSimpArgs false

theorem yEdges_snoc (l : List R4) (q : R4) : yEdges (l ++ [q]) = yEdges l ++ [q.b, q.t] := by simp [yEdges]

set_option maxHeartbeats 8000000 in
set_option maxRecDepth 100000 in
/-- Cuts, of any lists: what is ranged over lies in a slice of slices. -/
theorem cuts_any (X : Option Addr) (p pc : Nat) (ls : List (List R4)) (w : World) (hp : ls.length = p) (hpl : p ≤ 1000)
    (hX : ∀ i, (h : i < ls.length) → ∃ b off A n c, X = some ⟨b, off, none⟩ ∧ b < w.heap.size ∧ w.cell? ⟨b, off + i, none⟩ = some (.slice A n c) ∧ SlR w A n c ls[i])
    (hs : ls.flatten.length ≤ 100000) :
    Calls Tryz.prog 69 #[.slice X p pc] w fun e w' => ∃ v, e = .returned v ∧ w'.ownsRow w.heap.size 3 1 v (cutsP ls.flatten).length ((cutsP ls.flatten).map (.int .i64)) ∧ Below w.heap.size w w' := by
  obtain ⟨i0, hi, hz0, hz1, hz2⟩ := info_parts Tryz.infoInt
  have HX := Lib.hid hX
  have Hs := Lib.hid hs
  clear hX hs
  go_enter Tryz.func69, Tryz.ntmps69
  go_upto_region 3 with fail
  go_loopw [3, 5, 10] (fun o _ i wr => ∃ j : Nat, j ≤ p ∧ i = .int .i64 (j : Int) ∧ wr.ownsRow w.heap.size 3 1 o (yEdges (ls.take j).flatten).length ((yEdges (ls.take j).flatten).map (.int .i64)) ∧ Below w.heap.size w wr) (fun _ _ i _ => p - (intOf i).toNat)
  case atStart => exact ⟨0, Nat.zero_le _, rfl, World.ownsRow_nil _ _ _ _, Below.refl _ _⟩
  case round =>
    obtain ⟨wo, rfl⟩ : ∃ wo : World, wo = wr := ⟨_, rfl⟩
    obtain ⟨j, hj, rfl, hown, hbo⟩ := hrel
    have hso := hbo.size
    have Hown := Lib.hid hown
    have Hbo := Lib.hid hbo
    clear hown
    by_cases hjp : j < p
    · have hjl : j < ls.length := by omega
      obtain ⟨b, off, A, n, c, rfl, hb, hc0, hA⟩ := HX.out j hjl
      have c0 := (hbo.cell (p := ⟨b, off + j, none⟩) hb).trans hc0
      have HA := Lib.hid hA
      have hn := hA.len
      have Hnext : Hid ((ls.take (j + 1)).flatten = (ls.take j).flatten ++ ls[j]) := Lib.hid (by rw [List.take_succ_eq_append_getElem hjl, List.flatten_append]; simp only [List.flatten_cons, List.flatten_nil, List.append_nil])
      have hle : (ls.take j).flatten.length + (ls[j]).length ≤ 100000 := by
        have h1 := Hs.out
        have h2 := congrArg List.length (congrArg List.flatten (List.take_append_drop (j + 1) ls))
        rw [List.flatten_append, List.length_append, Hnext.out, List.length_append] at h2
        omega
      generalize (ls.take j).flatten = dn at *
      generalize ls[j] = l at *
      have hjp' : (j : Int) < (p : Int) := by omega
      have hbs : b < wo.heap.size := by omega
      clear hbo hA hc0
      go_upto_region 6 with fail
      go_loopw [3, 7, 16] (fun o _ i wr => ∃ k : Nat, k ≤ n ∧ i = .int .i64 (k : Int) ∧ wr.ownsRow w.heap.size 3 1 o (yEdges (dn ++ l.take k)).length ((yEdges (dn ++ l.take k)).map (.int .i64)) ∧ wo.heap.size ≤ wr.heap.size ∧ Below w.heap.size w wr) (fun _ _ i _ => n - (intOf i).toNat)
      case atStart => exact ⟨0, Nat.zero_le _, rfl, by simpa using Hown.out, Nat.le_refl _, Hbo.out⟩
      case round =>
        obtain ⟨k, hk, rfl, hown2, hwr, hbw⟩ := hrel
        have Hown2 := Lib.hid hown2
        have hsw := hbw.size
        clear hown2
        by_cases hkn : k < n
        · have hl : k < l.length := by omega
          obtain ⟨b2, o2, rfl, hb2, c1, c2, c3, c4⟩ := (HA.out.below hbw).at k hl
          have hlen : (yEdges (dn ++ l.take k)).length ≤ 400000 := by rw [yEdges_len, List.length_append, List.length_take]; omega
          have Hn2 : Hid (dn ++ l.take (k + 1) = (dn ++ l.take k) ++ [l[k]]) := Lib.hid (by rw [List.take_succ_eq_append_getElem hl, List.append_assoc])
          have hkn' : (k : Int) < (n : Int) := by omega
          generalize l[k] = q at *
          generalize dn ++ l.take k = d2 at *
          have Hbw := Lib.hid hbw
          clear hbw
          go_wp2_with (first
            | (at_builtin
               refine wpList_append_any _ rfl (.tmp 20) (.tmp 25) _ rfl w.heap.size 3 i0 _ 1 8 Tryz.underlying22 hi hz0 hz1 hz2 rfl (by omega) _ (yEdges d2).length ((yEdges d2).map (.int .i64)) rfl
                 ((Hown2.out.alloc _).alloc _) _ _ 2 2 [.int .i64 q.b, .int .i64 q.t] rfl ⟨rfl, fun _ => ⟨_, rfl, Nat.lt_succ_self _, fun j u hu => (by exact World.news_of_block (heap_alloc2_new wr _ (.cells #[.int .i64 q.b, .int .i64 q.t] 3)) j u hu)⟩⟩ (by simp [Value.oneCell']) (by simp only [maxLen]; omega) (by omega) (by simp; omega) ?_
               intro v5 w5 hown5 hg5 hat5)
            | fail)
          go_roundw
          case rel =>
            have hsz5 := hg5.size
            simp at hsz5
            refine ⟨k + 1, by omega, by go_num, ?_, by omega, ?_⟩
            · rw [Hn2.out, yEdges_snoc, List.length_append, List.map_append]
              exact hown5
            · exact Below.grown (((Hbw.out.alloc hsw _).alloc (by simp; omega) _)) hg5 (by simp; omega) (own_base Hown2.out)
          case measure => simp [intOf]; omega
        · have e1 : l.take k = l := List.take_of_length_le (by omega)
          have Hown3 : Hid (wr.ownsRow w.heap.size 3 1 u3 (yEdges (dn ++ l)).length ((yEdges (dn ++ l)).map (.int .i64))) := Lib.hid (by have := Hown2.out; rw [e1] at this; exact this)
          have hkn' : ¬ (k : Int) < (n : Int) := by omega
          have Hbw := Lib.hid hbw
          clear e1 hbw
          go_wp2
          go_roundw
          case rel => exact ⟨j + 1, by omega, by go_num, by rw [Hnext.out]; exact Hown3.out, Hbw.out⟩
          case measure => simp [intOf]; omega
    · have hjp' : ¬ (j : Int) < (p : Int) := by omega
      have Hown3 : Hid (wo.ownsRow w.heap.size 3 1 u3 (yEdges ls.flatten).length ((yEdges ls.flatten).map (.int .i64))) := Lib.hid (by have := Hown.out; rw [List.take_of_length_le (by omega)] at this; exact this)
      have hel : (yEdges ls.flatten).length ≤ 200000 := by have := Hs.out; rw [yEdges_len]; omega
      have Hsr := Lib.hid (srt_len (yEdges ls.flatten))
      have Hcut : Hid (cutsP ls.flatten = Lib.compact (srt (yEdges ls.flatten))) := Lib.hid rfl
      have hub := Lib.hid (own_base Hown3.out)
      clear hbo Hown
      generalize yEdges ls.flatten = es at *
      go_wp2_with fail
      refine (sort_own _ Hown3.out (by omega)).mono ?_
      rintro e w1 ⟨rfl, hown1, hg1⟩
      have Hown1 : Hid (w1.ownsRow w.heap.size 3 1 u3 (srt es).length ((srt es).map (.int .i64))) := Lib.hid (by rw [Hsr.out]; exact hown1)
      have Hb1 : Hid (Below w.heap.size w w1) := Lib.hid (Hbo.out.grown hg1 hso hub.out)
      clear hown1 hg1
      go_wp2_with fail
      refine (compact_own _ Hown1.out).mono ?_
      rintro e w2 ⟨v2, rfl, hown2, hg2, hv2⟩
      have Hown2 := Lib.hid hown2
      have Hb2 : Hid (Below w.heap.size w w2) := Lib.hid (Hb1.out.grown hg2 Hb1.out.size hub.out)
      clear hown2 hg2 hv2
      go_wp2
      go_ret
      exact ⟨v2, rfl, by rw [Hcut.out]; exact Hown2.out, Hb2.out⟩
end Go.Proofs.YtpcfhcdbibklcaaGreat
