/- Contract: Put of the reference (draw): an ascending list with a number more. -/
import Derived.Test.YtjmbdfoegnfpnaaE4
namespace Go.Proofs.Ytjmbdfoegnfpnaa
open Go.RowKit
set_option linter.unusedVariables false
set_option linter.unusedSimpArgs false

/-- What a call leaves that returns whole numbers in a list of its own. -/
def IntsPost (w : World) (l : List Int) (e : Ending) (w' : World) : Prop :=
  ∃ v, e = .returned v ∧ w'.ownsRow w.heap.size 3 1 v l.length (l.map (.int .i64)) ∧ Below w.heap.size w w'

set_option maxHeartbeats 4000000 in
set_option maxRecDepth 100000 in
theorem putR_any (A : Option Addr) (n c : Nat) (l : List Int) (x : Int) (w : World) (hA : Sl w A c (l.map (.int .i64))) (hn : l.length = n) (hn1 : n ≤ 1000) :
    Calls Try.prog 62 #[.slice A n c, .int .i64 x] w (IntsPost w (putP l x)) := by
  obtain ⟨i0, hi, hz0, hz1, hz2⟩ := info_parts Try.infoIn
  have HA := Lib.hid hA
  have Hn := Lib.hid hn
  clear hA
  obtain ⟨R, hR⟩ : ∃ R, putP l x = R := ⟨_, rfl⟩
  have HR := Lib.hid hR
  rw [hR]
  clear hR
  go_enter Try.func62, Try.ntmps62
  go_wp2
  go_loopw [5, 6, 7] (fun v dn i wr => ∃ k : Nat, k ≤ n ∧ i = .int .i64 (k : Int) ∧ dn = .bool (hasP (l.take k) x) ∧ wr.ownsRow w.heap.size 3 1 v (outQ (l.take k) x).length ((outQ (l.take k) x).map (.int .i64)) ∧ Below w.heap.size w wr) (fun _ _ i _ => n - (intOf i).toNat)
  case atStart => exact ⟨0, Nat.zero_le _, rfl, rfl, World.ownsRow_nil _ _ _ _, Below.refl _ _⟩
  case round =>
    obtain ⟨k, hk, rfl, rfl, hown, hbw⟩ := hrel
    have hsw := hbw.size
    have Hown := Lib.hid hown
    have Hbw := Lib.hid hbw
    have hol := outQ_len (l.take k) x
    have htl : (l.take k).length ≤ k := by rw [List.length_take]; omega
    clear hown
    by_cases hkn : k < n
    · have hkl : k < l.length := by omega
      obtain ⟨b3, o3, e3, hb3, c3⟩ := (HA.out.below Hbw.out).at k hkl
      have Hts := Lib.hid (List.take_succ_eq_append_getElem hkl)
      have Hhs := Lib.hid (hasP_snoc (l.take k) x l[k])
      have Hos := Lib.hid (outQ_snoc (l.take k) x l[k])
      rw [← Hts.out] at Hhs Hos
      have hkn' : (k : Int) < (n : Int) := by omega
      subst e3
      have Hy : Hid (∀ h : k < l.length, l[k]'h = l[k]'hkl) := Lib.hid (fun _ => rfl)
      generalize l[k] = y at *
      generalize outQ (l.take k) x = Q at *
      generalize hasP (l.take k) x = P0 at *
      clear hbw hn hkl Hts
      have one : Hid (∀ (v : Value) (W : World), W.ownsRow w.heap.size 3 1 v (Q.length + 1) (Q.map (Value.int .i64) ++ [.int .i64 y]) → W.ownsRow w.heap.size 3 1 v (Q ++ [y]).length ((Q ++ [y]).map (Value.int .i64))) := Lib.hid (fun v W h => by rw [List.length_append, List.map_append]; exact h)
      have two : Hid (∀ (v : Value) (W : World), W.ownsRow w.heap.size 3 1 v (Q.length + 1 + 1) ((Q.map (Value.int .i64) ++ [.int .i64 x]) ++ [.int .i64 y]) → W.ownsRow w.heap.size 3 1 v (Q ++ [x] ++ [y]).length ((Q ++ [x] ++ [y]).map (Value.int .i64))) := Lib.hid (fun v W h => by rw [List.length_append, List.length_append, List.map_append, List.map_append]; exact h)
      cases P0 with
      | true =>
        have HQ : Hid (outQ (l.take (k + 1)) x = Q ++ [y]) := Lib.hid (by rw [Hos.out]; rfl)
        have HP : Hid (hasP (l.take (k + 1)) x = true) := Lib.hid (by rw [Hhs.out]; rfl)
        clear Hhs Hos
        by_cases hxy : x < y
        all_goals
          go_wp2_with (first
            | (at_builtin
               refine wpList_append_any _ rfl (.tmp 28) (.tmp 33) _ rfl w.heap.size 3 i0 _ 1 8 Try.underlying22 hi hz0 hz1 hz2 rfl (by omega) _ Q.length (Q.map (.int .i64)) rfl
                 (Hown.out.alloc _) _ _ 1 1 [.int .i64 y] rfl ⟨rfl, fun _ => ⟨_, rfl, Nat.lt_succ_self _, fun j u hu => World.news_of_block (heap_alloc_new wr (.cells #[.int .i64 y] 3)) j u hu⟩⟩ (by simp [Value.oneCell']) (by simp only [maxLen]; omega) (by omega) (by simp; omega) ?_
               intro v5 w5 hown5 hg5 hat5)
            | fail)
          go_roundw
          case rel => exact ⟨k + 1, by omega, by go_num, by rw [HP.out], by rw [HQ.out]; exact one.out _ _ hown5, Below.grown (Hbw.out.alloc hsw _) hg5 (by simp; omega) (own_base Hown.out)⟩
          case measure => simp [intOf]; omega
      | false =>
        by_cases hxy : x < y
        · have HQ : Hid (outQ (l.take (k + 1)) x = Q ++ [x] ++ [y]) := Lib.hid (by rw [Hos.out, if_neg (by simp), if_pos hxy])
          have HP : Hid (hasP (l.take (k + 1)) x = true) := Lib.hid (by rw [Hhs.out]; simp [hxy])
          clear Hhs Hos
          go_wp2_with (first
            | (at_builtin
               refine wpList_append_any _ rfl (.tmp 24) (.tmp 26) _ rfl w.heap.size 3 i0 _ 1 8 Try.underlying22 hi hz0 hz1 hz2 rfl (by omega) _ Q.length (Q.map (.int .i64)) rfl
                 (Hown.out.alloc _) _ _ 1 1 [.int .i64 x] rfl ⟨rfl, fun _ => ⟨_, rfl, Nat.lt_succ_self _, fun j u hu => World.news_of_block (heap_alloc_new wr (.cells #[.int .i64 x] 3)) j u hu⟩⟩ (by simp [Value.oneCell']) (by simp only [maxLen]; omega) (by omega) (by simp; omega) ?_
               intro v4 w4 hown4 hg4 hat4
               have Hown4 := Lib.hid hown4
               have Hb4 : Hid (Below w.heap.size w w4) := Lib.hid (Below.grown (Hbw.out.alloc hsw _) hg4 (by simp; omega) (own_base Hown.out))
               obtain ⟨b4, o4, e4, hb4, c4⟩ := (HA.out.below Hb4.out).at k (by have := Hn.out; omega)
               rw [Hy.out] at c4
               cases e4
               have hs4 := Hb4.out.size
               clear hown4 hg4)
            | (at_builtin
               refine wpList_append_any _ rfl (.tmp 28) (.tmp 33) _ rfl w.heap.size 3 i0 _ 1 8 Try.underlying22 hi hz0 hz1 hz2 rfl (by omega) _ (Q.length + 1) (Q.map (.int .i64) ++ [.int .i64 x]) rfl
                 (Hown4.out.alloc _) _ _ 1 1 [.int .i64 y] rfl ⟨rfl, fun _ => ⟨_, rfl, Nat.lt_succ_self _, fun j u hu => World.news_of_block (heap_alloc_new w4 (.cells #[.int .i64 y] 3)) j u hu⟩⟩ (by simp [Value.oneCell']) (by simp only [maxLen]; omega) (by omega) (by simp; omega) ?_
               intro v5 w5 hown5 hg5 hat5)
            | fail)
          go_roundw
          case rel => exact ⟨k + 1, by omega, by go_num, by rw [HP.out], by rw [HQ.out]; exact two.out _ _ hown5, Below.grown (Hb4.out.alloc hs4 _) hg5 (by simp; omega) (own_base Hown4.out)⟩
          case measure => simp [intOf]; omega
        · have HQ : Hid (outQ (l.take (k + 1)) x = Q ++ [y]) := Lib.hid (by rw [Hos.out, if_neg (by simp), if_neg hxy])
          have HP : Hid (hasP (l.take (k + 1)) x = false) := Lib.hid (by rw [Hhs.out]; simp; omega)
          clear Hhs Hos
          go_wp2_with (first
            | (at_builtin
               refine wpList_append_any _ rfl (.tmp 28) (.tmp 33) _ rfl w.heap.size 3 i0 _ 1 8 Try.underlying22 hi hz0 hz1 hz2 rfl (by omega) _ Q.length (Q.map (.int .i64)) rfl
                 (Hown.out.alloc _) _ _ 1 1 [.int .i64 y] rfl ⟨rfl, fun _ => ⟨_, rfl, Nat.lt_succ_self _, fun j u hu => World.news_of_block (heap_alloc_new wr (.cells #[.int .i64 y] 3)) j u hu⟩⟩ (by simp [Value.oneCell']) (by simp only [maxLen]; omega) (by omega) (by simp; omega) ?_
               intro v5 w5 hown5 hg5 hat5)
            | fail)
          go_roundw
          case rel => exact ⟨k + 1, by omega, by go_num, by rw [HP.out], by rw [HQ.out]; exact one.out _ _ hown5, Below.grown (Hbw.out.alloc hsw _) hg5 (by simp; omega) (own_base Hown.out)⟩
          case measure => simp [intOf]; omega
    · have hkk : k = n := by omega
      have hkn' : ¬ (k : Int) < (n : Int) := by omega
      have et : l.take k = l := List.take_of_length_le (by omega)
      rw [et] at Hown hol ⊢
      cases hp : hasP l x with
      | true =>
        have e1 : outQ l x = R := by rw [← HR.out]; unfold outQ; rw [hp]; rfl
        rw [e1] at Hown
        clear e1 hp et hn hbw hol htl hkk
        go_wp2
        go_ret
        exact ⟨_, rfl, Hown.out, Hbw.out⟩
      | false =>
        have e1 : outQ l x = l := by unfold outQ; rw [hp]; rfl
        have e2 : Hid (R = l ++ [x]) := Lib.hid (by rw [← HR.out]; exact putP_none hp)
        rw [e1] at Hown hol
        have hll : l.length ≤ 1000 := by omega
        clear e1 hp et hn hbw hol htl hkk
        go_wp2_with (first
          | (at_builtin
             refine wpList_append_any _ rfl (.tmp 37) (.tmp 39) _ rfl w.heap.size 3 i0 _ 1 8 Try.underlying22 hi hz0 hz1 hz2 rfl (by omega) _ l.length (l.map (.int .i64)) rfl
               (Hown.out.alloc _) _ _ 1 1 [.int .i64 x] rfl ⟨rfl, fun _ => ⟨_, rfl, Nat.lt_succ_self _, fun j u hu => World.news_of_block (heap_alloc_new wr (.cells #[.int .i64 x] 3)) j u hu⟩⟩ (by simp [Value.oneCell']) (by simp only [maxLen]; omega) (by omega) (by simp; omega) ?_
             intro v5 w5 hown5 hg5 hat5)
          | fail)
        go_ret
        refine ⟨_, rfl, ?_, Below.grown (Hbw.out.alloc hsw _) hg5 (by simp; omega) (own_base Hown.out)⟩
        rw [e2.out, List.length_append, List.map_append]
        exact hown5
end Go.Proofs.Ytjmbdfoegnfpnaa
