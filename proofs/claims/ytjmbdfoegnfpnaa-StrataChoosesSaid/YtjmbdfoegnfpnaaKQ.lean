/- Contract: the farms that were drawn at random, of picks (the law's random); plain: who is drawn at random. -/
import Derived.Test.YtjmbdfoegnfpnaaK8
namespace Go.Proofs.Ytjmbdfoegnfpnaa
open Go.RowKit
set_option linter.unusedVariables false
set_option linter.unusedSimpArgs false

def randomP (l : List (Int × Int)) : List Int := (l.filter fun x => decide (x.2 = -1)).map (·.1)
theorem randomP_snoc (l : List (Int × Int)) (x : Int × Int) : randomP (l ++ [x]) = randomP l ++ (if x.2 = -1 then [x.1] else []) := by
  unfold randomP
  rw [List.filter_append, List.map_append]
  by_cases h : x.2 = -1 <;> simp [h]
theorem randomP_len (l : List (Int × Int)) : (randomP l).length ≤ l.length := by
  unfold randomP
  rw [List.length_map]
  exact List.length_filter_le _ _

set_option maxHeartbeats 4000000 in
set_option maxRecDepth 100000 in
theorem random_any (A : Option Addr) (n c : Nat) (l : List (Int × Int)) (w : World) (hA : SlK w A n c l) (hn : n ≤ 1000) :
    Calls Try.prog 30 #[.slice A n c] w (IntsPost w (randomP l)) := by
  obtain ⟨i0, hi, hz0, hz1, hz2⟩ := info_parts Try.infoIn
  have HA := Lib.hid hA
  have Hn := Lib.hid hA.len
  obtain ⟨R, hR⟩ : ∃ R, randomP l = R := ⟨_, rfl⟩
  have HR := Lib.hid hR
  rw [hR]
  clear hA hR
  go_enter Try.func30, Try.ntmps30
  go_upto_region 2 with fail
  go_wp2_with fail
  go_loopw [3, 5, 8] (fun v _ i wr => ∃ t : Nat, t ≤ n ∧ i = .int .i64 (t : Int) ∧ wr.ownsRow w.heap.size 3 1 v (randomP (l.take t)).length ((randomP (l.take t)).map (.int .i64)) ∧ Below w.heap.size w wr) (fun _ _ i _ => n - (intOf i).toNat)
  case atStart => exact ⟨0, Nat.zero_le _, rfl, World.ownsRow_nil _ _ _ _, Below.refl _ _⟩
  case round =>
    obtain ⟨t, ht, rfl, hown, hbw⟩ := hrel
    have Hown := Lib.hid hown
    have Hbw := Lib.hid hbw
    have hsw := hbw.size
    clear hown hbw
    by_cases htn : t < n
    · have htn' : (t : Int) < (n : Int) := by omega
      have htl : t < l.length := by have := Hn.out; omega
      obtain ⟨b, off, rfl, hb, c0, c1⟩ := (HA.out.below Hbw.out).at t htl
      have Hs : Hid (randomP (l.take (t + 1)) = randomP (l.take t) ++ (if l[t].2 = -1 then [l[t].1] else [])) := Lib.hid (by rw [List.take_succ_eq_append_getElem htl, randomP_snoc])
      have Hl : Hid ((randomP (l.take t)).length ≤ 1000) := Lib.hid (by have := randomP_len (l.take t); rw [List.length_take] at this; omega)
      generalize l[t].1 = x at *
      generalize l[t].2 = y at *
      generalize randomP (l.take t) = Q at *
      have hl0 := Hl.out
      clear htl
      by_cases hy : y = -1
      · have Hs1 : Hid (randomP (l.take (t + 1)) = Q ++ [x]) := Lib.hid (by rw [Hs.out, if_pos hy])
        subst hy
        clear Hs
        go_wp2_with (first
          | (at_builtin
             refine wpList_append_any _ rfl (.tmp 15) (.tmp 18) _ rfl w.heap.size 3 i0 _ 1 8 Try.underlying22 hi hz0 hz1 hz2 rfl (by omega) _ Q.length (Q.map (.int .i64)) rfl
               ((Hown.out.alloc _).alloc _) _ _ 1 1 [.int .i64 x] rfl ⟨rfl, fun _ => ⟨_, rfl, Nat.lt_succ_self _, fun j u hu => (by exact World.news_of_block (heap_alloc2_new wr _ (.cells #[.int .i64 x] 3)) j u hu)⟩⟩ (by simp [Value.oneCell']) (by simp only [maxLen]; omega) (by omega) (by simp; omega) ?_
             intro v5 w5 hown5 hg5 hat5)
          | fail)
        go_roundw
        case rel => exact ⟨t + 1, by omega, by go_num, by rw [Hs1.out, List.map_append, List.length_append]; exact hown5, Below.grown ((Hbw.out.alloc hsw _).alloc (by simp; omega) _) hg5 (by simp; omega) (own_base Hown.out)⟩
        case measure => simp [intOf]; omega
      · have Hs1 : Hid (randomP (l.take (t + 1)) = Q) := Lib.hid (by rw [Hs.out, if_neg hy, List.append_nil])
        clear Hs
        go_wp2
        go_roundw
        case rel => exact ⟨t + 1, by omega, by go_num, by rw [Hs1.out]; exact ownsRow_below Hown.out ((Below.refl _ _).alloc (Nat.le_refl _) _), Hbw.out.alloc hsw _⟩
        case measure => simp [intOf]; omega
    · have htn' : ¬ (t : Int) < (n : Int) := by omega
      rw [List.take_of_length_le (by have := Hn.out; omega), HR.out] at Hown
      go_wp2
      go_ret
      exact ⟨_, rfl, Hown.out, Hbw.out⟩
theorem mem_rest {q : Pl} {l : List Un} {R : List Int} {s : Nat} {x : Int} (h : x ∈ restP q l R s) : ∃ u ∈ l, u.fm = x ∧ x ∉ R ∧ strOf q u = s := by
  simp only [restP, farms, List.mem_map, List.mem_filter, inS, Bool.and_eq_true, decide_eq_true_eq] at h
  obtain ⟨u, ⟨hu, h1, h2⟩, rfl⟩ := h
  exact ⟨u, hu, rfl, h1, h2⟩
theorem mapF_rand {q : Pl} {l : List Un} (h : unitsP q l = 0) (seed : Int) (R : List Int) (x : Int) : ∀ k, k ≤ q.ss.length → (mapF q l seed R k x = some (-1) ↔ x ∈ R)
  | 0, _ => by
    unfold mapF
    by_cases hx : x ∈ R <;> simp [hx]
  | k + 1, hk => by
    unfold mapF
    by_cases hx : x ∈ drawP q l seed R k
    · rw [if_pos hx]
      obtain ⟨u, _, _, h2, _⟩ := mem_rest (draw_sub h seed R (by omega) hx)
      constructor
      · intro e
        injection e with e
        omega
      · intro hR
        exact absurd hR h2
    · rw [if_neg hx]
      exact mapF_rand h seed R x k (by omega)
theorem randomP_picks (f : Int → Option Int) (l : List Int) : randomP (picks f l) = l.filter fun x => decide (f x = some (-1)) := by
  induction l with
  | nil => rfl
  | cons a r ih =>
    have e : picks f (a :: r) = (match f a with | some k => [(a, k)] | none => []) ++ picks f r := by
      unfold picks
      cases h : f a <;> simp [h]
    have e2 : randomP (picks f (a :: r)) = randomP (match f a with | some k => [(a, k)] | none => []) ++ randomP (picks f r) := by
      rw [e]
      unfold randomP
      rw [List.filter_append, List.map_append]
    rw [e2, ih, List.filter_cons]
    cases h : f a with
    | none => simp [randomP]
    | some k =>
      by_cases hk : k = -1
      · subst hk; simp [randomP]
      · simp [randomP, hk]
theorem random_choose {q : Pl} {l : List Un} (h : unitsP q l = 0) (seed : Int) : randomP (chooseP q l seed).1 = (farms l).filter fun x => decide (x ∈ randP q l seed) := by
  unfold chooseP
  rw [if_neg (by rw [h]; simp)]
  show randomP (picks _ _) = _
  rw [randomP_picks]
  refine List.filter_congr (fun x _ => ?_)
  have := mapF_rand h seed (randP q l seed) x q.ss.length (Nat.le_refl _)
  rw [decide_eq_decide]
  exact this
theorem rand_farms {q : Pl} {l l' : List Un} (seed : Int) (h : farms l = farms l') : randP q l seed = randP q l' seed := by
  unfold randP
  have : l.length = l'.length := by rw [← farms_len, h, farms_len]
  rw [h, this]
/-- Who is drawn at random does not depend on the factors. -/
theorem random_same {q : Pl} {l l' : List Un} (h : unitsP q l = 0) (h' : unitsP q l' = 0) (seed : Int) (he : farms l = farms l') : randomP (chooseP q l seed).1 = randomP (chooseP q l' seed).1 := by
  rw [random_choose h, random_choose h', he, rand_farms seed he]
theorem choose_err {q : Pl} {l : List Un} (h : unitsP q l = 0) (seed : Int) : (chooseP q l seed).2 = 0 := by
  unfold chooseP
  rw [if_neg (by rw [h]; simp)]
theorem choose_len {q : Pl} {l : List Un} (h : unitsP q l = 0) (seed : Int) : (chooseP q l seed).1.length ≤ l.length := by
  unfold chooseP
  rw [if_neg (by rw [h]; simp)]
  have := picks_len (mapF q l seed (randP q l seed) q.ss.length) (farms l)
  rw [farms_len] at this
  exact this
end Go.Proofs.Ytjmbdfoegnfpnaa
