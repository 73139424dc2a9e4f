/- Contract: Put (reference of exact). -/
import Derived.Test.YtpcfhcdbibklcaaGreatH1
import Derived.Test.YtpcfhcdbibklcaaGreatGr
namespace Go.Proofs.YtpcfhcdbibklcaaGreat
open Go.RowKit
set_option linter.unusedVariables false

theorem putL_split : ∀ (l : List Int) (v : Int) (k : Nat), k ≤ l.length → (∀ j, j < k → ∀ x, l[j]? = some x → x < v) → (∀ x, l[k]? = some x → v < x) → putL l v = l.take k ++ v :: l.drop k
  | [], v, k, hk, _, _ => by
    obtain rfl : k = 0 := by simpa using hk
    rfl
  | x :: t, v, 0, _, _, h => by
    have := h x rfl
    unfold putL
    rw [if_neg (by omega), if_neg (by omega)]
    rfl
  | x :: t, v, k + 1, hk, h1, h2 => by
    have := h1 0 (by omega) x rfl
    unfold putL
    rw [if_pos this, putL_split t v k (by simpa using hk) (fun j hj y hy => h1 (j + 1) (by omega) y hy) (fun y hy => h2 y hy)]
    rfl
theorem putL_same : ∀ (l : List Int) (v : Int) (k : Nat), (∀ j, j < k → ∀ x, l[j]? = some x → x < v) → l[k]? = some v → putL l v = l
  | [], v, k, _, h => by simp at h
  | x :: t, v, 0, _, h => by
    have : x = v := by simpa using h
    unfold putL
    rw [if_neg (by omega), if_pos this]
  | x :: t, v, k + 1, h1, h2 => by
    have := h1 0 (by omega) x rfl
    unfold putL
    rw [if_pos this, putL_same t v k (fun j hj y hy => h1 (j + 1) (by omega) y hy) h2]
theorem news_any (w : World) (cs : Array Value) (t : TypeId) (j : Nat) (u : Value) (hu : cs.toList[j]? = some u) : (w.alloc (.cells cs t)).cell? ((⟨w.heap.size, 0, none⟩ : Addr).add j) = some u :=
  World.news_of_block (heap_alloc_new w (.cells cs t)) j u hu

theorem SlI.cast {w : World} {A : Option Addr} {n m c : Nat} {l : List Int} (h : SlI w A n c l) (e : n = m) : SlI w A m c l := e ▸ h
theorem reads_take {w : World} {b off n k : Nat} {l : List Int} (h : Reads w w.heap.size 1 (some ⟨b, off, none⟩) n (l.map (.int .i64))) (hk : k ≤ n) : Reads w w.heap.size 1 (some ⟨b, off, none⟩) k ((l.take k).map (.int .i64)) := by
  refine ⟨by have := h.1; simp at this ⊢; omega, fun hk0 => ?_⟩
  obtain ⟨ad, e, h1, h2⟩ := h.2 (by omega)
  refine ⟨ad, e, h1, fun j u hu => h2 j u ?_⟩
  rw [List.map_take, List.getElem?_take] at hu
  split at hu
  · exact hu
  · cases hu
theorem reads_drop {w : World} {b off n k c : Nat} {l : List Int} (h : Reads w w.heap.size 1 (some ⟨b, off, none⟩) n (l.map (.int .i64))) (hk : k ≤ n) (hc : n ≤ c) : Reads w w.heap.size 1 (if c = k then some ⟨b, off, none⟩ else some ⟨b, off + k, none⟩) (n - k) ((l.drop k).map (.int .i64)) := by
  have h1 := h.cut (k := k) (cap := c) hk hc
  simp only [Nat.mul_one, Option.map_some, add_none] at h1
  rw [List.map_drop]
  exact h1

/-- What a call leaves that returns whole numbers in a slice that nothing turns. -/
def IntsPost (w : World) (l : List Int) (e : Ending) (w' : World) : Prop := ∃ A n c, e = .returned (.slice A n c) ∧ SlI w' A n c l ∧ Below w.heap.size w w'

set_option maxHeartbeats 4000000 in
set_option maxRecDepth 100000 in
theorem put_nil (c : Nat) (v : Int) (w : World) :
    Calls Tryz.prog 57 #[.slice none 0 0, .int .i64 v] w (IntsPost w [v]) := by
  obtain ⟨i0, hi, hz0, hz1, hz2⟩ := info_parts Tryz.infoInt
  go_enter Tryz.func57, Tryz.ntmps57
  go_wp2
  go_loop [5] (fun i => i = .int .i64 0) (fun i => 0)
  case atStart => rfl
  case round =>
    subst hrel
    go_upto_region 6 with fail
    go_region_held3 (fun w' => True)
      (first | trivial)
      (first
        | (refine step_append_any _ rfl (.tmp 40) (.tmp 43) 22 rfl w.heap.size 3 i0 (.int .i64 0) 1 8 Tryz.underlying22 hi hz0 hz1 hz2 rfl (by omega) v2 1 [.int .i64 v] rfl (by exact Hown2.out) w.heap.size none 0 0 [] rfl Reads.none_ (by simp) (by unfold maxLen; omega) (by omega) (by exact hsB) ?_
           intro v3 w3 hown3 hg3 hat3
           have HbC : Hid (Below w.heap.size w w3) := Below.grown HbB.out hg3 hsB (own_base Hown2.out)
           have Hown3 : Hid (w3.ownsRow w.heap.size 3 1 v3 [v].length ([v].map (.int .i64))) := Lib.hid (show w3.ownsRow w.heap.size 3 1 v3 [v].length ([v].map (.int .i64)) from (by simpa using hown3))
           obtain ⟨A3, c3, rfl, hS⟩ := SlI.of_own Hown3.out
           have HS := Lib.hid hS
           clear hown3 hg3 hat3 Hown3 hS)
        | (refine step_append_any _ rfl (.tmp 37) (.tmp 39) 22 rfl w.heap.size 3 i0 (.int .i64 0) 1 8 Tryz.underlying22 hi hz0 hz1 hz2 rfl (by omega) v1 0 [] rfl (by first | exact Hown1.out | exact ownsRow_below Hown1.out (by repeat' (first | with_reducible exact Below.refl _ _ | with_reducible refine below_drewN ?_ _ | with_reducible refine Below.drew ?_ | with_reducible refine Below.alloc ?_ ?_ _ | with_reducible refine Below.setCell ?_ ?_ _ | with_reducible refine Below.trans ?_ (Below.mono (by with_reducible assumption) ?_) | (simp; done) | (simp; omega) | omega))) _ _ 1 1 [.int .i64 v] rfl ⟨rfl, fun _ => ⟨_, rfl, Nat.lt_succ_self _, fun j u hu => (by first | exact news_any _ _ _ j u hu | exact news_far (cs := #[.int .i64 v]) (t := 3) (alloc_second w _ _) Hg1.out (by simp [Value.ownBlock]) j u hu | exact news_far (cs := #[.int .i64 v]) (t := 3) (alloc_first w _ _) Hg1.out (by simp [Value.ownBlock]) j u hu)⟩⟩ (by simp [Value.oneCell']) (by unfold maxLen; omega) (by omega) (by first | exact hsA | (simp; omega)) ?_
           intro v2 w2 hown2 hg2 hat2
           have HbB : Hid (Below w.heap.size w w2) := Below.grown (by have hbA := HbA.out; exact (by repeat' (first | with_reducible exact Below.refl _ _ | with_reducible assumption | with_reducible refine below_drewN ?_ _ | with_reducible refine Below.drew ?_ | with_reducible refine Below.alloc ?_ ?_ _ | with_reducible refine Below.setCell ?_ ?_ _ | with_reducible refine Below.trans ?_ (Below.mono (by with_reducible assumption) ?_) | with_reducible refine below_only ?_ (by with_reducible assumption) ?_ ?_ | (simp; done) | (simp; omega) | omega))) hg2 (by first | (simp; done) | (simp; omega) | omega) (own_base Hown1.out)
           have hsB : w.heap.size ≤ w2.heap.size := HbB.out.size
           have Hown2 : Hid (w2.ownsRow w.heap.size 3 1 v2 1 [.int .i64 v]) := Lib.hid (show w2.ownsRow w.heap.size 3 1 v2 1 [.int .i64 v] from (by simpa using hown2))
           clear hown2 hg2 hat2)
        | (refine step_append_any _ rfl (.tmp 33) (.tmp 36) 22 rfl w.heap.size 3 i0 (.int .i64 0) 1 8 Tryz.underlying22 hi hz0 hz1 hz2 rfl (by omega) (.slice (some ⟨w.heap.size, 0, none⟩) 0 0) 0 [] rfl (by first | exact own_zero w _ _ _ (Nat.le_refl _) | exact ownsRow_below (own_zero w _ _ _ (Nat.le_refl _)) (by repeat' (first | with_reducible exact Below.refl _ _ | with_reducible refine below_drewN ?_ _ | with_reducible refine Below.drew ?_ | with_reducible refine Below.alloc ?_ ?_ _ | with_reducible refine Below.setCell ?_ ?_ _ | with_reducible refine Below.trans ?_ (Below.mono (by with_reducible assumption) ?_) | (simp; done) | (simp; omega) | omega))) w.heap.size none 0 _ [] rfl Reads.none_ (by simp) (by unfold maxLen; omega) (by omega) (by first | (simp; done) | (simp; omega)) ?_
           intro v1 w1 hown1 hg1 hat1
           have HbA : Hid (Below w.heap.size w w1) := Below.grown (by exact (by repeat' (first | with_reducible exact Below.refl _ _ | with_reducible refine below_drewN ?_ _ | with_reducible refine Below.drew ?_ | with_reducible refine Below.alloc ?_ ?_ _ | with_reducible refine Below.setCell ?_ ?_ _ | with_reducible refine Below.trans ?_ (Below.mono (by with_reducible assumption) ?_) | (simp; done) | (simp; omega) | omega))) hg1 (by first | (simp; done) | (simp; omega) | omega) (fun q hq => by injection hq with hq; exact Nat.le_of_eq hq)
           have hsA : w.heap.size ≤ w1.heap.size := HbA.out.size
           have Hg1 := Lib.hid hg1
           have Hown1 : Hid (w1.ownsRow w.heap.size 3 1 v1 0 []) := Lib.hid hown1
           clear hown1 hg1 hat1)
        | (refine step_append_any _ rfl (.tmp 33) (.tmp 36) 22 rfl w.heap.size 3 i0 (.int .i64 0) 1 8 Tryz.underlying22 hi hz0 hz1 hz2 rfl (by omega) (.slice (some ⟨w.heap.size + 1, 0, none⟩) 0 0) 0 [] rfl (by exact own_zero1 w _ _ _ _ (Nat.le_refl _)) w.heap.size none 0 _ [] rfl Reads.none_ (by simp) (by unfold maxLen; omega) (by omega) (by first | (simp; done) | (simp; omega)) ?_
           intro v1 w1 hown1 hg1 hat1
           have HbA : Hid (Below w.heap.size w w1) := Below.grown (by exact (by repeat' (first | with_reducible exact Below.refl _ _ | with_reducible refine below_drewN ?_ _ | with_reducible refine Below.drew ?_ | with_reducible refine Below.alloc ?_ ?_ _ | with_reducible refine Below.setCell ?_ ?_ _ | with_reducible refine Below.trans ?_ (Below.mono (by with_reducible assumption) ?_) | (simp; done) | (simp; omega) | omega))) hg1 (by first | (simp; done) | (simp; omega) | omega) (fun q hq => by injection hq with hq; subst hq; exact Nat.le_succ _)
           have hsA : w.heap.size ≤ w1.heap.size := HbA.out.size
           have Hg1 := Lib.hid hg1
           have Hown1 : Hid (w1.ownsRow w.heap.size 3 1 v1 0 []) := Lib.hid hown1
           clear hown1 hg1 hat1)
        | fail)
    all_goals
      go_wp2
      go_ret
      exact ⟨A3, _, c3, rfl, HS.out, HbC.out⟩

set_option maxHeartbeats 4000000 in
set_option maxRecDepth 100000 in
theorem put_some (b off : Nat) (n c : Nat) (l : List Int) (v : Int) (w : World) (h : SlI w (some ⟨b, off, none⟩) n c l) (hb : n ≤ 1000000) (hn0 : 0 < n) :
    Calls Tryz.prog 57 #[.slice (some ⟨b, off, none⟩) n c, .int .i64 v] w (IntsPost w (putL l v)) := by
  obtain ⟨i0, hi, hz0, hz1, hz2⟩ := info_parts Tryz.infoInt
  have hn := h.len
  have hc := h.cap
  have hm := h.top
  unfold maxLen at hm
  have H := Lib.hid h
  have HR := Lib.hid (h.lies.reads (size := 1) (by simp [hn]))
  clear h
  go_enter Tryz.func57, Tryz.ntmps57
  go_wp2
  go_loop [5] (fun i => ∃ k : Nat, k ≤ n ∧ i = .int .i64 (k : Int) ∧ Hid (∀ j, j < k → ∀ x, l[j]? = some x → x < v)) (fun i => n - (intOf i).toNat)
  case atStart => exact ⟨0, Nat.zero_le _, rfl, Lib.hid (fun j hj => absurd hj (Nat.not_lt_zero _))⟩
  case round =>
    obtain ⟨k, hk, rfl, Hlt⟩ := hrel
    by_cases hkn : k < n
    · have hl : k < l.length := by omega
      obtain ⟨b', off', hA, hbl, c0⟩ := H.out.at k hl
      injection hA with hA
      injection hA with e1 e2 _
      subst e1 e2
      have hkn' : (k : Int) < (n : Int) := by omega
      have Hk : Hid (l[k]? = some l[k]) := Lib.hid (List.getElem?_eq_getElem hl)
      have Hstep : Hid (l[k] < v → ∀ j, j < k + 1 → ∀ x, l[j]? = some x → x < v) := Lib.hid (fun h j hj x hx => by
        by_cases hjk : j = k
        · subst hjk
          rw [Hk.out] at hx
          injection hx with hx
          omega
        · exact Hlt.out j (by omega) x hx)
      generalize l[k] = x at *
      by_cases h1 : x < v
      · go_wp2
        go_round
        case rel => exact ⟨k + 1, by omega, by go_num, Hstep.out h1⟩
        case measure => simp [intOf]; omega
      · by_cases h2 : x = v
        · subst h2
          have Hput : Hid (putL l x = l) := Lib.hid (putL_same l x k Hlt.out Hk.out)
          go_wp2
          go_ret
          exact ⟨_, n, c, rfl, by rw [Hput.out]; exact H.out, Below.refl _ _⟩
        · have Hput : Hid (putL l v = l.take k ++ v :: l.drop k) := Lib.hid (putL_split l v k (by omega) Hlt.out (fun y hy => by rw [Hk.out] at hy; injection hy with hy; omega))
          clear Hstep
          go_upto_region 6 with fail
          clear c0
          have hck : ¬ c = k := (by omega)
          have hck2 : ¬ (c : Int) = (k : Int) := (by omega)
          have HA1 : Hid (Reads w w.heap.size 1 (some ⟨b, off, none⟩) k ((l.take k).map (.int .i64))) := Lib.hid (reads_take HR.out hk)
          have HA2 : Hid (Reads w w.heap.size 1 (some ⟨b, off + k, none⟩) (n - k) ((l.drop k).map (.int .i64))) := Lib.hid (by have h9 := reads_drop HR.out hk hc; rw [if_neg hck] at h9; exact h9)
          have hkc : (k : Int) ≤ (c : Int) := by omega
          have hkn2 : (k : Int) ≤ (n : Int) := by omega
          have hk0 : (0 : Int) ≤ (k : Int) := by omega
          have htk : (l.take k).length = k := by simp; omega
          have hdk : (l.drop k).length = n - k := by simp; omega
          generalize l.take k = l1 at *
          generalize l.drop k = l2 at *
          go_region_held3 (fun w' => True)
            (first | trivial)
            (first
              | (refine step_append_any _ rfl (.tmp 40) (.tmp 43) 22 rfl w.heap.size 3 i0 (.int .i64 0) 1 8 Tryz.underlying22 hi hz0 hz1 hz2 rfl (by omega) v2 (k + 1) ((l1 ++ [v]).map (.int .i64)) rfl (by exact Hown2.out) w.heap.size (some ⟨b, off + k, none⟩) (n - k) _ (l2.map (.int .i64)) rfl (HA2.out.below (by exact HbB.out)) (ints_oneCell .i64 _) (by unfold maxLen; omega) (by omega) (by exact hsB) ?_
                 intro v3 w3 hown3 hg3 hat3
                 have HbC : Hid (Below w.heap.size w w3) := Below.grown HbB.out hg3 hsB (own_base Hown2.out)
                 have Hown3 : Hid (w3.ownsRow w.heap.size 3 1 v3 (l1 ++ v :: l2).length ((l1 ++ v :: l2).map (.int .i64))) := Lib.hid (show w3.ownsRow w.heap.size 3 1 v3 (l1 ++ v :: l2).length ((l1 ++ v :: l2).map (.int .i64)) from (by
                   have e1 : (l1 ++ v :: l2).length = k + 1 + (n - k) := by simp; omega
                   have e2 : (l1 ++ v :: l2).map (Value.int .i64) = (l1 ++ [v]).map (Value.int .i64) ++ l2.map (Value.int .i64) := by simp
                   rw [e1, e2]; exact hown3))
                 obtain ⟨A3, c3, rfl, hS⟩ := SlI.of_own Hown3.out
                 have HS := Lib.hid hS
                 clear hown3 hg3 hat3 Hown3 hS)
              | (refine step_append_any _ rfl (.tmp 37) (.tmp 39) 22 rfl w.heap.size 3 i0 (.int .i64 0) 1 8 Tryz.underlying22 hi hz0 hz1 hz2 rfl (by omega) v1 k (l1.map (.int .i64)) rfl (by first | exact Hown1.out | exact ownsRow_below Hown1.out (by repeat' (first | with_reducible exact Below.refl _ _ | with_reducible refine below_drewN ?_ _ | with_reducible refine Below.drew ?_ | with_reducible refine Below.alloc ?_ ?_ _ | with_reducible refine Below.setCell ?_ ?_ _ | with_reducible refine Below.trans ?_ (Below.mono (by with_reducible assumption) ?_) | (simp; done) | (simp; omega) | omega))) _ _ 1 1 [.int .i64 v] rfl ⟨rfl, fun _ => ⟨_, rfl, Nat.lt_succ_self _, fun j u hu => (by first | exact news_any _ _ _ j u hu | exact news_far (cs := #[.int .i64 v]) (t := 3) (alloc_second w _ _) Hg1.out (by simp [Value.ownBlock]) j u hu | exact news_far (cs := #[.int .i64 v]) (t := 3) (alloc_first w _ _) Hg1.out (by simp [Value.ownBlock]) j u hu)⟩⟩ (by simp [Value.oneCell']) (by unfold maxLen; omega) (by omega) (by first | exact hsA | (simp; omega)) ?_
                 intro v2 w2 hown2 hg2 hat2
                 have HbB : Hid (Below w.heap.size w w2) := Below.grown (by have hbA := HbA.out; exact (by repeat' (first | with_reducible exact Below.refl _ _ | with_reducible assumption | with_reducible refine below_drewN ?_ _ | with_reducible refine Below.drew ?_ | with_reducible refine Below.alloc ?_ ?_ _ | with_reducible refine Below.setCell ?_ ?_ _ | with_reducible refine Below.trans ?_ (Below.mono (by with_reducible assumption) ?_) | with_reducible refine below_only ?_ (by with_reducible assumption) ?_ ?_ | (simp; done) | (simp; omega) | omega))) hg2 (by first | (simp; done) | (simp; omega) | omega) (own_base Hown1.out)
                 have hsB : w.heap.size ≤ w2.heap.size := HbB.out.size
                 have Hown2 : Hid (w2.ownsRow w.heap.size 3 1 v2 (k + 1) ((l1 ++ [v]).map (.int .i64))) := Lib.hid (show w2.ownsRow w.heap.size 3 1 v2 (k + 1) ((l1 ++ [v]).map (.int .i64)) from (by rw [List.map_append]; exact hown2))
                 clear hown2 hg2 hat2)
              | (refine step_append_any _ rfl (.tmp 33) (.tmp 36) 22 rfl w.heap.size 3 i0 (.int .i64 0) 1 8 Tryz.underlying22 hi hz0 hz1 hz2 rfl (by omega) (.slice (some ⟨w.heap.size, 0, none⟩) 0 0) 0 [] rfl (by first | exact own_zero w _ _ _ (Nat.le_refl _) | exact ownsRow_below (own_zero w _ _ _ (Nat.le_refl _)) (by repeat' (first | with_reducible exact Below.refl _ _ | with_reducible refine below_drewN ?_ _ | with_reducible refine Below.drew ?_ | with_reducible refine Below.alloc ?_ ?_ _ | with_reducible refine Below.setCell ?_ ?_ _ | with_reducible refine Below.trans ?_ (Below.mono (by with_reducible assumption) ?_) | (simp; done) | (simp; omega) | omega))) w.heap.size (some ⟨b, off, none⟩) k _ (l1.map (.int .i64)) rfl (HA1.out.below (by repeat' (first | with_reducible exact Below.refl _ _ | with_reducible refine below_drewN ?_ _ | with_reducible refine Below.drew ?_ | with_reducible refine Below.alloc ?_ ?_ _ | with_reducible refine Below.setCell ?_ ?_ _ | with_reducible refine Below.trans ?_ (Below.mono (by with_reducible assumption) ?_) | (simp; done) | (simp; omega) | omega))) (ints_oneCell .i64 _) (by unfold maxLen; omega) (by omega) (by first | (simp; done) | (simp; omega)) ?_
                 intro v1 w1 hown1 hg1 hat1
                 simp only [Nat.zero_add, List.nil_append] at hown1
                 have HbA : Hid (Below w.heap.size w w1) := Below.grown (by exact (by repeat' (first | with_reducible exact Below.refl _ _ | with_reducible refine below_drewN ?_ _ | with_reducible refine Below.drew ?_ | with_reducible refine Below.alloc ?_ ?_ _ | with_reducible refine Below.setCell ?_ ?_ _ | with_reducible refine Below.trans ?_ (Below.mono (by with_reducible assumption) ?_) | (simp; done) | (simp; omega) | omega))) hg1 (by first | (simp; done) | (simp; omega) | omega) (fun q hq => by injection hq with hq; exact Nat.le_of_eq hq)
                 have hsA : w.heap.size ≤ w1.heap.size := HbA.out.size
                 have Hg1 := Lib.hid hg1
                 have Hown1 := Lib.hid hown1
                 clear hown1 hg1 hat1)
              | (refine step_append_any _ rfl (.tmp 33) (.tmp 36) 22 rfl w.heap.size 3 i0 (.int .i64 0) 1 8 Tryz.underlying22 hi hz0 hz1 hz2 rfl (by omega) (.slice (some ⟨w.heap.size + 1, 0, none⟩) 0 0) 0 [] rfl (by exact own_zero1 w _ _ _ _ (Nat.le_refl _)) w.heap.size (some ⟨b, off, none⟩) k _ (l1.map (.int .i64)) rfl (HA1.out.below (by repeat' (first | with_reducible exact Below.refl _ _ | with_reducible refine below_drewN ?_ _ | with_reducible refine Below.drew ?_ | with_reducible refine Below.alloc ?_ ?_ _ | with_reducible refine Below.setCell ?_ ?_ _ | with_reducible refine Below.trans ?_ (Below.mono (by with_reducible assumption) ?_) | (simp; done) | (simp; omega) | omega))) (ints_oneCell .i64 _) (by unfold maxLen; omega) (by omega) (by first | (simp; done) | (simp; omega)) ?_
                 intro v1 w1 hown1 hg1 hat1
                 simp only [Nat.zero_add, List.nil_append] at hown1
                 have HbA : Hid (Below w.heap.size w w1) := Below.grown (by exact (by repeat' (first | with_reducible exact Below.refl _ _ | with_reducible refine below_drewN ?_ _ | with_reducible refine Below.drew ?_ | with_reducible refine Below.alloc ?_ ?_ _ | with_reducible refine Below.setCell ?_ ?_ _ | with_reducible refine Below.trans ?_ (Below.mono (by with_reducible assumption) ?_) | (simp; done) | (simp; omega) | omega))) hg1 (by first | (simp; done) | (simp; omega) | omega) (fun q hq => by injection hq with hq; subst hq; exact Nat.le_succ _)
                 have hsA : w.heap.size ≤ w1.heap.size := HbA.out.size
                 have Hg1 := Lib.hid hg1
                 have Hown1 := Lib.hid hown1
                 clear hown1 hg1 hat1)
              | fail)
          all_goals
            go_wp2
            go_ret
            exact ⟨A3, _, c3, rfl, by rw [Hput.out]; exact HS.out.cast (by simp; omega), HbC.out⟩
    · have Hput : Hid (putL l v = l.take k ++ v :: l.drop k) := Lib.hid (putL_split l v k (by omega) Hlt.out (fun y hy => by rw [List.getElem?_eq_none (by omega)] at hy; cases hy))
      have hkn' : ¬ (k : Int) < (n : Int) := by omega
      go_upto_region 6 with fail
      by_cases hck : c = k
      · have hk1 : k = c := hck.symm
        subst hk1
        have hk2 : k = n := (by omega)
        subst hk2
        have HA1 : Hid (Reads w w.heap.size 1 (some ⟨b, off, none⟩) k ((l.take k).map (.int .i64))) := Lib.hid (reads_take HR.out hk)
        have HA2 : Hid (Reads w w.heap.size 1 (some ⟨b, off, none⟩) 0 ((l.drop k).map (.int .i64))) := Lib.hid (by rw [List.drop_eq_nil_of_le (by omega)]; exact reads_take (k := 0) HR.out (Nat.zero_le _))
        have hk0 : (0 : Int) ≤ (k : Int) := by omega
        have htk : (l.take k).length = k := by simp; omega
        have hdk : (l.drop k).length = 0 := by simp; omega
        generalize l.take k = l1 at *
        generalize l.drop k = l2 at *
        go_region_held3 (fun w' => True)
          (first | trivial)
          (first
            | (refine step_append_any _ rfl (.tmp 40) (.tmp 43) 22 rfl w.heap.size 3 i0 (.int .i64 0) 1 8 Tryz.underlying22 hi hz0 hz1 hz2 rfl (by omega) v2 (k + 1) ((l1 ++ [v]).map (.int .i64)) rfl (by exact Hown2.out) w.heap.size (some ⟨b, off, none⟩) 0 0 (l2.map (.int .i64)) rfl (HA2.out.below (by exact HbB.out)) (ints_oneCell .i64 _) (by unfold maxLen; omega) (by omega) (by exact hsB) ?_
               intro v3 w3 hown3 hg3 hat3
               have HbC : Hid (Below w.heap.size w w3) := Below.grown HbB.out hg3 hsB (own_base Hown2.out)
               have Hown3 : Hid (w3.ownsRow w.heap.size 3 1 v3 (l1 ++ v :: l2).length ((l1 ++ v :: l2).map (.int .i64))) := Lib.hid (show w3.ownsRow w.heap.size 3 1 v3 (l1 ++ v :: l2).length ((l1 ++ v :: l2).map (.int .i64)) from (by
                 have e1 : (l1 ++ v :: l2).length = k + 1 + 0 := by simp; omega
                 have e2 : (l1 ++ v :: l2).map (Value.int .i64) = (l1 ++ [v]).map (Value.int .i64) ++ l2.map (Value.int .i64) := by simp
                 rw [e1, e2]; exact hown3))
               obtain ⟨A3, c3, rfl, hS⟩ := SlI.of_own Hown3.out
               have HS := Lib.hid hS
               clear hown3 hg3 hat3 Hown3 hS)
            | (refine step_append_any _ rfl (.tmp 37) (.tmp 39) 22 rfl w.heap.size 3 i0 (.int .i64 0) 1 8 Tryz.underlying22 hi hz0 hz1 hz2 rfl (by omega) v1 k (l1.map (.int .i64)) rfl (by first | exact Hown1.out | exact ownsRow_below Hown1.out (by repeat' (first | with_reducible exact Below.refl _ _ | with_reducible refine below_drewN ?_ _ | with_reducible refine Below.drew ?_ | with_reducible refine Below.alloc ?_ ?_ _ | with_reducible refine Below.setCell ?_ ?_ _ | with_reducible refine Below.trans ?_ (Below.mono (by with_reducible assumption) ?_) | (simp; done) | (simp; omega) | omega))) _ _ 1 1 [.int .i64 v] rfl ⟨rfl, fun _ => ⟨_, rfl, Nat.lt_succ_self _, fun j u hu => (by first | exact news_any _ _ _ j u hu | exact news_far (cs := #[.int .i64 v]) (t := 3) (alloc_second w _ _) Hg1.out (by simp [Value.ownBlock]) j u hu | exact news_far (cs := #[.int .i64 v]) (t := 3) (alloc_first w _ _) Hg1.out (by simp [Value.ownBlock]) j u hu)⟩⟩ (by simp [Value.oneCell']) (by unfold maxLen; omega) (by omega) (by first | exact hsA | (simp; omega)) ?_
               intro v2 w2 hown2 hg2 hat2
               have HbB : Hid (Below w.heap.size w w2) := Below.grown (by have hbA := HbA.out; exact (by repeat' (first | with_reducible exact Below.refl _ _ | with_reducible assumption | with_reducible refine below_drewN ?_ _ | with_reducible refine Below.drew ?_ | with_reducible refine Below.alloc ?_ ?_ _ | with_reducible refine Below.setCell ?_ ?_ _ | with_reducible refine Below.trans ?_ (Below.mono (by with_reducible assumption) ?_) | with_reducible refine below_only ?_ (by with_reducible assumption) ?_ ?_ | (simp; done) | (simp; omega) | omega))) hg2 (by first | (simp; done) | (simp; omega) | omega) (own_base Hown1.out)
               have hsB : w.heap.size ≤ w2.heap.size := HbB.out.size
               have Hown2 : Hid (w2.ownsRow w.heap.size 3 1 v2 (k + 1) ((l1 ++ [v]).map (.int .i64))) := Lib.hid (show w2.ownsRow w.heap.size 3 1 v2 (k + 1) ((l1 ++ [v]).map (.int .i64)) from (by rw [List.map_append]; exact hown2))
               clear hown2 hg2 hat2)
            | (refine step_append_any _ rfl (.tmp 33) (.tmp 36) 22 rfl w.heap.size 3 i0 (.int .i64 0) 1 8 Tryz.underlying22 hi hz0 hz1 hz2 rfl (by omega) (.slice (some ⟨w.heap.size, 0, none⟩) 0 0) 0 [] rfl (by first | exact own_zero w _ _ _ (Nat.le_refl _) | exact ownsRow_below (own_zero w _ _ _ (Nat.le_refl _)) (by repeat' (first | with_reducible exact Below.refl _ _ | with_reducible refine below_drewN ?_ _ | with_reducible refine Below.drew ?_ | with_reducible refine Below.alloc ?_ ?_ _ | with_reducible refine Below.setCell ?_ ?_ _ | with_reducible refine Below.trans ?_ (Below.mono (by with_reducible assumption) ?_) | (simp; done) | (simp; omega) | omega))) w.heap.size (some ⟨b, off, none⟩) k _ (l1.map (.int .i64)) rfl (HA1.out.below (by repeat' (first | with_reducible exact Below.refl _ _ | with_reducible refine below_drewN ?_ _ | with_reducible refine Below.drew ?_ | with_reducible refine Below.alloc ?_ ?_ _ | with_reducible refine Below.setCell ?_ ?_ _ | with_reducible refine Below.trans ?_ (Below.mono (by with_reducible assumption) ?_) | (simp; done) | (simp; omega) | omega))) (ints_oneCell .i64 _) (by unfold maxLen; omega) (by omega) (by first | (simp; done) | (simp; omega)) ?_
               intro v1 w1 hown1 hg1 hat1
               simp only [Nat.zero_add, List.nil_append] at hown1
               have HbA : Hid (Below w.heap.size w w1) := Below.grown (by exact (by repeat' (first | with_reducible exact Below.refl _ _ | with_reducible refine below_drewN ?_ _ | with_reducible refine Below.drew ?_ | with_reducible refine Below.alloc ?_ ?_ _ | with_reducible refine Below.setCell ?_ ?_ _ | with_reducible refine Below.trans ?_ (Below.mono (by with_reducible assumption) ?_) | (simp; done) | (simp; omega) | omega))) hg1 (by first | (simp; done) | (simp; omega) | omega) (fun q hq => by injection hq with hq; exact Nat.le_of_eq hq)
               have hsA : w.heap.size ≤ w1.heap.size := HbA.out.size
               have Hg1 := Lib.hid hg1
               have Hown1 := Lib.hid hown1
               clear hown1 hg1 hat1)
            | (refine step_append_any _ rfl (.tmp 33) (.tmp 36) 22 rfl w.heap.size 3 i0 (.int .i64 0) 1 8 Tryz.underlying22 hi hz0 hz1 hz2 rfl (by omega) (.slice (some ⟨w.heap.size + 1, 0, none⟩) 0 0) 0 [] rfl (by exact own_zero1 w _ _ _ _ (Nat.le_refl _)) w.heap.size (some ⟨b, off, none⟩) k _ (l1.map (.int .i64)) rfl (HA1.out.below (by repeat' (first | with_reducible exact Below.refl _ _ | with_reducible refine below_drewN ?_ _ | with_reducible refine Below.drew ?_ | with_reducible refine Below.alloc ?_ ?_ _ | with_reducible refine Below.setCell ?_ ?_ _ | with_reducible refine Below.trans ?_ (Below.mono (by with_reducible assumption) ?_) | (simp; done) | (simp; omega) | omega))) (ints_oneCell .i64 _) (by unfold maxLen; omega) (by omega) (by first | (simp; done) | (simp; omega)) ?_
               intro v1 w1 hown1 hg1 hat1
               simp only [Nat.zero_add, List.nil_append] at hown1
               have HbA : Hid (Below w.heap.size w w1) := Below.grown (by exact (by repeat' (first | with_reducible exact Below.refl _ _ | with_reducible refine below_drewN ?_ _ | with_reducible refine Below.drew ?_ | with_reducible refine Below.alloc ?_ ?_ _ | with_reducible refine Below.setCell ?_ ?_ _ | with_reducible refine Below.trans ?_ (Below.mono (by with_reducible assumption) ?_) | (simp; done) | (simp; omega) | omega))) hg1 (by first | (simp; done) | (simp; omega) | omega) (fun q hq => by injection hq with hq; subst hq; exact Nat.le_succ _)
               have hsA : w.heap.size ≤ w1.heap.size := HbA.out.size
               have Hg1 := Lib.hid hg1
               have Hown1 := Lib.hid hown1
               clear hown1 hg1 hat1)
            | fail)
        all_goals
          go_wp2
          go_ret
          exact ⟨A3, _, c3, rfl, by rw [Hput.out]; exact HS.out.cast (by simp; omega), HbC.out⟩
      · have hck2 : ¬ (c : Int) = (k : Int) := (by omega)
        have HA1 : Hid (Reads w w.heap.size 1 (some ⟨b, off, none⟩) k ((l.take k).map (.int .i64))) := Lib.hid (reads_take HR.out hk)
        have HA2 : Hid (Reads w w.heap.size 1 (some ⟨b, off + k, none⟩) (n - k) ((l.drop k).map (.int .i64))) := Lib.hid (by have h9 := reads_drop HR.out hk hc; rw [if_neg hck] at h9; exact h9)
        have hkc : (k : Int) ≤ (c : Int) := by omega
        have hkn2 : (k : Int) ≤ (n : Int) := by omega
        have hk0 : (0 : Int) ≤ (k : Int) := by omega
        have htk : (l.take k).length = k := by simp; omega
        have hdk : (l.drop k).length = n - k := by simp; omega
        generalize l.take k = l1 at *
        generalize l.drop k = l2 at *
        go_region_held3 (fun w' => True)
          (first | trivial)
          (first
            | (refine step_append_any _ rfl (.tmp 40) (.tmp 43) 22 rfl w.heap.size 3 i0 (.int .i64 0) 1 8 Tryz.underlying22 hi hz0 hz1 hz2 rfl (by omega) v2 (k + 1) ((l1 ++ [v]).map (.int .i64)) rfl (by exact Hown2.out) w.heap.size (some ⟨b, off + k, none⟩) (n - k) _ (l2.map (.int .i64)) rfl (HA2.out.below (by exact HbB.out)) (ints_oneCell .i64 _) (by unfold maxLen; omega) (by omega) (by exact hsB) ?_
               intro v3 w3 hown3 hg3 hat3
               have HbC : Hid (Below w.heap.size w w3) := Below.grown HbB.out hg3 hsB (own_base Hown2.out)
               have Hown3 : Hid (w3.ownsRow w.heap.size 3 1 v3 (l1 ++ v :: l2).length ((l1 ++ v :: l2).map (.int .i64))) := Lib.hid (show w3.ownsRow w.heap.size 3 1 v3 (l1 ++ v :: l2).length ((l1 ++ v :: l2).map (.int .i64)) from (by
                 have e1 : (l1 ++ v :: l2).length = k + 1 + (n - k) := by simp; omega
                 have e2 : (l1 ++ v :: l2).map (Value.int .i64) = (l1 ++ [v]).map (Value.int .i64) ++ l2.map (Value.int .i64) := by simp
                 rw [e1, e2]; exact hown3))
               obtain ⟨A3, c3, rfl, hS⟩ := SlI.of_own Hown3.out
               have HS := Lib.hid hS
               clear hown3 hg3 hat3 Hown3 hS)
            | (refine step_append_any _ rfl (.tmp 37) (.tmp 39) 22 rfl w.heap.size 3 i0 (.int .i64 0) 1 8 Tryz.underlying22 hi hz0 hz1 hz2 rfl (by omega) v1 k (l1.map (.int .i64)) rfl (by first | exact Hown1.out | exact ownsRow_below Hown1.out (by repeat' (first | with_reducible exact Below.refl _ _ | with_reducible refine below_drewN ?_ _ | with_reducible refine Below.drew ?_ | with_reducible refine Below.alloc ?_ ?_ _ | with_reducible refine Below.setCell ?_ ?_ _ | with_reducible refine Below.trans ?_ (Below.mono (by with_reducible assumption) ?_) | (simp; done) | (simp; omega) | omega))) _ _ 1 1 [.int .i64 v] rfl ⟨rfl, fun _ => ⟨_, rfl, Nat.lt_succ_self _, fun j u hu => (by first | exact news_any _ _ _ j u hu | exact news_far (cs := #[.int .i64 v]) (t := 3) (alloc_second w _ _) Hg1.out (by simp [Value.ownBlock]) j u hu | exact news_far (cs := #[.int .i64 v]) (t := 3) (alloc_first w _ _) Hg1.out (by simp [Value.ownBlock]) j u hu)⟩⟩ (by simp [Value.oneCell']) (by unfold maxLen; omega) (by omega) (by first | exact hsA | (simp; omega)) ?_
               intro v2 w2 hown2 hg2 hat2
               have HbB : Hid (Below w.heap.size w w2) := Below.grown (by have hbA := HbA.out; exact (by repeat' (first | with_reducible exact Below.refl _ _ | with_reducible assumption | with_reducible refine below_drewN ?_ _ | with_reducible refine Below.drew ?_ | with_reducible refine Below.alloc ?_ ?_ _ | with_reducible refine Below.setCell ?_ ?_ _ | with_reducible refine Below.trans ?_ (Below.mono (by with_reducible assumption) ?_) | with_reducible refine below_only ?_ (by with_reducible assumption) ?_ ?_ | (simp; done) | (simp; omega) | omega))) hg2 (by first | (simp; done) | (simp; omega) | omega) (own_base Hown1.out)
               have hsB : w.heap.size ≤ w2.heap.size := HbB.out.size
               have Hown2 : Hid (w2.ownsRow w.heap.size 3 1 v2 (k + 1) ((l1 ++ [v]).map (.int .i64))) := Lib.hid (show w2.ownsRow w.heap.size 3 1 v2 (k + 1) ((l1 ++ [v]).map (.int .i64)) from (by rw [List.map_append]; exact hown2))
               clear hown2 hg2 hat2)
            | (refine step_append_any _ rfl (.tmp 33) (.tmp 36) 22 rfl w.heap.size 3 i0 (.int .i64 0) 1 8 Tryz.underlying22 hi hz0 hz1 hz2 rfl (by omega) (.slice (some ⟨w.heap.size, 0, none⟩) 0 0) 0 [] rfl (by first | exact own_zero w _ _ _ (Nat.le_refl _) | exact ownsRow_below (own_zero w _ _ _ (Nat.le_refl _)) (by repeat' (first | with_reducible exact Below.refl _ _ | with_reducible refine below_drewN ?_ _ | with_reducible refine Below.drew ?_ | with_reducible refine Below.alloc ?_ ?_ _ | with_reducible refine Below.setCell ?_ ?_ _ | with_reducible refine Below.trans ?_ (Below.mono (by with_reducible assumption) ?_) | (simp; done) | (simp; omega) | omega))) w.heap.size (some ⟨b, off, none⟩) k _ (l1.map (.int .i64)) rfl (HA1.out.below (by repeat' (first | with_reducible exact Below.refl _ _ | with_reducible refine below_drewN ?_ _ | with_reducible refine Below.drew ?_ | with_reducible refine Below.alloc ?_ ?_ _ | with_reducible refine Below.setCell ?_ ?_ _ | with_reducible refine Below.trans ?_ (Below.mono (by with_reducible assumption) ?_) | (simp; done) | (simp; omega) | omega))) (ints_oneCell .i64 _) (by unfold maxLen; omega) (by omega) (by first | (simp; done) | (simp; omega)) ?_
               intro v1 w1 hown1 hg1 hat1
               simp only [Nat.zero_add, List.nil_append] at hown1
               have HbA : Hid (Below w.heap.size w w1) := Below.grown (by exact (by repeat' (first | with_reducible exact Below.refl _ _ | with_reducible refine below_drewN ?_ _ | with_reducible refine Below.drew ?_ | with_reducible refine Below.alloc ?_ ?_ _ | with_reducible refine Below.setCell ?_ ?_ _ | with_reducible refine Below.trans ?_ (Below.mono (by with_reducible assumption) ?_) | (simp; done) | (simp; omega) | omega))) hg1 (by first | (simp; done) | (simp; omega) | omega) (fun q hq => by injection hq with hq; exact Nat.le_of_eq hq)
               have hsA : w.heap.size ≤ w1.heap.size := HbA.out.size
               have Hg1 := Lib.hid hg1
               have Hown1 := Lib.hid hown1
               clear hown1 hg1 hat1)
            | (refine step_append_any _ rfl (.tmp 33) (.tmp 36) 22 rfl w.heap.size 3 i0 (.int .i64 0) 1 8 Tryz.underlying22 hi hz0 hz1 hz2 rfl (by omega) (.slice (some ⟨w.heap.size + 1, 0, none⟩) 0 0) 0 [] rfl (by exact own_zero1 w _ _ _ _ (Nat.le_refl _)) w.heap.size (some ⟨b, off, none⟩) k _ (l1.map (.int .i64)) rfl (HA1.out.below (by repeat' (first | with_reducible exact Below.refl _ _ | with_reducible refine below_drewN ?_ _ | with_reducible refine Below.drew ?_ | with_reducible refine Below.alloc ?_ ?_ _ | with_reducible refine Below.setCell ?_ ?_ _ | with_reducible refine Below.trans ?_ (Below.mono (by with_reducible assumption) ?_) | (simp; done) | (simp; omega) | omega))) (ints_oneCell .i64 _) (by unfold maxLen; omega) (by omega) (by first | (simp; done) | (simp; omega)) ?_
               intro v1 w1 hown1 hg1 hat1
               simp only [Nat.zero_add, List.nil_append] at hown1
               have HbA : Hid (Below w.heap.size w w1) := Below.grown (by exact (by repeat' (first | with_reducible exact Below.refl _ _ | with_reducible refine below_drewN ?_ _ | with_reducible refine Below.drew ?_ | with_reducible refine Below.alloc ?_ ?_ _ | with_reducible refine Below.setCell ?_ ?_ _ | with_reducible refine Below.trans ?_ (Below.mono (by with_reducible assumption) ?_) | (simp; done) | (simp; omega) | omega))) hg1 (by first | (simp; done) | (simp; omega) | omega) (fun q hq => by injection hq with hq; subst hq; exact Nat.le_succ _)
               have hsA : w.heap.size ≤ w1.heap.size := HbA.out.size
               have Hg1 := Lib.hid hg1
               have Hown1 := Lib.hid hown1
               clear hown1 hg1 hat1)
            | fail)
        all_goals
          go_wp2
          go_ret
          exact ⟨A3, _, c3, rfl, by rw [Hput.out]; exact HS.out.cast (by simp; omega), HbC.out⟩

/-- Put, of what Put has made or of nil. -/
theorem put_any (A : Option Addr) (n c : Nat) (l : List Int) (v : Int) (w : World) (h : SlI w A n c l) (hb : n ≤ 1000000) (h0 : n = 0 → A = none ∧ c = 0) :
    Calls Tryz.prog 57 #[.slice A n c, .int .i64 v] w (IntsPost w (putL l v)) := by
  rcases Nat.eq_zero_or_pos n with hn | hn
  · obtain ⟨rfl, rfl⟩ := h0 hn
    subst hn
    obtain rfl : l = [] := List.length_eq_zero_iff.1 h.len
    exact put_nil 0 v w
  · obtain ⟨b, off, rfl, _⟩ := h.lies.resolve_left (by omega)
    exact put_some b off n c l v w h hb hn
end Go.Proofs.YtpcfhcdbibklcaaGreat
