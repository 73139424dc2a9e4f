/- Contracts: Sum, put, Right, Record, Total (reference), Total (payments). -/
import Derived.Test.YtbkfdpdcnjecbaaP2
namespace Go.Proofs.Ytbkfdpdcnjecbaa
open Go.RowKit
set_option linter.unusedVariables false

set_option maxHeartbeats 400000 in
theorem sumR_any (A : Option Addr) (n c : Nat) (xs : List Int) (w : World) (hx : xs.length = n) (hn : n ≤ maxLen) (hb : Bytes xs) (hA : Lies w A n (xs.map (.int .u8))) :
    Calls Try.prog 32 #[.slice A n c] w fun e w' => e = .returned (.int .i64 (sumB xs)) ∧ w = w' := by
  unfold maxLen at hn
  have Hx := Lib.hid hx
  have HA := Lib.hid hA
  clear hx hA
  go_enter Try.func32, Try.ntmps32
  go_wp2
  go_loop [3, 4] (fun s i => ∃ k : Nat, k ≤ n ∧ i = .int .i64 (k : Int) ∧ s = .int .i64 (sumB (xs.take k))) (fun _ i => n - (intOf i).toNat)
  case atStart => exact ⟨0, Nat.zero_le _, rfl, rfl⟩
  case round =>
    obtain ⟨k, hk, rfl, rfl⟩ := hrel
    have hbd := sumB_bd (xs.take k) (hb.take k)
    by_cases hkn : k < n
    · have hl : k < xs.length := by have := Hx.out; omega
      obtain ⟨b, off, rfl, hbl, c1⟩ := lies_u8 HA.out k hkn hl
      have hby := hb xs[k] (List.getElem_mem hl)
      have Hs : Hid (sumB (xs.take (k + 1)) = (31 * sumB (xs.take k) + xs[k] + 1) % 65521) := by
        show sumB (xs.take (k + 1)) = _
        rw [List.take_succ_eq_append_getElem hl, sumB_snoc]
      generalize xs[k] = x at *
      generalize sumB (xs.take k) = s at *
      go_wp2
      go_round
      case rel => exact ⟨k + 1, by omega, by go_num, by rw [Hs.out]⟩
      case measure => simp [intOf]; omega
    · have e1 : Hid (xs.take k = xs) := List.take_of_length_le (by have := Hx.out; omega)
      rw [e1.out]
      clear hbd
      go_wp2
      go_ret
      exact ⟨rfl, rfl⟩

set_option maxHeartbeats 400000 in
theorem putR_any (base : Nat) (v : Value) (xs : List Int) (n : Int) (width : Nat) (w : World) (hown : w.ownsRow base 5 1 v xs.length (xs.map (.int .u8))) (hbase : base ≤ w.heap.size) (hn : 0 ≤ n ∧ n ≤ 9223372036854775807) (hw : width ≤ 8) (hx : xs.length ≤ 1000000) :
    Calls Try.prog 43 #[v, .int .i64 n, .int .i64 (width : Int)] w (PutPost w base (xs ++ be n width)) := by
  obtain ⟨i0, hi, hz0, hz1, hz2⟩ := info_parts Try.infoByte
  have Hown := Lib.hid hown
  clear hown
  go_enter Try.func43, Try.ntmps43
  go_wp2
  go_loopw [0, 7] (fun b k wr => ∃ m j : Nat, m + j = width ∧ k = .int .i64 ((j : Int) - 1) ∧ wr.ownsRow base 5 1 b (xs.length + m) ((xs ++ (be n width).take m).map (.int .u8)) ∧ Below base w wr) (fun _ k _ => (intOf k + 1).toNat)
  case atStart => exact ⟨0, width, by omega, rfl, by simpa using Hown.out, Below.refl _ _⟩
  case round =>
    obtain ⟨m, j, hmj, rfl, hown, hbr⟩ := hrel
    have hsr := hbr.size
    by_cases hj : 0 < j
    · obtain ⟨j, rfl⟩ : ∃ i, j = i + 1 := ⟨j - 1, by omega⟩
      have Hmj := Lib.hid hmj
      have hm8 : m ≤ 7 := by omega
      have hj7 : j ≤ 7 := by omega
      clear hmj
      have Ht : Hid ((be n width).take (m + 1) = (be n width).take m ++ [n / 2 ^ (8 * j) % 256]) := by
        show (be n width).take (m + 1) = _
        rw [← Hmj.out]
        exact be_take n m j
      have ej : Hid (((j + 1 : Nat) : Int) - 1 = (j : Int)) := by show ((j + 1 : Nat) : Int) - 1 = (j : Int); omega
      rw [ej.out]
      have Hown1 := Lib.hid hown
      clear hown
      generalize hbv : n / 2 ^ (8 * j) % 256 = bv at *
      go_wp2_with (at_builtin
                   refine wpList_append_lies _ rfl _ _ 26 rfl base 5 i0 (.int .u8 0) 1 1 Try.underlying26 hi hz0 hz1 hz2 rfl (by omega) _ (xs.length + m) ((xs ++ (be n width).take m).map (.int .u8)) rfl (Hown1.out.alloc _) ⟨wr.heap.size, 0, none⟩ 1 1 [.int .u8 bv] rfl rfl (World.news_of_block (cs := #[.int .u8 bv]) (t := 5) (fr := (0, 0)) (heap_alloc_new wr _)) ?_ (by omega) ?_ ?_ ?_ (wr.heap.size + 1) ?_ ?_
                   · simp [Value.oneCell']
                   · unfold maxLen; omega
                   · omega
                   · simp; omega
                   · simp
                   intro gg cap w9 hown9 hgrow hat hltg)
      go_roundw
      case rel =>
        have hgr : (wr.alloc (Obj.cells #[Value.int IntKind.u8 bv] 5)).grownBy w9 u0.ownBlock := hgrow
        refine ⟨m + 1, j, by have := Hmj.out; omega, rfl, ?_, ?_⟩
        · rw [Ht.out, ← List.append_assoc, List.map_append]
          exact hown9
        · exact Below.grown (hbr.alloc (by omega) _) hgr (by simp; omega) (own_base Hown1.out)
      case measure => simp [intOf]
    · obtain rfl : j = 0 := by omega
      have Hown1 : Hid (wr.ownsRow base 5 1 u0 (xs ++ be n width).length ((xs ++ be n width).map (.int .u8))) := by
        show World.ownsRow _ _ _ _ _ _ _
        have e1 : m = width := by omega
        subst e1
        rw [List.take_of_length_le (by rw [be_len]; omega)] at hown
        rw [List.length_append, be_len]
        exact hown
      clear hown
      go_wp2
      go_ret
      exact ⟨_, rfl, Hown1.out, hbr⟩

set_option maxHeartbeats 400000 in
theorem rightR_any (o : Ord4) (w : World) :
    Calls Try.prog 42 #[.agg #[.int .i64 o.n, .int .i64 o.f, .int .i64 o.a, .int .i64 o.d]] w fun e w' => e = .returned (.bool (rightB o)) ∧ Below w.heap.size w w' := by
  go_enter Try.func42, Try.ntmps42
  go_wp2
  all_goals
    go_ret
    exact ⟨ret_bool (by first | (simp_all [rightB_iff]; done) | (simp [rightB_iff]; omega)), (by repeat' (first | with_reducible exact Below.refl _ _ | with_reducible refine below_drewN ?_ _ | with_reducible refine Below.drew ?_ | with_reducible refine Below.alloc ?_ ?_ _ | with_reducible refine Below.setCell ?_ ?_ _ | with_reducible refine Below.trans ?_ (Below.mono (by with_reducible assumption) ?_) | (simp; done) | (simp; omega) | omega))⟩

set_option maxHeartbeats 800000 in
theorem recordR_any (o : Ord4) (w : World) :
    Calls Try.prog 33 #[.agg #[.int .i64 o.n, .int .i64 o.f, .int .i64 o.a, .int .i64 o.d]] w fun e w' => ∃ v, e = .returned (.tuple #[v, .int .i64 (if rightB o then 0 else 75)]) ∧ w'.ownsRow w.heap.size 5 1 v (if rightB o then recB o else []).length ((if rightB o then recB o else []).map (.int .u8)) ∧ Below w.heap.size w w' := by
  have Hb := Lib.hid (bodyB_bytes o)
  have Hs := Lib.hid (sumB_bd (bodyB o) (bodyB_bytes o))
  have Hbl := Lib.hid (bodyB_len o)
  go_enter Try.func33, Try.ntmps33
  go_wp2_with fail
  refine (rightR_any o _).mono ?_
  rintro e w1 ⟨rfl, hb1⟩
  obtain ⟨hc1, hf1⟩ := bcell hb1
  have hl1 : w.heap.size < w1.heap.size := by have := hb1.size; simp at this; omega
  rcases hr : rightB o with _ | _
  · go_wp2
    all_goals
      go_ret2
      exact ⟨_, rfl, World.ownsRow_nil _ _ _ _, (by repeat' (first | with_reducible exact Below.refl _ _ | with_reducible refine below_drewN ?_ _ | with_reducible refine Below.drew ?_ | with_reducible refine Below.alloc ?_ ?_ _ | with_reducible refine Below.setCell ?_ ?_ _ | with_reducible refine Below.trans ?_ (Below.mono (by with_reducible assumption) ?_) | (simp; done) | (simp; omega) | omega))⟩
  · obtain ⟨⟨h1, h2⟩, ⟨h3, h4⟩, ⟨h5, h6⟩, h7, h8⟩ := (rightB_iff o).1 hr
    have hB1 : Below w.heap.size w w1 := (by repeat' (first | with_reducible exact Below.refl _ _ | with_reducible refine below_drewN ?_ _ | with_reducible refine Below.drew ?_ | with_reducible refine Below.alloc ?_ ?_ _ | with_reducible refine Below.setCell ?_ ?_ _ | with_reducible refine Below.trans ?_ (Below.mono (by with_reducible assumption) ?_) | (simp; done) | (simp; omega) | omega))
    have c0 : w1.cell? ⟨w.heap.size, 0, none⟩ = some (.int .i64 o.n) := by rw [hc1 _ _ (by simp)]; go_simp
    have c1 : w1.cell? ⟨w.heap.size, 1, none⟩ = some (.int .i64 o.f) := by rw [hc1 _ _ (by simp)]; go_simp
    have c2 : w1.cell? ⟨w.heap.size, 2, none⟩ = some (.int .i64 o.a) := by rw [hc1 _ _ (by simp)]; go_simp
    have c3 : w1.cell? ⟨w.heap.size, 3, none⟩ = some (.int .i64 o.d) := by rw [hc1 _ _ (by simp)]; go_simp
    clear hc1 hf1 hb1
    go_wp2_with fail
    go_region_held3 (fun w' => w'.cell? ⟨w.heap.size, 0, none⟩ = some (.int .i64 o.n) ∧ w'.cell? ⟨w.heap.size, 1, none⟩ = some (.int .i64 o.f) ∧ w'.cell? ⟨w.heap.size, 2, none⟩ = some (.int .i64 o.a) ∧ w'.cell? ⟨w.heap.size, 3, none⟩ = some (.int .i64 o.d))
      (first
        | go_keep
        | (refine ⟨?_, ?_, ?_, ?_⟩ <;> (rw [kD]; go_keep))
        | (refine ⟨?_, ?_, ?_, ?_⟩ <;> (rw [kC]; go_keep))
        | (refine ⟨?_, ?_, ?_, ?_⟩ <;> (rw [kB]; go_keep))
        | (refine ⟨?_, ?_, ?_, ?_⟩ <;> (rw [kA]; go_keep)))
      (first
        | (go_at_call_of 43 (o.d); refine (putR_any w1.heap.size _ (recPre o 3) o.d 8 _ (by exact hownC) (by have q1 := hbA.size; have q2 := hbB.size; have q3 := hbC.size; first | omega | (simp at q1 q2 q3 ⊢; omega)) (by omega) (by omega) (by rw [recPre_len]; decide)).mono ?_; rintro e wD ⟨vD, rfl, hownD, hbD⟩; have kD := fun i => hbD.cell (p := ⟨w.heap.size, i, none⟩) hl1)
        | (go_at_call_of 43 (o.a); refine (putR_any w1.heap.size _ (recPre o 2) o.a 8 _ (by exact hownB) (by have q1 := hbA.size; have q2 := hbB.size; first | omega | (simp at q1 q2 ⊢; omega)) (by omega) (by omega) (by rw [recPre_len]; decide)).mono ?_; rintro e wC ⟨vC, rfl, hownC, hbC⟩; have kC := fun i => hbC.cell (p := ⟨w.heap.size, i, none⟩) hl1)
        | (go_at_call_of 43 (o.f); refine (putR_any w1.heap.size _ (recPre o 1) o.f 2 _ (by exact hownA) (by have q1 := hbA.size; first | omega | (simp at q1 ⊢; omega)) (by omega) (by omega) (by rw [recPre_len]; decide)).mono ?_; rintro e wB ⟨vB, rfl, hownB, hbB⟩; have kB := fun i => hbB.cell (p := ⟨w.heap.size, i, none⟩) hl1)
        | (go_at_call_of 43 (o.n); refine (putR_any w1.heap.size _ (recPre o 0) o.n 8 _ (World.ownsRow_nil _ _ _ _) (by first | (simp; done) | (simp; omega) | omega) (by omega) (by omega) (by rw [recPre_len]; decide)).mono ?_; rintro e wA ⟨vA, rfl, hownA, hbA⟩; have kA := fun i => hbA.cell (p := ⟨w.heap.size, i, none⟩) hl1))
    clear c0 c1 c2 c3 kA kB kC kD
    have hbD0 : Below w1.heap.size w1 wD := (by repeat' (first | with_reducible exact Below.refl _ _ | with_reducible refine below_drewN ?_ _ | with_reducible refine Below.drew ?_ | with_reducible refine Below.alloc ?_ ?_ _ | with_reducible refine Below.setCell ?_ ?_ _ | with_reducible refine Below.trans ?_ (Below.mono (by with_reducible assumption) ?_) | (simp; done) | (simp; omega) | omega))
    have hown : wD.ownsRow w1.heap.size 5 1 vD (bodyB o).length ((bodyB o).map (.int .u8)) := hownD
    have hsD := hbD0.size
    clear hownA hownB hownC hownD hbA hbB hbC hbD
    have Hown := Lib.hid hown
    clear hown
    obtain ⟨A, c, rfl, hlies, hnc, hcm⟩ := own_slice Hown.out
    have Hlies := Lib.hid hlies
    clear hlies
    go_wp2_with fail
    refine (sumR_any A _ c (bodyB o) _ rfl (by rw [Hbl.out]; decide) Hb.out Hlies.out).mono ?_
    rintro e w' ⟨rfl, rfl⟩
    go_wp2_with fail
    refine (putR_any w1.heap.size _ (bodyB o) (sumB (bodyB o)) 2 _ Hown.out hsD (by have := Hs.out; omega) (by omega) (by rw [Hbl.out]; decide)).mono ?_
    rintro e w3 ⟨v3, rfl, hown3, hb3⟩
    go_wp2
    go_ret2
    exact ⟨v3, rfl, own_mono hown3 (by omega), hB1.trans ((hbD0.trans hb3).mono (by omega))⟩
end Go.Proofs.Ytbkfdpdcnjecbaa
