/- Contract: whether two lists of picks are the same (the reference of strata). -/
import Derived.Test.YtjmbdfoegnfpnaaK3
import Derived.Test.YtjmbdfoegnfpnaaDB
namespace Go.Proofs.Ytjmbdfoegnfpnaa
open Go.RowKit
set_option linter.unusedVariables false
set_option linter.unusedSimpArgs false

theorem kGuard (w : World) (x y : Operand) (op : BinOp) (xs ys : Array Value) : (eqGuard op 55 x y (.agg xs) (.agg ys)).run Try.prog w = .ok () w := run_eqGuard_agg w op _ x y xs ys (by kernel_rfl)
theorem kFields : Try.prog.fieldsOf 55 = #[{ name := "Farm", type := 3, offset := 0, embedded := false, tag := "", pkgPath := "", byteOffset := 0 }, { name := "Stratum", type := 3, offset := 1, embedded := false, tag := "", pkgPath := "", byteOffset := 8 }] := by kernel_rfl
theorem kEqualIn (w : World) (k : Nat) (a b a' b' : Int) : (Op.equalIn (k + 2) 55 (.agg #[.int .i64 a, .int .i64 b]) (.agg #[.int .i64 a', .int .i64 b'])).run Try.prog w = .ok (a == a' && b == b') w := by
  have ci : Try.prog.cellsOf 3 = 1 := by kernel_rfl
  have h3 : ∀ (x y : Int) (w : World), (Op.equalIn (k + 1) 3 (.int .i64 x) (.int .i64 y)).run Try.prog w = .ok (x == y) w := fun x y w => run_equalIn_int w k 3 .i64 .i64 x y Try.underlying3
  rw [run_equalIn_agg w (k + 1) _ _ _ (by kernel_rfl) (by kernel_rfl), kFields]
  cases h1 : a == a' <;> cases h2 : b == b' <;> simp [Op.eqFields, go_sem, h3, h1, h2]
theorem k_neq (w : World) (a b a' b' : Int) : (binOp .neq 55 (.agg #[.int .i64 a, .int .i64 b]) (.agg #[.int .i64 a', .int .i64 b'])).run Try.prog w = .ok (.bool (!(a == a' && b == b'))) w := by
  rw [run_neq_struct, kEqualIn w 9998]
  rfl
theorem k_eql (w : World) (a b a' b' : Int) : (binOp .eql 55 (.agg #[.int .i64 a, .int .i64 b]) (.agg #[.int .i64 a', .int .i64 b'])).run Try.prog w = .ok (.bool (a == a' && b == b')) w := by
  rw [run_eql_struct, kEqualIn w 9998]
  rfl
/-- A slice of picks. -/
structure SlK (w : World) (A : Option Addr) (n c : Nat) (l : List (Int × Int)) : Prop where
  len : l.length = n
  cap : n ≤ c
  top : c ≤ maxLen
  lies : Lies w A n (pCells l)
theorem SlK.below {w w' : World} {A : Option Addr} {n c : Nat} {l : List (Int × Int)} (h : SlK w A n c l) (hb : Below w.heap.size w w') : SlK w' A n c l := ⟨h.len, h.cap, h.top, h.lies.below hb⟩
theorem SlK.of_own {w : World} {base : Nat} {v : Value} {l : List (Int × Int)} (h : w.ownsRow base 55 2 v l.length (pCells l)) : ∃ A c, v = .slice A l.length c ∧ SlK w A l.length c l := by
  obtain ⟨A, c, rfl, h1, h2, h3⟩ := own_slice h
  exact ⟨A, c, rfl, rfl, h2, h3, h1⟩
theorem pCells_at (l : List (Int × Int)) (i : Nat) (h : i < l.length) : (pCells l)[i * 2]? = some (.int .i64 l[i].1) ∧ (pCells l)[i * 2 + 1]? = some (.int .i64 l[i].2) := by
  induction l generalizing i with
  | nil => simp at h
  | cons o r ih =>
    have hc : pCells (o :: r) = [.int .i64 o.1, .int .i64 o.2] ++ pCells r := by simp [pCells]
    rw [hc]
    rcases i with _ | i
    · simp
    · have := ih i (by simpa using h)
      refine ⟨?_, ?_⟩ <;> rw [List.getElem?_append_right (by simp; omega)]
      · rw [show (i + 1) * 2 - ([Value.int .i64 o.1, .int .i64 o.2] : List Value).length = i * 2 from by simp; omega]; exact this.1
      · rw [show (i + 1) * 2 + 1 - ([Value.int .i64 o.1, .int .i64 o.2] : List Value).length = i * 2 + 1 from by simp; omega]; exact this.2
theorem pCells_one (l : List (Int × Int)) : ∀ u ∈ pCells l, u.oneCell' = true := by
  intro u hu
  simp only [pCells, List.mem_flatMap] at hu
  obtain ⟨o, _, hu⟩ := hu
  simp at hu
  rcases hu with rfl | rfl <;> rfl
theorem SlK.at {w : World} {A : Option Addr} {n c : Nat} {l : List (Int × Int)} (h : SlK w A n c l) (i : Nat) (hi : i < l.length) :
    ∃ b off, A = some ⟨b, off, none⟩ ∧ b < w.heap.size ∧ w.cell? ⟨b, off + i * 2, none⟩ = some (.int .i64 l[i].1) ∧ w.cell? ⟨b, off + i * 2 + 1, none⟩ = some (.int .i64 l[i].2) := by
  obtain ⟨b, off, e, hb, hc⟩ := h.lies.resolve_left (by have := h.len; omega)
  obtain ⟨h0, h1⟩ := pCells_at l i hi
  exact ⟨b, off, e, hb, hc _ _ h0, hc _ _ h1⟩

set_option maxHeartbeats 4000000 in
set_option maxRecDepth 100000 in
theorem samePicks_any (A B : Option Addr) (n m c e : Nat) (l k : List (Int × Int)) (w : World) (hA : SlK w A n c l) (hB : SlK w B m e k) :
    Calls Try.prog 29 #[.slice A n c, .slice B m e] w fun ed w' => ed = .returned (.bool (decide (l = k))) ∧ Below w.heap.size w w' := by
  have hn := hA.len
  have hm := hB.len
  have hn1 := Nat.le_trans hA.cap hA.top
  unfold maxLen at hn1
  have HA := Lib.hid hA
  have HB := Lib.hid hB
  have Hn := Lib.hid hn
  have Hm := Lib.hid hm
  obtain ⟨x, hx⟩ : ∃ x, decide (l = k) = x := ⟨_, rfl⟩
  rw [hx]
  have Hne : Hid (l ≠ k → x = false) := Lib.hid (fun h => by rw [← hx]; exact decide_eq_false h)
  have Heq : Hid (l = k → x = true) := Lib.hid (fun h => by rw [← hx]; exact decide_eq_true h)
  clear hA hB hx
  by_cases hnm : n = m
  · subst hnm
    clear hn hm
    have hnq := k_neq
    have hgd := kGuard
    go_enter Try.func29, Try.ntmps29
    go_wp2
    go_loopw [5] (fun i wr => ∃ j : Nat, j ≤ n ∧ i = .int .i64 (j : Int) ∧ Hid (l.take j = k.take j) ∧ ∃ z, wr = w.drewN z) (fun i _ => n - (intOf i).toNat)
    case atStart => exact ⟨0, Nat.zero_le _, rfl, Lib.hid rfl, 0, rfl⟩
    case round =>
      obtain ⟨j, hj, rfl, Htk, z, rfl⟩ := hrel
      by_cases hjn : j < n
      · have hjn' : (j : Int) < (n : Int) := by omega
        have la : j < l.length := by have := Hn.out; omega
        have lb : j < k.length := by have := Hm.out; omega
        obtain ⟨b1, o1, rfl, _, a0, a1⟩ := HA.out.at j la
        obtain ⟨b2, o2, rfl, _, d0, d1⟩ := HB.out.at j lb
        have a0' : (w.drewN z).cell? ⟨b1, o1 + j * 2, none⟩ = _ := a0
        have a1' : (w.drewN z).cell? ⟨b1, o1 + j * 2 + 1, none⟩ = _ := a1
        have d0' : (w.drewN z).cell? ⟨b2, o2 + j * 2, none⟩ = _ := d0
        have d1' : (w.drewN z).cell? ⟨b2, o2 + j * 2 + 1, none⟩ = _ := d1
        have Hnext := Lib.hid (fun e => take_eq_step la lb Htk.out e)
        have Hbad : Hid (l[j] ≠ k[j] → l ≠ k) := Lib.hid (fun h e => h (by subst e; rfl))
        obtain ⟨u, hu⟩ : ∃ u, l[j] = u := ⟨_, rfl⟩
        obtain ⟨v, hv⟩ : ∃ v, k[j] = v := ⟨_, rfl⟩
        rw [hu] at a0 a1 a0' a1' Hnext Hbad
        rw [hv] at d0 d1 d0' d1' Hnext Hbad
        clear hu hv la lb
        obtain ⟨u1, u2⟩ := u
        obtain ⟨v1, v2⟩ := v
        dsimp only at a0 a1 d0 d1 a0' a1' d0' d1'
        by_cases h1 : u1 = v1 ∧ u2 = v2
        · obtain ⟨rfl, rfl⟩ := h1
          have Hnx := Lib.hid (Hnext.out rfl)
          clear Hnext Hbad
          go_wp2_with fail
          go_quiet (fail)
          go_wp2
          go_roundw
          case rel => exact ⟨j + 1, by omega, by go_num, Hnx, _, rfl⟩
          case measure => simp [intOf]; omega
        · have Hx := Lib.hid (Hne.out (Hbad.out (fun e => h1 ⟨by injection e, by injection e⟩)))
          have hb : (u1 == v1 && u2 == v2) = false := by simpa using h1
          clear Hnext Hbad
          go_wp2_with fail
          go_quiet (fail)
          go_wp2
          go_ret
          exact ⟨by rw [Hx.out]; rfl, (by repeat' (first | with_reducible exact Below.refl _ _ | with_reducible assumption | with_reducible refine below_drewN ?_ _ | with_reducible refine Below.drew ?_ | with_reducible refine Below.alloc ?_ ?_ _ | with_reducible refine Below.setCell ?_ ?_ _ | with_reducible refine Below.trans ?_ (Below.mono (by with_reducible assumption) ?_) | with_reducible refine below_only ?_ (by with_reducible assumption) ?_ ?_ | (simp; done) | (simp; omega) | omega))⟩
      · have hjn' : ¬ (j : Int) < (n : Int) := by omega
        have Hx := Lib.hid (Heq.out (by have := Htk.out; rwa [List.take_of_length_le (by have := Hn.out; omega), List.take_of_length_le (by have := Hm.out; omega)] at this))
        go_wp2
        go_ret
        exact ⟨by rw [Hx.out]; rfl, (by repeat' (first | with_reducible exact Below.refl _ _ | with_reducible assumption | with_reducible refine below_drewN ?_ _ | with_reducible refine Below.drew ?_ | with_reducible refine Below.alloc ?_ ?_ _ | with_reducible refine Below.setCell ?_ ?_ _ | with_reducible refine Below.trans ?_ (Below.mono (by with_reducible assumption) ?_) | with_reducible refine below_only ?_ (by with_reducible assumption) ?_ ?_ | (simp; done) | (simp; omega) | omega))⟩
  · have Hx := Lib.hid (Hne.out (fun e => hnm (by rw [← hn, ← hm, e])))
    have hnm' : ¬ (n : Int) = (m : Int) := by omega
    clear hn hm
    go_enter Try.func29, Try.ntmps29
    go_wp2
    go_ret
    exact ⟨by rw [Hx.out]; rfl, Below.refl _ _⟩
end Go.Proofs.Ytjmbdfoegnfpnaa
