/- Contracts of the reference of regions: proper, inside, keep, same, Rects, Bound. -/
import Derived.Test.YtpcfhcdbibklcaaGreatH1
import Derived.Test.YtpcfhcdbibklcaaGreatGr
namespace Go.Proofs.YtpcfhcdbibklcaaGreat
open Go.RowKit
set_option linter.unusedVariables false

set_option maxHeartbeats 400000 in
theorem properR_any (q : R4) (w : World) :
    Calls Tryz.prog 63 #[.agg #[.int .i64 q.l, .int .i64 q.b, .int .i64 q.r, .int .i64 q.t]] w fun e w' => e = .returned (.bool q.ok) ∧ Below w.heap.size w w' := by
  go_enter Tryz.func63, Tryz.ntmps63
  go_wp2
  all_goals
    go_ret
    exact ⟨ret_bool (by simp [R4.ok]; omega), (by repeat' (first | with_reducible exact Below.refl _ _ | with_reducible refine below_drewN ?_ _ | with_reducible refine Below.drew ?_ | with_reducible refine Below.alloc ?_ ?_ _ | with_reducible refine Below.setCell ?_ ?_ _ | with_reducible refine Below.trans ?_ (Below.mono (by with_reducible assumption) ?_) | (simp; done) | (simp; omega) | omega))⟩

set_option maxHeartbeats 1000000 in
theorem insideR_any (A : Option Addr) (n c : Nat) (l : List R4) (x y : Int) (w : World) (h : SlR w A n c l) :
    Calls Tryz.prog 31 #[.slice A n c, .int .i64 x, .int .i64 y] w fun e w' => e = .returned (.bool (inL l x y)) ∧ Below w.heap.size w w' := by
  have hn := h.len
  have hc := h.cap
  have hm := h.top
  unfold maxLen at hm
  have H := Lib.hid h
  clear h
  go_enter Tryz.func31, Tryz.ntmps31
  go_wp2
  go_loopw [8, 11] (fun _ i wr => ∃ k : Nat, k ≤ n ∧ i = .int .i64 (k : Int) ∧ Hid (inL (l.take k) x y = false) ∧ Below w.heap.size w wr) (fun _ i _ => n - (intOf i).toNat)
  case atStart => exact ⟨0, Nat.zero_le _, rfl, Lib.hid rfl, Below.refl _ _⟩
  case round =>
    obtain ⟨k, hk, rfl, hf, hbw⟩ := hrel
    have hsz := hbw.size
    by_cases hkn : k < n
    · have hl : k < l.length := by omega
      obtain ⟨b, off, rfl, hbl, c0, c1, c2, c3⟩ := (H.out.below hbw).at k hl
      have Hs := Lib.hid (inL_take_succ l k hl x y)
      have Hin : Hid (l[k].has x y = true → inL l x y = true) := fun h => by
        unfold inL
        rw [List.any_eq_true]
        exact ⟨l[k], List.getElem_mem hl, h⟩
      have Hh : Hid (l[k].has x y = (decide (l[k].l ≤ x) && decide (x < l[k].r) && decide (l[k].b ≤ y) && decide (y < l[k].t))) := Lib.hid rfl
      generalize l[k] = q at *
      generalize q.has x y = hv at *
      go_wp2
      all_goals first
        | (go_roundw
           case rel => exact ⟨k + 1, by omega, by go_num, (by show inL (l.take (k + 1)) x y = false; rw [Hs.out, hf.out, Hh.out]; simp; omega), (by repeat' (first | with_reducible exact Below.refl _ _ | with_reducible assumption | with_reducible refine below_drewN ?_ _ | with_reducible refine Below.drew ?_ | with_reducible refine Below.alloc ?_ ?_ _ | with_reducible refine Below.setCell ?_ ?_ _ | with_reducible refine Below.trans ?_ (Below.mono (by with_reducible assumption) ?_) | with_reducible refine below_only ?_ (by with_reducible assumption) ?_ ?_ | (simp; done) | (simp; omega) | omega))⟩
           case measure => simp [intOf]; omega)
        | (go_ret
           exact ⟨by rw [Hin.out (by rw [Hh.out]; simp; omega)]; rfl, (by repeat' (first | with_reducible exact Below.refl _ _ | with_reducible assumption | with_reducible refine below_drewN ?_ _ | with_reducible refine Below.drew ?_ | with_reducible refine Below.alloc ?_ ?_ _ | with_reducible refine Below.setCell ?_ ?_ _ | with_reducible refine Below.trans ?_ (Below.mono (by with_reducible assumption) ?_) | with_reducible refine below_only ?_ (by with_reducible assumption) ?_ ?_ | (simp; done) | (simp; omega) | omega))⟩)
    · have e1 : Hid (inL l x y = false) := by
        have := hf.out
        rw [List.take_of_length_le (by omega)] at this
        exact this
      go_wp2
      go_ret
      exact ⟨by rw [e1.out]; rfl, hbw⟩

/-- The ways of combining two sets, by their numbers. -/
def howR (k : Int) (a b : Bool) : Bool := if k = 1 then a || b else if k = 2 then a && b else a && !b
theorem howR_no (k : Int) : howR k false false = false := by unfold howR; split <;> (try split) <;> rfl

set_option maxHeartbeats 400000 in
theorem keepR_any (a b : Bool) (k : Int) (w : World) :
    Calls Tryz.prog 87 #[.bool a, .bool b, .int .i64 k] w fun e w' => e = .returned (.bool (howR k a b)) ∧ w = w' := by
  unfold howR
  by_cases h1 : k = 1
  · subst h1
    rw [if_pos rfl]
    cases a <;> cases b <;> (go_enter Tryz.func87, Tryz.ntmps87; go_wp2; go_ret; exact ⟨rfl, rfl⟩)
  · rw [if_neg h1]
    by_cases h2 : k = 2
    · subst h2
      rw [if_pos rfl]
      cases a <;> cases b <;> (go_enter Tryz.func87, Tryz.ntmps87; go_wp2; go_ret; exact ⟨rfl, rfl⟩)
    · rw [if_neg h2]
      cases a <;> cases b <;> (go_enter Tryz.func87, Tryz.ntmps87; go_wp2; go_ret; exact ⟨rfl, rfl⟩)

set_option maxHeartbeats 400000 in
theorem boundR_big (A : Option Addr) (n c : Nat) (w : World) (h : 120 < n) :
    Calls Tryz.prog 58 #[.slice A n c] w fun e w' => e = .returned (.tuple #[.agg #[.slice none 0 0], .int .i64 1]) ∧ Below w.heap.size w w' := by
  have h' : (120 : Int) < (n : Int) := by omega
  go_enter Tryz.func58, Tryz.ntmps58
  go_wp2
  refine bodyPost_ret (v := .tuple #[.agg #[.slice none 0 0], .int .i64 1]) (by simp [results, Tryz.results58, go_sem, *]) rfl ?_
  exact ⟨rfl, (by repeat' (first | with_reducible exact Below.refl _ _ | with_reducible refine below_drewN ?_ _ | with_reducible refine Below.drew ?_ | with_reducible refine Below.alloc ?_ ?_ _ | with_reducible refine Below.setCell ?_ ?_ _ | with_reducible refine Below.trans ?_ (Below.mono (by with_reducible assumption) ?_) | (simp; done) | (simp; omega) | omega))⟩

set_option maxHeartbeats 400000 in
theorem boundR_ok (A : Option Addr) (n c : Nat) (w : World) (h : n ≤ 120) :
    Calls Tryz.prog 58 #[.slice A n c] w fun e w' => e = .returned (.tuple #[.agg #[.slice A n c], .int .i64 0]) ∧ Below w.heap.size w w' := by
  have h' : ¬ (120 : Int) < (n : Int) := by omega
  go_enter Tryz.func58, Tryz.ntmps58
  go_wp2
  refine bodyPost_ret (v := .tuple #[.agg #[.slice A n c], .int .i64 0]) (by simp [results, Tryz.results58, go_sem, *]) rfl ?_
  exact ⟨rfl, (by repeat' (first | with_reducible exact Below.refl _ _ | with_reducible refine below_drewN ?_ _ | with_reducible refine Below.drew ?_ | with_reducible refine Below.alloc ?_ ?_ _ | with_reducible refine Below.setCell ?_ ?_ _ | with_reducible refine Below.trans ?_ (Below.mono (by with_reducible assumption) ?_) | (simp; done) | (simp; omega) | omega))⟩

set_option maxHeartbeats 1000000 in
theorem rectsR_any (A B : Option Addr) (n c m d : Nat) (l k : List R4) (w : World) (hA : SlR w A n c l) (hB : SlR w B m d k) :
    Calls Tryz.prog 60 #[.slice A n c, .slice B m d] w fun e w' => e = .returned (.bool (decide (l = k))) ∧ Below w.heap.size w w' := by
  have hx := hA.len
  have hy := hB.len
  have hn := Nat.le_trans hA.cap hA.top
  have hm := Nat.le_trans hB.cap hB.top
  unfold maxLen at hn hm
  have HA := Lib.hid hA
  have HB := Lib.hid hB
  clear hA hB
  by_cases hnm : n = m
  · subst hnm
    go_enter Tryz.func60, Tryz.ntmps60
    go_wp2
    go_loopw [5, 13] (fun _ i wr => ∃ j : Nat, j ≤ n ∧ i = .int .i64 (j : Int) ∧ Hid (l.take j = k.take j) ∧ Below w.heap.size w wr) (fun _ i _ => n - (intOf i).toNat)
    case atStart => exact ⟨0, Nat.zero_le _, rfl, Lib.hid rfl, Below.refl _ _⟩
    case round =>
      obtain ⟨j, hj, rfl, Heq, hbw⟩ := hrel
      by_cases hjn : j < n
      · have hl1 : j < l.length := by omega
        have hl2 : j < k.length := by omega
        obtain ⟨b, off, rfl, hbl, c0, c1, c2, c3⟩ := (HA.out.below hbw).at j hl1
        obtain ⟨b', off', rfl, hbl', d0, d1, d2, d3⟩ := (HB.out.below hbw).at j hl2
        have hj1 : (j : Int) < (n : Int) := by omega
        have hj0 : (0 : Int) ≤ (j : Int) := by omega
        have Hstep : Hid (l[j] = k[j] → l.take (j + 1) = k.take (j + 1)) := by
          intro h
          have t1 := List.take_succ_eq_append_getElem hl1
          have t2 := List.take_succ_eq_append_getElem hl2
          rw [t1, t2, Heq.out, h]
        have Hlk : Hid (l = k → l[j] = k[j]) := fun h => by subst h; rfl
        have Ho := Lib.hid (rEq_iff l[j] k[j])
        have hnq := r_neq
        have hgd := rGuard
        generalize l[j] = o at *
        generalize k[j] = p at *
        by_cases hop : o = p
        · have hob : rEq o.l o.b o.r o.t p.l p.b p.r p.t = true := Ho.out.2 hop
          have Hop := Lib.hid hop
          clear hop
          go_wp2
          go_quiet (fail)
          go_wp2
          go_roundw
          case rel => exact ⟨j + 1, by omega, by go_num, Hstep.out Hop.out, below_drewN hbw _⟩
          case measure => simp [intOf]; omega
        · have hob : rEq o.l o.b o.r o.t p.l p.b p.r p.t = false := by
            cases h : rEq o.l o.b o.r o.t p.l p.b p.r p.t
            · rfl
            · exact absurd (Ho.out.1 h) hop
          have Hop := Lib.hid hop
          clear hop
          go_wp2
          go_quiet (fail)
          go_wp2
          go_ret
          exact ⟨ret_bool (by simp; intro h; exact Hop.out (Hlk.out h)), below_drewN hbw _⟩
      · have e1 : l.take j = l := List.take_of_length_le (by omega)
        have e2 : k.take j = k := List.take_of_length_le (by omega)
        have Hlk : Hid (l = k) := by have := Heq.out; rw [e1, e2] at this; exact this
        clear e1 e2
        go_wp2
        go_ret
        exact ⟨by rw [Hlk.out]; simp, hbw⟩
  · go_enter Tryz.func60, Tryz.ntmps60
    go_wp2
    go_ret
    exact ⟨ret_bool (by simp; intro e; rw [e] at hx; omega), Below.refl _ _⟩

set_option maxHeartbeats 1000000 in
theorem sameR_any (A B : Option Addr) (n c m d : Nat) (l k : List R4) (w : World) (hA : SlR w A n c l) (hB : SlR w B m d k) :
    Calls Tryz.prog 88 #[.slice A n c, .slice B m d] w fun e w' => e = .returned (.bool (decide (lr l = lr k))) ∧ Below w.heap.size w w' := by
  have hx := hA.len
  have hy := hB.len
  have hn := Nat.le_trans hA.cap hA.top
  have hm := Nat.le_trans hB.cap hB.top
  unfold maxLen at hn hm
  have HA := Lib.hid hA
  have HB := Lib.hid hB
  clear hA hB
  by_cases hnm : n = m
  · subst hnm
    go_enter Tryz.func88, Tryz.ntmps88
    go_wp2
    go_loopw [5, 13] (fun _ i wr => ∃ j : Nat, j ≤ n ∧ i = .int .i64 (j : Int) ∧ Hid (lr (l.take j) = lr (k.take j)) ∧ Below w.heap.size w wr) (fun _ i _ => n - (intOf i).toNat)
    case atStart => exact ⟨0, Nat.zero_le _, rfl, Lib.hid rfl, Below.refl _ _⟩
    case round =>
      obtain ⟨j, hj, rfl, Heq, hbw⟩ := hrel
      by_cases hjn : j < n
      · have hl1 : j < l.length := by omega
        have hl2 : j < k.length := by omega
        obtain ⟨b, off, rfl, hbl, c0, c1, c2, c3⟩ := (HA.out.below hbw).at j hl1
        obtain ⟨b', off', rfl, hbl', d0, d1, d2, d3⟩ := (HB.out.below hbw).at j hl2
        have hj1 : (j : Int) < (n : Int) := by omega
        have hj0 : (0 : Int) ≤ (j : Int) := by omega
        have Hstep : Hid (l[j].l = k[j].l → l[j].r = k[j].r → lr (l.take (j + 1)) = lr (k.take (j + 1))) := by
          intro h h'
          have t1 := List.take_succ_eq_append_getElem hl1
          have t2 := List.take_succ_eq_append_getElem hl2
          have := Heq.out
          unfold lr at *
          rw [t1, t2, List.map_append, List.map_append, this]
          simp [h, h']
        have Hlk : Hid (lr l = lr k → l[j].l = k[j].l ∧ l[j].r = k[j].r) := fun h => by
          have := congrArg (fun z => z[j]?) h
          simp [lr, hl1, hl2] at this
          exact this
        generalize l[j] = o at *
        generalize k[j] = p at *
        by_cases h1 : o.l = p.l
        · by_cases h2 : o.r = p.r
          · have H1 := Lib.hid h1
            have H2 := Lib.hid h2
            rw [h1] at c0
            rw [h2] at c2
            clear h1 h2
            go_wp2
            go_quiet (fail)
            go_wp2
            go_roundw
            case rel => exact ⟨j + 1, by omega, by go_num, Hstep.out H1.out H2.out, below_drewN hbw _⟩
            case measure => simp [intOf]; omega
          · rw [h1] at c0
            have H2 := Lib.hid h2
            go_wp2
            go_quiet (fail)
            go_wp2
            go_ret
            exact ⟨ret_bool (by simp; intro h; exact H2.out (Hlk.out h).2), below_drewN hbw _⟩
        · have H1 := Lib.hid h1
          go_wp2
          go_quiet (fail)
          go_wp2
          go_ret
          exact ⟨ret_bool (by simp; intro h; exact H1.out (Hlk.out h).1), below_drewN hbw _⟩
      · have e1 : l.take j = l := List.take_of_length_le (by omega)
        have e2 : k.take j = k := List.take_of_length_le (by omega)
        have Hlk : Hid (lr l = lr k) := by have := Heq.out; rw [e1, e2] at this; exact this
        clear e1 e2
        go_wp2
        go_ret
        exact ⟨by rw [Hlk.out]; simp, hbw⟩
  · go_enter Tryz.func88, Tryz.ntmps88
    go_wp2
    go_ret
    exact ⟨ret_bool (by simp; intro e; have := congrArg List.length e; simp [lr] at this; omega), Below.refl _ _⟩
end Go.Proofs.YtpcfhcdbibklcaaGreat
