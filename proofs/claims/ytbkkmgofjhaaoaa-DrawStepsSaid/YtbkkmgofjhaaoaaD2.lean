/- Contracts: Check (draw, and its reference), usable. -/
import Derived.Test.YtbkkmgofjhaaoaaD1
import Derived.Test.YtbkkmgofjhaaoaaQ
namespace Go.Proofs.Ytbkkmgofjhaaoaa
open Go.RowKit
set_option linter.unusedVariables false
set_option linter.unusedSimpArgs false

/-- A draw. -/
structure Dr where
  st : Int
  se : List Int
  sd : List Bool
  sx : List Int
  rv : List Bool
  deriving DecidableEq
/-- Where the lists of a draw lie. -/
structure DV where
  a1 : Option Addr
  c1 : Nat
  a2 : Option Addr
  c2 : Nat
  a3 : Option Addr
  c3 : Nat
  a4 : Option Addr
  c4 : Nat
/-- A slice of cells of one word. -/
structure Sl (w : World) (A : Option Addr) (c : Nat) (xs : List Value) : Prop where
  cap : xs.length ≤ c
  top : c ≤ maxLen
  lies : Lies w A xs.length xs
theorem Sl.below {w w' : World} {A : Option Addr} {c : Nat} {xs : List Value} (h : Sl w A c xs) (hb : Below w.heap.size w w') : Sl w' A c xs := ⟨h.cap, h.top, h.lies.below hb⟩
theorem Sl.at {w : World} {A : Option Addr} {c : Nat} {α : Type} {f : α → Value} {l : List α} (h : Sl w A c (l.map f)) (i : Nat) (hi : i < l.length) : ∃ b off, A = some ⟨b, off, none⟩ ∧ b < w.heap.size ∧ w.cell? ⟨b, off + i, none⟩ = some (f l[i]) := by
  obtain ⟨b, off, e, hb, hc⟩ := h.lies.resolve_left (by rw [List.length_map]; omega)
  exact ⟨b, off, e, hb, hc i _ (by simp [hi])⟩
structure DrAt (w : World) (p : DV) (d : Dr) : Prop where
  s1 : Sl w p.a1 p.c1 (d.se.map (.int .u64))
  s2 : Sl w p.a2 p.c2 (d.sd.map .bool)
  s3 : Sl w p.a3 p.c3 (d.sx.map (.int .u64))
  s4 : Sl w p.a4 p.c4 (d.rv.map .bool)
theorem DrAt.below {w w' : World} {p : DV} {d : Dr} (h : DrAt w p d) (hb : Below w.heap.size w w') : DrAt w' p d := ⟨h.s1.below hb, h.s2.below hb, h.s3.below hb, h.s4.below hb⟩
def badAt (st a : Int) (b : Bool) (x : Int) (r : Bool) : Bool := (r && (!b || decide (st = 1))) || (!b && decide (a ≠ 0)) || (!r && decide (x ≠ 0))
def badD (d : Dr) (i : Nat) : Bool := badAt d.st (d.se.getD i 0) (d.sd.getD i false) (d.sx.getD i 0) (d.rv.getD i false)
/-- The form of a draw: its state and its lengths. -/
def formD (d : Dr) : Bool := decide (1 ≤ d.st) && decide (d.st ≤ 3) && decide (1 ≤ d.se.length) && decide (d.se.length ≤ 5) && decide (d.sd.length = d.se.length) && decide (d.sx.length = d.se.length) && decide (d.rv.length = d.se.length)
def checkD (d : Dr) : Int := if formD d then (if (List.range d.se.length).any (badD d) then 22 else 0) else 22
theorem any_range_succ (p : Nat → Bool) (k : Nat) : (List.range (k + 1)).any p = ((List.range k).any p || p k) := by
  rw [List.range_succ, List.any_append]; simp

set_option maxHeartbeats 4000000 in
theorem check_any (p : DV) (d : Dr) (w : World) (h : DrAt w p d) :
    Calls Try.prog 15 #[.agg #[.int .i64 d.st, .slice p.a1 d.se.length p.c1, .slice p.a2 d.sd.length p.c2, .slice p.a3 d.sx.length p.c3, .slice p.a4 d.rv.length p.c4]] w fun e w' => e = .returned (.int .i64 (checkD d)) ∧ Below w.heap.size w w' := by
  have H := Lib.hid h
  clear h
  obtain ⟨n, hn⟩ : ∃ n, d.se.length = n := ⟨_, rfl⟩
  obtain ⟨n2, hn2⟩ : ∃ n, d.sd.length = n := ⟨_, rfl⟩
  obtain ⟨n3, hn3⟩ : ∃ n, d.sx.length = n := ⟨_, rfl⟩
  obtain ⟨n4, hn4⟩ : ∃ n, d.rv.length = n := ⟨_, rfl⟩
  have Hf : Hid (formD d = (decide (1 ≤ d.st) && decide (d.st ≤ 3) && decide (1 ≤ n) && decide (n ≤ 5) && decide (n2 = n) && decide (n3 = n) && decide (n4 = n))) := Lib.hid (by subst hn hn2 hn3 hn4; rfl)
  have Hc : Hid (checkD d = if formD d then (if (List.range n).any (badD d) then 22 else 0) else 22) := Lib.hid (by subst hn; rfl)
  have Hn := Lib.hid hn
  have Hn2 := Lib.hid hn2
  have Hn3 := Lib.hid hn3
  have Hn4 := Lib.hid hn4
  rw [hn, hn2, hn3, hn4]
  generalize checkD d = res at *
  obtain ⟨st, hst⟩ : ∃ st, d.st = st := ⟨_, rfl⟩
  have Hst := Lib.hid hst
  rw [hst] at Hf
  rw [hst]
  clear hn hn2 hn3 hn4 hst
  by_cases hform : 1 ≤ st ∧ st ≤ 3 ∧ 1 ≤ n ∧ n ≤ 5 ∧ n2 = n ∧ n3 = n ∧ n4 = n
  · obtain ⟨h1, h2, h3, h4, rfl, rfl, rfl⟩ := hform
    have Hres : Hid (res = if (List.range n4).any (badD d) then 22 else 0) := Lib.hid (by rw [Hc.out, Hf.out]; simp [h1, h2, h3, h4])
    clear Hc Hf
    have g1 : ¬ st < 1 := by omega
    have g2 : ¬ 3 < st := by omega
    have g3 : ¬ (n4 : Int) < 1 := by omega
    have g4 : ¬ 5 < (n4 : Int) := by omega
    go_enter Try.func15, Try.ntmps15
    go_upto_region 5 with fail
    obtain ⟨w0, hw0⟩ : ∃ w0 : World, w0 = w.alloc (.cells #[.int .i64 st, .slice p.a1 n4 p.c1, .slice p.a2 n4 p.c2, .slice p.a3 n4 p.c3, .slice p.a4 n4 p.c4] 26) := ⟨_, rfl⟩
    rw [← hw0]
    have hr0 : w0.heap[w.heap.size]? = some (.cells #[.int .i64 st, .slice p.a1 n4 p.c1, .slice p.a2 n4 p.c2, .slice p.a3 n4 p.c3, .slice p.a4 n4 p.c4] 26 (0, 0)) := by rw [hw0]; exact heap_alloc_new w _
    have z0 := cell_of_row w0 w.heap.size 0 _ _ _ hr0
    have z1 := cell_of_row w0 w.heap.size 1 _ _ _ hr0
    have z2 := cell_of_row w0 w.heap.size 2 _ _ _ hr0
    have z3 := cell_of_row w0 w.heap.size 3 _ _ _ hr0
    have z4 := cell_of_row w0 w.heap.size 4 _ _ _ hr0
    have Hb0 : Hid (Below w.heap.size w w0) := Lib.hid (by rw [hw0]; exact (by repeat' (first | with_reducible exact Below.refl _ _ | with_reducible refine below_drewN ?_ _ | with_reducible refine Below.drew ?_ | with_reducible refine Below.alloc ?_ ?_ _ | with_reducible refine Below.setCell ?_ ?_ _ | with_reducible refine Below.trans ?_ (Below.mono (by with_reducible assumption) ?_) | (simp; done) | (simp; omega) | omega)))
    clear hw0 hr0
    go_loop [4, 46] (fun _ i => ∃ k : Nat, k ≤ n4 ∧ i = .int .i64 (k : Int) ∧ Hid ((List.range k).any (badD d) = false)) (fun _ i => n4 - (intOf i).toNat)
    case atStart => exact ⟨0, Nat.zero_le _, rfl, Lib.hid rfl⟩
    case round =>
      obtain ⟨k, hk, rfl, Hany⟩ := hrel
      by_cases hkn : k < n4
      · have l1 : k < d.se.length := by have := Hn.out; omega
        have l2 : k < d.sd.length := by have := Hn2.out; omega
        have l3 : k < d.sx.length := by have := Hn3.out; omega
        have l4 : k < d.rv.length := by have := Hn4.out; omega
        obtain ⟨b1, o1, e1, hb1, c1⟩ := H.out.s1.at k l1
        obtain ⟨b2, o2, e2, hb2, c2⟩ := H.out.s2.at k l2
        obtain ⟨b3, o3, e3, hb3, c3⟩ := H.out.s3.at k l3
        obtain ⟨b4, o4, e4, hb4, c4⟩ := H.out.s4.at k l4
        have c1 := (Hb0.out.cell (p := ⟨b1, o1 + k, none⟩) hb1).trans c1
        have c2 := (Hb0.out.cell (p := ⟨b2, o2 + k, none⟩) hb2).trans c2
        have c3 := (Hb0.out.cell (p := ⟨b3, o3 + k, none⟩) hb3).trans c3
        have c4 := (Hb0.out.cell (p := ⟨b4, o4 + k, none⟩) hb4).trans c4
        have Hbad : Hid (badD d k = badAt st d.se[k] d.sd[k] d.sx[k] d.rv[k]) := Lib.hid (by have := Hst.out; unfold badD; rw [this]; simp [List.getD_eq_getElem?_getD, l1, l2, l3, l4])
        have Hnext := Lib.hid (any_range_succ (badD d) k)
        have Hhit : Hid (badD d k = true → res = 22) := Lib.hid (fun hb => by
          rw [Hres.out, if_pos]
          rw [List.any_eq_true]
          exact ⟨k, by simp; omega, hb⟩)
        generalize d.se[k] = va at *
        generalize d.sd[k] = vb at *
        generalize d.sx[k] = vc at *
        generalize d.rv[k] = vd at *
        rw [e1] at z1
        rw [e2] at z2
        rw [e3] at z3
        rw [e4] at z4
        have hkn' : (k : Int) < (n4 : Int) := by omega
        clear e1 e2 e3 e4
        cases hbd : badD d k with
        | true =>
          have hR := Hhit.out hbd
          have Hbt : Hid (badAt st va vb vc vd = true) := Lib.hid (by rw [← Hbad.out, hbd])
          clear hbd
          subst hR
          rcases vb with _ | _ <;> rcases vd with _ | _ <;> by_cases hva : va = 0 <;> by_cases hvc : vc = 0 <;> by_cases hs1 : st = 1 <;>
          first
            | (exfalso; have := Hbt.out; simp [badAt, hva, hvc, hs1] at this; done)
            | (go_wp2; go_ret; exact ⟨rfl, Hb0.out⟩)
        | false =>
          have Hbt : Hid (badAt st va vb vc vd = false) := Lib.hid (by rw [← Hbad.out, hbd])
          have Hany2 : Hid ((List.range (k + 1)).any (badD d) = false) := Lib.hid (by rw [Hnext.out, Hany.out, hbd]; rfl)
          clear hbd
          rcases vb with _ | _ <;> rcases vd with _ | _ <;> by_cases hva : va = 0 <;> by_cases hvc : vc = 0 <;> by_cases hs1 : st = 1 <;>
          first
            | (exfalso; have := Hbt.out; simp [badAt, hva, hvc, hs1] at this; done)
            | (go_wp2
               go_round
               case rel => exact ⟨k + 1, by omega, by go_num, Hany2⟩
               case measure => simp [intOf]; omega)
      · have hkn' : ¬ (k : Int) < (n4 : Int) := by omega
        have hkk : k = n4 := by omega
        have hR : res = 0 := by rw [Hres.out, ← hkk, Hany.out]; rfl
        subst hR
        go_wp2
        go_ret
        exact ⟨rfl, Hb0.out⟩
  · have hR : res = 22 := by
      rw [Hc.out, Hf.out, if_neg]
      intro h
      simp at h
      exact hform (by omega)
    subst hR
    clear Hc Hf
    have g3 : (((n : Int) < 1 ∨ 5 < (n : Int)) ∨ st < 1 ∨ 3 < st) ∨ ¬ (n2 : Int) = n ∨ ¬ (n3 : Int) = n ∨ ¬ (n4 : Int) = n := by omega
    go_enter Try.func15, Try.ntmps15
    by_cases q1 : st < 1
    · go_wp2; go_ret; exact ⟨rfl, (by repeat' (first | with_reducible exact Below.refl _ _ | with_reducible refine below_drewN ?_ _ | with_reducible refine Below.drew ?_ | with_reducible refine Below.alloc ?_ ?_ _ | with_reducible refine Below.setCell ?_ ?_ _ | with_reducible refine Below.trans ?_ (Below.mono (by with_reducible assumption) ?_) | (simp; done) | (simp; omega) | omega))⟩
    · by_cases q2 : 3 < st
      · go_wp2; go_ret; exact ⟨rfl, (by repeat' (first | with_reducible exact Below.refl _ _ | with_reducible refine below_drewN ?_ _ | with_reducible refine Below.drew ?_ | with_reducible refine Below.alloc ?_ ?_ _ | with_reducible refine Below.setCell ?_ ?_ _ | with_reducible refine Below.trans ?_ (Below.mono (by with_reducible assumption) ?_) | (simp; done) | (simp; omega) | omega))⟩
      · by_cases q3 : (n : Int) < 1
        · go_wp2; go_ret; exact ⟨rfl, (by repeat' (first | with_reducible exact Below.refl _ _ | with_reducible refine below_drewN ?_ _ | with_reducible refine Below.drew ?_ | with_reducible refine Below.alloc ?_ ?_ _ | with_reducible refine Below.setCell ?_ ?_ _ | with_reducible refine Below.trans ?_ (Below.mono (by with_reducible assumption) ?_) | (simp; done) | (simp; omega) | omega))⟩
        · by_cases q4 : 5 < (n : Int)
          · go_wp2; go_ret; exact ⟨rfl, (by repeat' (first | with_reducible exact Below.refl _ _ | with_reducible refine below_drewN ?_ _ | with_reducible refine Below.drew ?_ | with_reducible refine Below.alloc ?_ ?_ _ | with_reducible refine Below.setCell ?_ ?_ _ | with_reducible refine Below.trans ?_ (Below.mono (by with_reducible assumption) ?_) | (simp; done) | (simp; omega) | omega))⟩
          · by_cases q5 : (n2 : Int) = n
            · by_cases q6 : (n3 : Int) = n
              · have q7 : ¬ (n4 : Int) = n := by omega
                clear g3
                go_wp2; go_ret; exact ⟨rfl, (by repeat' (first | with_reducible exact Below.refl _ _ | with_reducible refine below_drewN ?_ _ | with_reducible refine Below.drew ?_ | with_reducible refine Below.alloc ?_ ?_ _ | with_reducible refine Below.setCell ?_ ?_ _ | with_reducible refine Below.trans ?_ (Below.mono (by with_reducible assumption) ?_) | (simp; done) | (simp; omega) | omega))⟩
              · clear g3
                go_wp2; go_ret; exact ⟨rfl, (by repeat' (first | with_reducible exact Below.refl _ _ | with_reducible refine below_drewN ?_ _ | with_reducible refine Below.drew ?_ | with_reducible refine Below.alloc ?_ ?_ _ | with_reducible refine Below.setCell ?_ ?_ _ | with_reducible refine Below.trans ?_ (Below.mono (by with_reducible assumption) ?_) | (simp; done) | (simp; omega) | omega))⟩
            · clear g3
              go_wp2; go_ret; exact ⟨rfl, (by repeat' (first | with_reducible exact Below.refl _ _ | with_reducible refine below_drewN ?_ _ | with_reducible refine Below.drew ?_ | with_reducible refine Below.alloc ?_ ?_ _ | with_reducible refine Below.setCell ?_ ?_ _ | with_reducible refine Below.trans ?_ (Below.mono (by with_reducible assumption) ?_) | (simp; done) | (simp; omega) | omega))⟩

set_option maxHeartbeats 4000000 in
theorem checkR_any (p : DV) (d : Dr) (w : World) (h : DrAt w p d) :
    Calls Try.prog 16 #[.agg #[.int .i64 d.st, .slice p.a1 d.se.length p.c1, .slice p.a2 d.sd.length p.c2, .slice p.a3 d.sx.length p.c3, .slice p.a4 d.rv.length p.c4]] w fun e w' => e = .returned (.int .i64 (checkD d)) ∧ Below w.heap.size w w' := by
  have H := Lib.hid h
  clear h
  obtain ⟨n, hn⟩ : ∃ n, d.se.length = n := ⟨_, rfl⟩
  obtain ⟨n2, hn2⟩ : ∃ n, d.sd.length = n := ⟨_, rfl⟩
  obtain ⟨n3, hn3⟩ : ∃ n, d.sx.length = n := ⟨_, rfl⟩
  obtain ⟨n4, hn4⟩ : ∃ n, d.rv.length = n := ⟨_, rfl⟩
  have Hf : Hid (formD d = (decide (1 ≤ d.st) && decide (d.st ≤ 3) && decide (1 ≤ n) && decide (n ≤ 5) && decide (n2 = n) && decide (n3 = n) && decide (n4 = n))) := Lib.hid (by subst hn hn2 hn3 hn4; rfl)
  have Hc : Hid (checkD d = if formD d then (if (List.range n).any (badD d) then 22 else 0) else 22) := Lib.hid (by subst hn; rfl)
  have Hn := Lib.hid hn
  have Hn2 := Lib.hid hn2
  have Hn3 := Lib.hid hn3
  have Hn4 := Lib.hid hn4
  rw [hn, hn2, hn3, hn4]
  generalize checkD d = res at *
  obtain ⟨st, hst⟩ : ∃ st, d.st = st := ⟨_, rfl⟩
  have Hst := Lib.hid hst
  rw [hst] at Hf
  rw [hst]
  clear hn hn2 hn3 hn4 hst
  by_cases hform : 1 ≤ st ∧ st ≤ 3 ∧ 1 ≤ n ∧ n ≤ 5 ∧ n2 = n ∧ n3 = n ∧ n4 = n
  · obtain ⟨h1, h2, h3, h4, rfl, rfl, rfl⟩ := hform
    have Hres : Hid (res = if (List.range n4).any (badD d) then 22 else 0) := Lib.hid (by rw [Hc.out, Hf.out]; simp [h1, h2, h3, h4])
    clear Hc Hf
    have g1 : ¬ st < 1 := by omega
    have g2 : ¬ 3 < st := by omega
    have g3 : ¬ (n4 : Int) < 1 := by omega
    have g4 : ¬ 5 < (n4 : Int) := by omega
    go_enter Try.func16, Try.ntmps16
    go_upto_region 5 with fail
    obtain ⟨w0, hw0⟩ : ∃ w0 : World, w0 = w.alloc (.cells #[.int .i64 st, .slice p.a1 n4 p.c1, .slice p.a2 n4 p.c2, .slice p.a3 n4 p.c3, .slice p.a4 n4 p.c4] 26) := ⟨_, rfl⟩
    rw [← hw0]
    have hr0 : w0.heap[w.heap.size]? = some (.cells #[.int .i64 st, .slice p.a1 n4 p.c1, .slice p.a2 n4 p.c2, .slice p.a3 n4 p.c3, .slice p.a4 n4 p.c4] 26 (0, 0)) := by rw [hw0]; exact heap_alloc_new w _
    have z0 := cell_of_row w0 w.heap.size 0 _ _ _ hr0
    have z1 := cell_of_row w0 w.heap.size 1 _ _ _ hr0
    have z2 := cell_of_row w0 w.heap.size 2 _ _ _ hr0
    have z3 := cell_of_row w0 w.heap.size 3 _ _ _ hr0
    have z4 := cell_of_row w0 w.heap.size 4 _ _ _ hr0
    have Hb0 : Hid (Below w.heap.size w w0) := Lib.hid (by rw [hw0]; exact (by repeat' (first | with_reducible exact Below.refl _ _ | with_reducible refine below_drewN ?_ _ | with_reducible refine Below.drew ?_ | with_reducible refine Below.alloc ?_ ?_ _ | with_reducible refine Below.setCell ?_ ?_ _ | with_reducible refine Below.trans ?_ (Below.mono (by with_reducible assumption) ?_) | (simp; done) | (simp; omega) | omega)))
    clear hw0 hr0
    go_loop [4] (fun i => ∃ k : Nat, k ≤ n4 ∧ i = .int .i64 (k : Int) ∧ Hid ((List.range k).any (badD d) = false)) (fun i => n4 - (intOf i).toNat)
    case atStart => exact ⟨0, Nat.zero_le _, rfl, Lib.hid rfl⟩
    case round =>
      obtain ⟨k, hk, rfl, Hany⟩ := hrel
      by_cases hkn : k < n4
      · have l1 : k < d.se.length := by have := Hn.out; omega
        have l2 : k < d.sd.length := by have := Hn2.out; omega
        have l3 : k < d.sx.length := by have := Hn3.out; omega
        have l4 : k < d.rv.length := by have := Hn4.out; omega
        obtain ⟨b1, o1, e1, hb1, c1⟩ := H.out.s1.at k l1
        obtain ⟨b2, o2, e2, hb2, c2⟩ := H.out.s2.at k l2
        obtain ⟨b3, o3, e3, hb3, c3⟩ := H.out.s3.at k l3
        obtain ⟨b4, o4, e4, hb4, c4⟩ := H.out.s4.at k l4
        have c1 := (Hb0.out.cell (p := ⟨b1, o1 + k, none⟩) hb1).trans c1
        have c2 := (Hb0.out.cell (p := ⟨b2, o2 + k, none⟩) hb2).trans c2
        have c3 := (Hb0.out.cell (p := ⟨b3, o3 + k, none⟩) hb3).trans c3
        have c4 := (Hb0.out.cell (p := ⟨b4, o4 + k, none⟩) hb4).trans c4
        have Hbad : Hid (badD d k = badAt st d.se[k] d.sd[k] d.sx[k] d.rv[k]) := Lib.hid (by have := Hst.out; unfold badD; rw [this]; simp [List.getD_eq_getElem?_getD, l1, l2, l3, l4])
        have Hnext := Lib.hid (any_range_succ (badD d) k)
        have Hhit : Hid (badD d k = true → res = 22) := Lib.hid (fun hb => by
          rw [Hres.out, if_pos]
          rw [List.any_eq_true]
          exact ⟨k, by simp; omega, hb⟩)
        generalize d.se[k] = va at *
        generalize d.sd[k] = vb at *
        generalize d.sx[k] = vc at *
        generalize d.rv[k] = vd at *
        rw [e1] at z1
        rw [e2] at z2
        rw [e3] at z3
        rw [e4] at z4
        have hkn' : (k : Int) < (n4 : Int) := by omega
        clear e1 e2 e3 e4
        cases hbd : badD d k with
        | true =>
          have hR := Hhit.out hbd
          have Hbt : Hid (badAt st va vb vc vd = true) := Lib.hid (by rw [← Hbad.out, hbd])
          clear hbd
          subst hR
          rcases vb with _ | _ <;> rcases vd with _ | _ <;> by_cases hva : va = 0 <;> by_cases hvc : vc = 0 <;> by_cases hs1 : st = 1 <;>
          first
            | (exfalso; have := Hbt.out; simp [badAt, hva, hvc, hs1] at this; done)
            | (go_wp2; go_ret; exact ⟨rfl, Hb0.out⟩)
        | false =>
          have Hbt : Hid (badAt st va vb vc vd = false) := Lib.hid (by rw [← Hbad.out, hbd])
          have Hany2 : Hid ((List.range (k + 1)).any (badD d) = false) := Lib.hid (by rw [Hnext.out, Hany.out, hbd]; rfl)
          clear hbd
          rcases vb with _ | _ <;> rcases vd with _ | _ <;> by_cases hva : va = 0 <;> by_cases hvc : vc = 0 <;> by_cases hs1 : st = 1 <;>
          first
            | (exfalso; have := Hbt.out; simp [badAt, hva, hvc, hs1] at this; done)
            | (go_wp2
               go_round
               case rel => exact ⟨k + 1, by omega, by go_num, Hany2⟩
               case measure => simp [intOf]; omega)
      · have hkn' : ¬ (k : Int) < (n4 : Int) := by omega
        have hkk : k = n4 := by omega
        have hR : res = 0 := by rw [Hres.out, ← hkk, Hany.out]; rfl
        subst hR
        go_wp2
        go_ret
        exact ⟨rfl, Hb0.out⟩
  · have hR : res = 22 := by
      rw [Hc.out, Hf.out, if_neg]
      intro h
      simp at h
      exact hform (by omega)
    subst hR
    clear Hc Hf
    have g3 : (((n : Int) < 1 ∨ 5 < (n : Int)) ∨ st < 1 ∨ 3 < st) ∨ ¬ (n2 : Int) = n ∨ ¬ (n3 : Int) = n ∨ ¬ (n4 : Int) = n := by omega
    go_enter Try.func16, Try.ntmps16
    by_cases q1 : st < 1
    · go_wp2; go_ret; exact ⟨rfl, (by repeat' (first | with_reducible exact Below.refl _ _ | with_reducible refine below_drewN ?_ _ | with_reducible refine Below.drew ?_ | with_reducible refine Below.alloc ?_ ?_ _ | with_reducible refine Below.setCell ?_ ?_ _ | with_reducible refine Below.trans ?_ (Below.mono (by with_reducible assumption) ?_) | (simp; done) | (simp; omega) | omega))⟩
    · by_cases q2 : 3 < st
      · go_wp2; go_ret; exact ⟨rfl, (by repeat' (first | with_reducible exact Below.refl _ _ | with_reducible refine below_drewN ?_ _ | with_reducible refine Below.drew ?_ | with_reducible refine Below.alloc ?_ ?_ _ | with_reducible refine Below.setCell ?_ ?_ _ | with_reducible refine Below.trans ?_ (Below.mono (by with_reducible assumption) ?_) | (simp; done) | (simp; omega) | omega))⟩
      · by_cases q3 : (n : Int) < 1
        · go_wp2; go_ret; exact ⟨rfl, (by repeat' (first | with_reducible exact Below.refl _ _ | with_reducible refine below_drewN ?_ _ | with_reducible refine Below.drew ?_ | with_reducible refine Below.alloc ?_ ?_ _ | with_reducible refine Below.setCell ?_ ?_ _ | with_reducible refine Below.trans ?_ (Below.mono (by with_reducible assumption) ?_) | (simp; done) | (simp; omega) | omega))⟩
        · by_cases q4 : 5 < (n : Int)
          · go_wp2; go_ret; exact ⟨rfl, (by repeat' (first | with_reducible exact Below.refl _ _ | with_reducible refine below_drewN ?_ _ | with_reducible refine Below.drew ?_ | with_reducible refine Below.alloc ?_ ?_ _ | with_reducible refine Below.setCell ?_ ?_ _ | with_reducible refine Below.trans ?_ (Below.mono (by with_reducible assumption) ?_) | (simp; done) | (simp; omega) | omega))⟩
          · by_cases q5 : (n2 : Int) = n
            · by_cases q6 : (n3 : Int) = n
              · have q7 : ¬ (n4 : Int) = n := by omega
                clear g3
                go_wp2; go_ret; exact ⟨rfl, (by repeat' (first | with_reducible exact Below.refl _ _ | with_reducible refine below_drewN ?_ _ | with_reducible refine Below.drew ?_ | with_reducible refine Below.alloc ?_ ?_ _ | with_reducible refine Below.setCell ?_ ?_ _ | with_reducible refine Below.trans ?_ (Below.mono (by with_reducible assumption) ?_) | (simp; done) | (simp; omega) | omega))⟩
              · clear g3
                go_wp2; go_ret; exact ⟨rfl, (by repeat' (first | with_reducible exact Below.refl _ _ | with_reducible refine below_drewN ?_ _ | with_reducible refine Below.drew ?_ | with_reducible refine Below.alloc ?_ ?_ _ | with_reducible refine Below.setCell ?_ ?_ _ | with_reducible refine Below.trans ?_ (Below.mono (by with_reducible assumption) ?_) | (simp; done) | (simp; omega) | omega))⟩
            · clear g3
              go_wp2; go_ret; exact ⟨rfl, (by repeat' (first | with_reducible exact Below.refl _ _ | with_reducible refine below_drewN ?_ _ | with_reducible refine Below.drew ?_ | with_reducible refine Below.alloc ?_ ?_ _ | with_reducible refine Below.setCell ?_ ?_ _ | with_reducible refine Below.trans ?_ (Below.mono (by with_reducible assumption) ?_) | (simp; done) | (simp; omega) | omega))⟩
end Go.Proofs.Ytbkkmgofjhaaoaa
