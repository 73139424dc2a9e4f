/- Plain: a line that is one square narrower on all sides; what is measured, decided and clipped. -/
import Derived.BigQuiet
import Derived.Deep.QuietTactic
import Derived.Test.YtfmkmhhghmdakaaGreatDoorCA
import Derived.Test.YtfmkmhhghmdakaaGreatDoorCC
import Derived.Test.YtfmkmhhghmdakaaGreatDoorCF
import Derived.Test.YtfmkmhhghmdakaaGreatDoorCH
import Derived.Test.YtfmkmhhghmdakaaGreatDoorCI
namespace Go.Proofs.YtfmkmhhghmdakaaGreatDoor
open Go.RowKit Go.Shelf
set_option linter.unusedVariables false
set_option linter.unusedSimpArgs false

def wideQ (q : R4) : R4 := ⟨q.l - 1, q.b - 1, q.r + 1, q.t + 1⟩
def widP (l : List R4) : List R4 := l.map wideQ
theorem widP_len (l : List R4) : (widP l).length = l.length := by simp [widP]
/-- Numbers that no sum of ours wraps. -/
def BdQ (q : R4) : Prop := (-100000 ≤ q.l ∧ q.l ≤ 100000) ∧ (-100000 ≤ q.b ∧ q.b ≤ 100000) ∧ (-100000 ≤ q.r ∧ q.r ≤ 100000) ∧ (-100000 ≤ q.t ∧ q.t ≤ 100000)
set_option maxHeartbeats 1000000 in
theorem shrinkB_fn (w : World) : BoolFn 53 #[] notB w := by
  intro W x y _
  show Calls Tryz.prog 53 #[.bool x, .bool y] W _
  cases x <;> cases y
  all_goals go_enter Tryz.func53, Tryz.ntmps53
  all_goals go_wp2
  all_goals go_ret
  all_goals exact ⟨rfl, (by repeat' (first | with_reducible exact Below.refl _ _ | with_reducible refine below_drewN ?_ _ | with_reducible refine Below.drew ?_ | with_reducible refine Below.alloc ?_ ?_ _ | with_reducible refine Below.setCell ?_ ?_ _ | with_reducible refine Below.trans ?_ (Below.mono (by with_reducible assumption) ?_) | (simp; done) | (simp; omega) | omega))⟩
set_option maxHeartbeats 4000000 in
set_option maxRecDepth 100000 in
theorem wider_any (A : Option Addr) (n c : Nat) (l : List R4) (w : World) (hA : SlR w A n c l) (hn : n ≤ 1000) (hb : ∀ q ∈ l, BdQ q) :
    Calls Tryz.prog 55 #[.slice A n c, .int .i64 1] w (RPost w (widP l)) := by
  obtain ⟨i0, hi, hz0, hz1, hz2⟩ := info_parts Tryz.infoRect
  have hl := hA.len
  have HA := Lib.hid hA
  have HB := Lib.hid hb
  have Hl := Lib.hid hl
  clear hA hb
  go_enter Tryz.func55, Tryz.ntmps55
  go_wp2
  go_loopw [5, 10] (fun ov iv wr => ∃ k : Nat, k ≤ n ∧ iv = .int .i64 (k : Int) ∧ wr.ownsRow w.heap.size 68 4 ov k (rCells (widP (l.take k))) ∧ Below w.heap.size w wr) (fun _ iv _ => n - (intOf iv).toNat)
  case atStart => exact ⟨0, Nat.zero_le _, rfl, World.ownsRow_nil _ _ _ _, Below.refl _ _⟩
  case round =>
    obtain ⟨wo, rfl⟩ : ∃ wo : World, wo = wr := ⟨_, rfl⟩
    obtain ⟨k, hk, rfl, hown, hbw⟩ := hrel
    have Hown := Lib.hid hown
    have Hbw := Lib.hid hbw
    have hsw := hbw.size
    clear hown hbw
    by_cases hkn : k < n
    · have hkn' : (k : Int) < (n : Int) := by omega
      have hkl : k < l.length := by rw [Hl.out]; exact hkn
      obtain ⟨b, off, rfl, hbl, c0, c1, c2, c3⟩ := (HA.out.below Hbw.out).at k hkl
      have hq := HB.out l[k] (List.getElem_mem hkl)
      have htk : l.take (k + 1) = l.take k ++ [l[k]] := List.take_succ_eq_append_getElem hkl
      obtain ⟨q, hqe⟩ : ∃ q, q = l[k] := ⟨_, rfl⟩
      rw [← hqe] at c0 c1 c2 c3 hq htk
      have Htk := Lib.hid htk
      clear hqe htk
      obtain ⟨⟨h1, h1'⟩, ⟨h2, h2'⟩, ⟨h3, h3'⟩, h4, h4'⟩ := hq
      have e1 : IntKind.i64.wrap (q.l - 1) = q.l - 1 := IntWalk.i64_in _ (by omega)
      have e2 : IntKind.i64.wrap (q.b - 1) = q.b - 1 := IntWalk.i64_in _ (by omega)
      have e3 : IntKind.i64.wrap (q.r + 1) = q.r + 1 := IntWalk.i64_in _ (by omega)
      have e4 : IntKind.i64.wrap (q.t + 1) = q.t + 1 := IntWalk.i64_in _ (by omega)
      go_upto_region 5 with fail
      obtain ⟨w1, hw1⟩ : ∃ w1 : World, w1 = wo.alloc (.cells #[.int .i64 q.l, .int .i64 q.b, .int .i64 q.r, .int .i64 q.t] 68) := ⟨_, rfl⟩
      rw [← hw1]
      have hr1 : w1.heap[wo.heap.size]? = some (.cells #[.int .i64 q.l, .int .i64 q.b, .int .i64 q.r, .int .i64 q.t] 68 (0, 0)) := by rw [hw1]; exact heap_alloc_new wo _
      have Hb1 : Hid (Below wo.heap.size wo w1) := Lib.hid (by rw [hw1]; exact (Below.refl _ _).alloc (Nat.le_refl _) _)
      have hs1 : w1.heap.size = wo.heap.size + 1 := by rw [hw1]; simp
      have Hown1 : Hid (w1.ownsRow w.heap.size 68 4 u5 k (rCells (widP (l.take k)))) := Lib.hid (ownsRow_below Hown.out Hb1.out)
      have d0 := cell_of_row _ _ 0 _ _ _ hr1
      have d1 := cell_of_row _ _ 1 _ _ _ hr1
      have d2 := cell_of_row _ _ 2 _ _ _ hr1
      have d3 := cell_of_row _ _ 3 _ _ _ hr1
      have Hs1 := Lib.hid hs1
      have hsl1 : w.heap.size ≤ w1.heap.size := by omega
      clear hw1 hr1 c0 c1 c2 c3 hs1
      go_wp2_with (first
        | (at_builtin
           refine wpList_append_any _ rfl (.tmp 14) (.tmp 32) _ rfl w.heap.size 68 i0 _ 4 32 Tryz.underlying31 hi hz0 hz1 hz2 rfl (by omega) _ k (rCells (widP (l.take k))) rfl
             (Hown1.out.alloc _) (w1.heap.size + 1) _ 1 1 [.int .i64 (q.l - 1), .int .i64 (q.b - 1), .int .i64 (q.r + 1), .int .i64 (q.t + 1)] rfl ⟨rfl, fun _ => ⟨_, rfl, Nat.lt_succ_self _, fun j u hu => (by exact news_any _ _ _ j u hu)⟩⟩ (by simp [Value.oneCell']) (by simp only [maxLen]; omega) (by omega) (by rw [World.size_alloc]; omega) ?_
           intro v2 w2 hown2 hg2 hat2
           have Hown2 := Lib.hid hown2
           have Hg2 := Lib.hid hg2
           clear hown2 hg2 hat2)
        | fail)
      go_roundw
      case rel =>
        refine ⟨k + 1, by omega, by go_num, ?_, ?_⟩
        · rw [Htk.out, widP, List.map_append, List.map_singleton, rCells_snoc]
          exact Hown2.out
        · have hb3 : Below w.heap.size w (w1.alloc (.cells #[.int .i64 (q.l - 1), .int .i64 (q.b - 1), .int .i64 (q.r + 1), .int .i64 (q.t + 1)] 68)) := (Hbw.out.trans (Hb1.out.mono hsw)).alloc hsl1 _
          exact hb3.grown Hg2.out hb3.size (own_base Hown1.out)
      case measure => simp [intOf]; omega
    · have hkn' : ¬ (k : Int) < (n : Int) := by omega
      have e : l.take k = l := List.take_of_length_le (by rw [Hl.out]; omega)
      have hkn2 : k = (widP l).length := by rw [widP_len, Hl.out]; omega
      rw [e] at Hown
      go_wp2
      go_ret
      exact ⟨_, rfl, by rw [← hkn2]; exact Hown.out, Hbw.out⟩
def bxQ (a q : R4) : R4 := ⟨min a.l q.l, min a.b q.b, max a.r q.r, max a.t q.t⟩
def boundsP (l : List R4) : R4 := l.foldl bxQ (l.headD ⟨0, 0, 0, 0⟩)
set_option maxHeartbeats 1000000 in
theorem checkS_any (A : Option Addr) (n c : Nat) (l : List R4) (w : World) (hA : SlR w A n c l) (hv : validP l = true) :
    Calls Tryz.prog 51 #[.agg #[.slice A n c], .int .i64 1] w fun e w' => e = .returned (.int .i64 0) ∧ Below w.heap.size w w' := by
  have HV := Lib.hid (valid_any A n c l (w.alloc (.cells #[.slice A n c] 33)) (hA.alloc _))
  rw [hv] at HV
  clear hA hv
  go_enter Tryz.func51, Tryz.ntmps51
  go_wp2_with (first
    | (go_at_call 48; refine HV.out.mono ?_; rintro e w1 ⟨rfl, hb1⟩; have Hb1 : Hid (Below w.heap.size w w1) := Lib.hid (show Below w.heap.size w w1 from (by have hbq := hb1; exact (by repeat' (first | with_reducible exact Below.refl _ _ | with_reducible assumption | with_reducible refine below_drewN ?_ _ | with_reducible refine Below.drew ?_ | with_reducible refine Below.alloc ?_ ?_ _ | with_reducible refine Below.setCell ?_ ?_ _ | with_reducible refine Below.trans ?_ (Below.mono (by with_reducible assumption) ?_) | with_reducible refine below_only ?_ (by with_reducible assumption) ?_ ?_ | (simp; done) | (simp; omega) | omega)))); clear hb1)
    | fail)
  go_ret
  exact ⟨rfl, Hb1.out⟩
set_option maxHeartbeats 4000000 in
set_option maxRecDepth 100000 in
theorem bounds_any (A : Option Addr) (n c : Nat) (l : List R4) (w : World) (hA : SlR w A n c l) (hv : validP l = true) (hne : 0 < n) :
    Calls Tryz.prog 52 #[.agg #[.slice A n c]] w fun e w' => e = .returned (.tuple #[.agg #[.int .i64 (boundsP l).l, .int .i64 (boundsP l).b, .int .i64 (boundsP l).r, .int .i64 (boundsP l).t], .bool true]) ∧ Below w.heap.size w w' := by
  have hl := hA.len
  have Hl := Lib.hid hl
  have HA := Lib.hid hA
  have HV : Hid (∀ W, SlR W A n c l → Calls Tryz.prog 48 #[.agg #[.slice A n c]] W fun e w' => e = .returned (.bool true) ∧ Below W.heap.size W w') := Lib.hid (fun W h => by have := valid_any A n c l W h; rw [hv] at this; exact this)
  have hn120 : n ≤ 120 := by have := (valid_parts hv).1; omega
  have hn0 : ¬ (n = 0) := by omega
  have hnI : (0 : Int) < (n : Int) := by omega
  clear hA hv hl
  go_enter Tryz.func52, Tryz.ntmps52
  go_upto_region 1 with fail
  obtain ⟨w1, hw1⟩ : ∃ w1 : World, w1 = (w.alloc (.cells #[.slice A n c] 33)).alloc (.cells #[.int .i64 0, .int .i64 0, .int .i64 0, .int .i64 0] 68) := ⟨_, rfl⟩
  rw [← hw1]
  have hE1 : w1.heap[w.heap.size]? = some (.cells #[.slice A n c] 33 (0, 0)) := by rw [hw1]; exact (Below.heap_alloc _ _ _ (by simp)).trans (heap_alloc_new w _)
  have hZ1 : w1.heap[w.heap.size + 1]? = some (.cells #[.int .i64 0, .int .i64 0, .int .i64 0, .int .i64 0] 68 (0, 0)) := by rw [hw1]; exact heap_alloc2_new w _ _
  have Hb1 : Hid (Below w.heap.size w w1) := Lib.hid (by rw [hw1]; exact (by repeat' (first | with_reducible exact Below.refl _ _ | with_reducible refine below_drewN ?_ _ | with_reducible refine Below.drew ?_ | with_reducible refine Below.alloc ?_ ?_ _ | with_reducible refine Below.setCell ?_ ?_ _ | with_reducible refine Below.trans ?_ (Below.mono (by with_reducible assumption) ?_) | (simp; done) | (simp; omega) | omega)))
  have hs1 : w1.heap.size = w.heap.size + 2 := by rw [hw1]; simp
  obtain ⟨E, hE⟩ : ∃ E, E = w.heap.size := ⟨_, rfl⟩
  rw [← hE] at hE1 hZ1 hs1 ⊢
  have HE := Lib.hid hE
  have HE1 := Lib.hid hE1
  have HZ1 := Lib.hid hZ1
  have HA1 := Lib.hid (HA.out.below Hb1.out)
  have e1 := cell_of_row _ _ 0 _ _ _ hE1
  clear hw1 hE hE1 hZ1 HA
  go_upto_region 3 with (first
    | (go_at_call 48; refine (HV.out _ HA1.out).mono ?_; rintro e w2 ⟨rfl, hb2⟩; have e2 := cell_of_row _ _ 0 _ _ _ ((hb2.block E (by omega)).trans HE1.out); have Hb2 := Lib.hid hb2; have hs2 := hb2.size; clear hb2 e1)
    | fail)
  have HA2 := Lib.hid (HA1.out.below Hb2.out)
  obtain ⟨b, off, rfl, hbl, c0, c1, c2, c3⟩ := HA2.out.at 0 (by rw [Hl.out]; omega)
  obtain ⟨q0, hq0⟩ : ∃ q0, q0 = l[0]'(by rw [Hl.out]; omega) := ⟨_, rfl⟩
  rw [← hq0, Nat.zero_mul, Nat.add_zero] at c0
  rw [← hq0, Nat.zero_mul, Nat.add_zero] at c1 c2 c3
  have Hq0 : Hid (l.headD ⟨0, 0, 0, 0⟩ = q0) := Lib.hid (by
    rw [hq0]
    cases l with
    | nil => have := Hl.out; simp at this; omega
    | cons x t => rfl)
  clear hq0
  go_upto_region 4 with fail
  obtain ⟨w3, hw3⟩ : ∃ w3 : World, w3 = w2.alloc (.cells #[.int .i64 q0.l, .int .i64 q0.b, .int .i64 q0.r, .int .i64 q0.t] 68) := ⟨_, rfl⟩
  rw [← hw3]
  obtain ⟨O, hO⟩ : ∃ O, O = w2.heap.size := ⟨_, rfl⟩
  have hOr : w3.heap[O]? = some (.cells #[.int .i64 q0.l, .int .i64 q0.b, .int .i64 q0.r, .int .i64 q0.t] 68 (0, 0)) := by rw [hw3, hO]; exact heap_alloc_new w2 _
  have Hb3 : Hid (Below w.heap.size w w3) := Lib.hid (by rw [hw3]; exact (Hb1.out.trans (Hb2.out.mono (by have := HE.out; omega))).alloc (by have := HE.out; omega) _)
  have Hb23 : Hid (Below w2.heap.size w2 w3) := Lib.hid (by rw [hw3]; exact (by repeat' (first | with_reducible exact Below.refl _ _ | with_reducible refine below_drewN ?_ _ | with_reducible refine Below.drew ?_ | with_reducible refine Below.alloc ?_ ?_ _ | with_reducible refine Below.setCell ?_ ?_ _ | with_reducible refine Below.trans ?_ (Below.mono (by with_reducible assumption) ?_) | (simp; done) | (simp; omega) | omega)))
  have hs3 : w3.heap.size = O + 1 := by rw [hw3, hO]; simp
  rw [← hO] at hbl hs2 ⊢
  have HOr := Lib.hid hOr
  have HE3 := Lib.hid ((Hb23.out.block E (by omega)).trans ((Hb2.out.block E (by omega)).trans HE1.out))
  have HZ3 := Lib.hid ((Hb23.out.block (E + 1) (by omega)).trans ((Hb2.out.block (E + 1) (by omega)).trans HZ1.out))
  have HA3 := Lib.hid (HA2.out.below Hb23.out)
  have e3 := cell_of_row _ _ 0 _ _ _ HE3.out
  clear hw3 hO hOr c0 c1 c2 c3 e2 HA1 HA2
  go_wp2
  go_loopw [24] (fun iv wr => ∃ (k : Nat) (q : R4), k ≤ n ∧ iv = .int .i64 (k : Int) ∧ q = (l.take k).foldl bxQ q0 ∧ wr.heap[O]? = some (.cells #[.int .i64 q.l, .int .i64 q.b, .int .i64 q.r, .int .i64 q.t] 68 (0, 0)) ∧ wr.grownBy wr (some O) ∧ w3.grownBy wr (some O)) (fun iv _ => n - (intOf iv).toNat)
  case atStart => exact ⟨0, q0, Nat.zero_le _, rfl, rfl, HOr.out, World.grownBy.refl _ _, World.grownBy.refl _ _⟩
  case round =>
    obtain ⟨wo, rfl⟩ : ∃ wo : World, wo = wr := ⟨_, rfl⟩
    obtain ⟨k, q, hk, rfl, hq, hor, -, hgo⟩ := hrel
    have Hq := Lib.hid hq
    have Hor := Lib.hid hor
    have Hgo := Lib.hid hgo
    have hso := hgo.size
    clear hq hor hgo
    by_cases hkn : k < n
    · have hkn' : (k : Int) < (n : Int) := by omega
      have hkl : k < l.length := by rw [Hl.out]; exact hkn
      obtain ⟨b', off', hbe, hbl', c0, c1, c2, c3⟩ := (HA3.out.grown Hgo.out (fun b0 off0 e => by injection e with e; injection e with e1; rw [← e1]; intro h; injection h; omega)).at k hkl
      injection hbe with hbe
      injection hbe with hb1 hb2
      subst hb1 hb2
      have htk : l.take (k + 1) = l.take k ++ [l[k]] := List.take_succ_eq_append_getElem hkl
      obtain ⟨x, hxe⟩ : ∃ x, x = l[k] := ⟨_, rfl⟩
      rw [← hxe] at c0 c1 c2 c3 htk
      have Htk := Lib.hid htk
      clear hxe htk
      go_upto_region 7 with fail
      obtain ⟨w4, hw4⟩ : ∃ w4 : World, w4 = wo.alloc (.cells #[.int .i64 x.l, .int .i64 x.b, .int .i64 x.r, .int .i64 x.t] 68) := ⟨_, rfl⟩
      rw [← hw4]
      have hr4 : w4.heap[wo.heap.size]? = some (.cells #[.int .i64 x.l, .int .i64 x.b, .int .i64 x.r, .int .i64 x.t] 68 (0, 0)) := by rw [hw4]; exact heap_alloc_new wo _
      have hb4 : Below wo.heap.size wo w4 := by rw [hw4]; exact (by repeat' (first | with_reducible exact Below.refl _ _ | with_reducible refine below_drewN ?_ _ | with_reducible refine Below.drew ?_ | with_reducible refine Below.alloc ?_ ?_ _ | with_reducible refine Below.setCell ?_ ?_ _ | with_reducible refine Below.trans ?_ (Below.mono (by with_reducible assumption) ?_) | (simp; done) | (simp; omega) | omega))
      have hlO : O < wo.heap.size := (Array.getElem?_eq_some_iff.1 Hor.out).1
      have hO4 := (hb4.block O hlO).trans Hor.out
      have HO4 := Lib.hid hO4
      have Hg4 : Hid (w3.grownBy w4 (some O)) := Lib.hid (Hgo.out.trans (by rw [hw4]; exact World.grownBy_alloc _ _ _))
      have d0 := cell_of_row _ _ 0 _ _ _ hr4
      have d1 := cell_of_row _ _ 1 _ _ _ hr4
      have d2 := cell_of_row _ _ 2 _ _ _ hr4
      have d3 := cell_of_row _ _ 3 _ _ _ hr4
      have o0 := cell_of_row _ _ 0 _ _ _ hO4
      have o1 := cell_of_row _ _ 1 _ _ _ hO4
      have o2 := cell_of_row _ _ 2 _ _ _ hO4
      have o3 := cell_of_row _ _ 3 _ _ _ hO4
      have f0 := frozen_of_row _ _ 0 _ _ hO4
      obtain ⟨m0, hm0⟩ : ∃ m0, m0 = min q.l x.l := ⟨_, rfl⟩
      obtain ⟨m1, hm1⟩ : ∃ m1, m1 = min q.b x.b := ⟨_, rfl⟩
      obtain ⟨m2, hm2⟩ : ∃ m2, m2 = max q.r x.r := ⟨_, rfl⟩
      obtain ⟨m3, hm3⟩ : ∃ m3, m3 = max q.t x.t := ⟨_, rfl⟩
      have p1 : (w4.setCell ⟨O, 0, none⟩ (.int .i64 m0)).heap[O]? = some (.cells #[.int .i64 m0, .int .i64 q.b, .int .i64 q.r, .int .i64 q.t] 68 (0, 0)) := heap_setCell_same w4 O 0 _ _ _ hO4
      have p2 : ((w4.setCell ⟨O, 0, none⟩ (.int .i64 m0)).setCell ⟨O, 1, none⟩ (.int .i64 m1)).heap[O]? = some (.cells #[.int .i64 m0, .int .i64 m1, .int .i64 q.r, .int .i64 q.t] 68 (0, 0)) := heap_setCell_same _ O 1 _ _ _ p1
      have p3 : (((w4.setCell ⟨O, 0, none⟩ (.int .i64 m0)).setCell ⟨O, 1, none⟩ (.int .i64 m1)).setCell ⟨O, 2, none⟩ (.int .i64 m2)).heap[O]? = some (.cells #[.int .i64 m0, .int .i64 m1, .int .i64 m2, .int .i64 q.t] 68 (0, 0)) := heap_setCell_same _ O 2 _ _ _ p2
      have p4 : ((((w4.setCell ⟨O, 0, none⟩ (.int .i64 m0)).setCell ⟨O, 1, none⟩ (.int .i64 m1)).setCell ⟨O, 2, none⟩ (.int .i64 m2)).setCell ⟨O, 3, none⟩ (.int .i64 m3)).heap[O]? = some (.cells #[.int .i64 m0, .int .i64 m1, .int .i64 m2, .int .i64 m3] 68 (0, 0)) := heap_setCell_same _ O 3 _ _ _ p3
      have g4 : w3.grownBy ((((w4.setCell ⟨O, 0, none⟩ (.int .i64 m0)).setCell ⟨O, 1, none⟩ (.int .i64 m1)).setCell ⟨O, 2, none⟩ (.int .i64 m2)).setCell ⟨O, 3, none⟩ (.int .i64 m3)) (some O) := only_setCell (only_setCell (only_setCell (only_setCell Hg4.out (.inl rfl) _) (.inl rfl) _) (.inl rfl) _) (.inl rfl) _
      have f1 := frozen_of_row _ _ 1 _ _ p1
      have f2 := frozen_of_row _ _ 2 _ _ p2
      have f3 := frozen_of_row _ _ 3 _ _ p3
      have q1 := cell_of_row _ _ 1 _ _ _ p1
      have q2 := cell_of_row _ _ 2 _ _ _ p2
      have q3 := cell_of_row _ _ 3 _ _ _ p3
      rw [hm0, hm1, hm2, hm3] at p4 g4
      rw [hm0, hm1, hm2] at f3 q3
      rw [hm0, hm1] at f2 q2
      rw [hm0] at f1 q1
      have P4 := Lib.hid p4
      have G4 := Lib.hid g4
      clear p1 p2 p3 p4 g4 hm0 hm1 hm2 hm3 hr4 hb4 hO4 c0 c1 c2 c3 hw4
      go_wp2_with fail
      go_roundw
      case rel => exact ⟨k + 1, _, by omega, by go_num, by rw [Htk.out, List.foldl_append, ← Hq.out]; first | rfl | skip, P4.out, World.grownBy.refl _ _, G4.out⟩
      case measure => simp [intOf]; omega
    · have hkn' : ¬ (k : Int) < (n : Int) := by omega
      have e : l.take k = l := List.take_of_length_le (by rw [Hl.out]; omega)
      have HZo := Lib.hid ((Hgo.out.block (E + 1) (by omega) (by simp; omega)).trans HZ3.out)
      have hzo := HZo.out
      have o0 := cell_of_row _ _ 0 _ _ _ Hor.out
      have o1 := cell_of_row _ _ 1 _ _ _ Hor.out
      have o2 := cell_of_row _ _ 2 _ _ _ Hor.out
      have o3 := cell_of_row _ _ 3 _ _ _ Hor.out
      have f0 := frozen_of_row _ _ 0 _ _ hzo
      have p1 : (wo.setCell ⟨E + 1, 0, none⟩ (.int .i64 q.l)).heap[E + 1]? = some (.cells #[.int .i64 q.l, .int .i64 0, .int .i64 0, .int .i64 0] 68 (0, 0)) := heap_setCell_same wo (E + 1) 0 _ _ _ hzo
      have p2 : ((wo.setCell ⟨E + 1, 0, none⟩ (.int .i64 q.l)).setCell ⟨E + 1, 1, none⟩ (.int .i64 q.b)).heap[E + 1]? = some (.cells #[.int .i64 q.l, .int .i64 q.b, .int .i64 0, .int .i64 0] 68 (0, 0)) := heap_setCell_same _ (E + 1) 1 _ _ _ p1
      have p3 : (((wo.setCell ⟨E + 1, 0, none⟩ (.int .i64 q.l)).setCell ⟨E + 1, 1, none⟩ (.int .i64 q.b)).setCell ⟨E + 1, 2, none⟩ (.int .i64 q.r)).heap[E + 1]? = some (.cells #[.int .i64 q.l, .int .i64 q.b, .int .i64 q.r, .int .i64 0] 68 (0, 0)) := heap_setCell_same _ (E + 1) 2 _ _ _ p2
      have p4 : ((((wo.setCell ⟨E + 1, 0, none⟩ (.int .i64 q.l)).setCell ⟨E + 1, 1, none⟩ (.int .i64 q.b)).setCell ⟨E + 1, 2, none⟩ (.int .i64 q.r)).setCell ⟨E + 1, 3, none⟩ (.int .i64 q.t)).heap[E + 1]? = some (.cells #[.int .i64 q.l, .int .i64 q.b, .int .i64 q.r, .int .i64 q.t] 68 (0, 0)) := heap_setCell_same _ (E + 1) 3 _ _ _ p3
      have f1 := frozen_of_row _ _ 1 _ _ p1
      have f2 := frozen_of_row _ _ 2 _ _ p2
      have f3 := frozen_of_row _ _ 3 _ _ p3
      have q0' := cell_of_row _ _ 0 _ _ _ hzo
      have q1 := cell_of_row _ _ 1 _ _ _ p1
      have q2 := cell_of_row _ _ 2 _ _ _ p2
      have q3 := cell_of_row _ _ 3 _ _ _ p3
      have r0 := cell_of_row _ _ 0 _ _ _ p4
      have r1 := cell_of_row _ _ 1 _ _ _ p4
      have r2 := cell_of_row _ _ 2 _ _ _ p4
      have r3 := cell_of_row _ _ 3 _ _ _ p4
      have Hq' : Hid (q = boundsP l) := Lib.hid (by rw [Hq.out, e]; unfold boundsP; rw [Hq0.out])
      clear p1 p2 p3 p4 hzo e
      go_wp2_with fail
      refine bodyPost_ret (v := .tuple #[.agg #[.int .i64 q.l, .int .i64 q.b, .int .i64 q.r, .int .i64 q.t], .bool true]) (by simp [results, Tryz.results52, go_sem, *]) rfl ?_
      rw [Hq'.out]
      have hwE : w.heap.size = E := HE.out.symm
      have h3 := Hb3.out.grown Hgo.out (by have := Hb3.out.size; omega) (fun g e => by injection e; omega)
      exact ⟨rfl, (((h3.setCell (by dsimp only; omega) _).setCell (by dsimp only; omega) _).setCell (by dsimp only; omega) _).setCell (by dsimp only; omega) _⟩
end Go.Proofs.YtfmkmhhghmdakaaGreatDoor
namespace Go.Proofs.YtfmkmhhghmdakaaGreatDoor
open Go.RowKit Go.Shelf
set_option linter.unusedVariables false
set_option linter.unusedSimpArgs false

def outP (l : List R4) : List R4 := chooseP notB (widP [boundsP l]) l
def lessP (l : List R4) : List R4 := chooseP notB l (widP (outP l))
set_option maxHeartbeats 8000000 in
set_option maxRecDepth 100000 in
theorem shrink_any (A : Option Addr) (n c : Nat) (l : List R4) (w : World) (hA : SlR w A n c l) (hv : validP l = true) (hne : 0 < n) (hpos : ∀ q ∈ l, q.l < q.r) (hbx : BdQ (boundsP l)) (hbp : (boundsP l).l < (boundsP l).r)
    (ho : (outP l).length ≤ 700) (hob : ∀ q ∈ outP l, BdQ q ∧ q.l < q.r) (hlen : (lessP l).length ≤ 120) :
    Calls Tryz.prog 13 #[.agg #[.slice A n c], .int .i64 1] w (RegPost w (lessP l, 0)) := by
  have hl := hA.len
  have hn120 : n ≤ 120 := by have := (valid_parts hv).1; omega
  have HA := Lib.hid hA
  have eg : ∀ args w, (callFunc 53 args).run Tryz.prog w = .ok (.enter 53 args) w := enters_of Tryz.func53 (by kernel_rfl) rfl
  have HC : Hid (∀ W, SlR W A n c l → Calls Tryz.prog 51 #[.agg #[.slice A n c], .int .i64 1] W fun e w' => e = .returned (.int .i64 0) ∧ Below W.heap.size W w') := Lib.hid (fun W h => checkS_any A n c l W h hv)
  have HB : Hid (∀ W, SlR W A n c l → Calls Tryz.prog 52 #[.agg #[.slice A n c]] W fun e w' => e = .returned (.tuple #[.agg #[.int .i64 (boundsP l).l, .int .i64 (boundsP l).b, .int .i64 (boundsP l).r, .int .i64 (boundsP l).t], .bool true]) ∧ Below W.heap.size W w') := Lib.hid (fun W h => bounds_any A n c l W h hv hne)
  have HW1 : Hid (∀ B W, SlR W B 1 1 [boundsP l] → Calls Tryz.prog 55 #[.slice B 1 1, .int .i64 1] W (RPost W (widP [boundsP l]))) := Lib.hid (fun B W h => wider_any B 1 1 [boundsP l] W h (by omega) (fun q hq => by rw [List.mem_singleton] at hq; subst hq; exact hbx))
  have HX1 : Hid (∀ B m d W, SlR W B m d (widP [boundsP l]) → SlR W A n c l → Calls Tryz.prog 54 #[.slice B m d, .slice A n c, .func (.func 53) #[] #[]] W (RPost W (outP l))) := Lib.hid (fun B m d W h h' => choose_any B A m d n c 53 #[] notB (widP [boundsP l]) l W h h' (by have := h.len; rw [widP_len] at this; simp at this; omega) (by omega) (fun q hq => by simp [widP, wideQ] at hq; subst hq; dsimp only; omega) hpos eg (shrinkB_fn W))
  have HW2 : Hid (∀ B m d W, SlR W B m d (outP l) → Calls Tryz.prog 55 #[.slice B m d, .int .i64 1] W (RPost W (widP (outP l)))) := Lib.hid (fun B m d W h => wider_any B m d (outP l) W h (by have := h.len; omega) (fun q hq => (hob q hq).1))
  have HX2 : Hid (∀ B m d W, SlR W A n c l → SlR W B m d (widP (outP l)) → Calls Tryz.prog 54 #[.slice A n c, .slice B m d, .func (.func 53) #[] #[]] W (RPost W (lessP l))) := Lib.hid (fun B m d W h h' => choose_any A B n c m d 53 #[] notB l (widP (outP l)) W h h' (by omega) (by have := h'.len; rw [widP_len] at this; omega) hpos (fun q hq => by obtain ⟨p, hp, rfl⟩ := List.mem_map.1 hq; have := (hob p hp).2; simp only [wideQ]; omega) eg (shrinkB_fn W))
  have Hlen := Lib.hid hlen
  obtain ⟨bx, hbxe⟩ : ∃ bx, boundsP l = bx := ⟨_, rfl⟩
  obtain ⟨ou, hou⟩ : ∃ ou, outP l = ou := ⟨_, rfl⟩
  obtain ⟨le, hle⟩ : ∃ le, lessP l = le := ⟨_, rfl⟩
  rw [hbxe] at HB HW1 HX1
  rw [hou] at HX1 HW2 HX2
  rw [hle] at HX2 Hlen ⊢
  clear hA hv hpos hbx hbp ho hob hlen eg hbxe hou hle hl
  go_enter Tryz.func13, Tryz.ntmps13
  go_upto_region 1 with fail
  obtain ⟨w1, hw1⟩ : ∃ w1 : World, w1 = (w.alloc (.cells #[.slice A n c] 33)).alloc (.cells #[.slice none 0 0] 33) := ⟨_, rfl⟩
  rw [← hw1]
  have hE1 : w1.heap[w.heap.size]? = some (.cells #[.slice A n c] 33 (0, 0)) := by rw [hw1]; exact (Below.heap_alloc _ _ _ (by simp)).trans (heap_alloc_new w _)
  have hZ1 : w1.heap[w.heap.size + 1]? = some (.cells #[.slice none 0 0] 33 (0, 0)) := by rw [hw1]; exact heap_alloc2_new w _ _
  have Hb1 : Hid (Below w.heap.size w w1) := Lib.hid (by rw [hw1]; exact (by repeat' (first | with_reducible exact Below.refl _ _ | with_reducible refine below_drewN ?_ _ | with_reducible refine Below.drew ?_ | with_reducible refine Below.alloc ?_ ?_ _ | with_reducible refine Below.setCell ?_ ?_ _ | with_reducible refine Below.trans ?_ (Below.mono (by with_reducible assumption) ?_) | (simp; done) | (simp; omega) | omega)))
  have hs1 : w1.heap.size = w.heap.size + 2 := by rw [hw1]; simp
  obtain ⟨E, hE⟩ : ∃ E, E = w.heap.size := ⟨_, rfl⟩
  rw [← hE] at hE1 hZ1 hs1 ⊢
  have HE := Lib.hid hE
  have HE1 := Lib.hid hE1
  have HZ1 := Lib.hid hZ1
  have HA1 := Lib.hid (HA.out.below Hb1.out)
  have e1 := cell_of_row _ _ 0 _ _ _ hE1
  clear hw1 hE hE1 hZ1 HA
  go_upto_region 4 with (first
    | (go_at_call 51; refine (HC.out _ HA1.out).mono ?_; rintro e w2 ⟨rfl, hb2⟩; have HE2 := Lib.hid ((hb2.block E (by omega)).trans HE1.out); have e2 := cell_of_row _ _ 0 _ _ _ HE2.out; have Hb2 := Lib.hid hb2; have hs2 := hb2.size; have HA2 := Lib.hid (HA1.out.below hb2); clear hb2 e1)
    | fail)
  go_upto_region 8 with (first
    | (go_at_call 52; refine (HB.out _ HA2.out).mono ?_; rintro e w3 ⟨rfl, hb3⟩; have Hb3 : Hid (Below w1.heap.size w1 w3) := Lib.hid (Hb2.out.trans (hb3.mono hs2)); have hs3 := Hb3.out.size; clear hb3 e2)
    | fail)
  obtain ⟨w4, hw4⟩ : ∃ w4 : World, w4 = w3.alloc (.cells #[.int .i64 bx.l, .int .i64 bx.b, .int .i64 bx.r, .int .i64 bx.t] 68) := ⟨_, rfl⟩
  rw [← hw4]
  have hX4 : w4.heap[w3.heap.size]? = some (.cells #[.int .i64 bx.l, .int .i64 bx.b, .int .i64 bx.r, .int .i64 bx.t] 68 (0, 0)) := by rw [hw4]; exact heap_alloc_new w3 _
  have Hb4 : Hid (Below w1.heap.size w1 w4) := Lib.hid (by rw [hw4]; exact Hb3.out.alloc hs3 _)
  have hs4 : w4.heap.size = w3.heap.size + 1 := by rw [hw4]; simp
  have HX4 := Lib.hid hX4
  have HE4 := Lib.hid ((Hb4.out.block E (by omega)).trans HE1.out)
  have HZ4 := Lib.hid ((Hb4.out.block (E + 1) (by omega)).trans HZ1.out)
  have HA4 := Lib.hid (HA1.out.below Hb4.out)
  clear hw4 hX4
  have x0 := cell_of_row _ _ 0 _ _ _ HX4.out
  have x1 := cell_of_row _ _ 1 _ _ _ HX4.out
  have x2 := cell_of_row _ _ 2 _ _ _ HX4.out
  have x3 := cell_of_row _ _ 3 _ _ _ HX4.out
  have y0 := cell_of_row _ _ 0 _ _ _ HE4.out
  obtain ⟨X, hX⟩ : ∃ X, X = w3.heap.size := ⟨_, rfl⟩
  rw [← hX] at x0 x1 x2 x3 HX4 hs4 ⊢
  have hEX : E + 1 < X := by omega
  clear hX
  refine wp_region_held_tail (S := fun w' => w'.cell? ⟨E, 0, none⟩ = some (.slice A n c) ∧ w'.cell? ⟨X, 0, none⟩ = some (.int .i64 bx.l) ∧ w'.cell? ⟨X, 1, none⟩ = some (.int .i64 bx.b) ∧ w'.cell? ⟨X, 2, none⟩ = some (.int .i64 bx.r) ∧ w'.cell? ⟨X, 3, none⟩ = some (.int .i64 bx.t)) 8 (by kernel_rfl) (by kernel_rfl) (by kernel_rfl) ?_
  have hHeld : (fun w' : World => w'.cell? ⟨E, 0, none⟩ = some (.slice A n c) ∧ w'.cell? ⟨X, 0, none⟩ = some (.int .i64 bx.l) ∧ w'.cell? ⟨X, 1, none⟩ = some (.int .i64 bx.b) ∧ w'.cell? ⟨X, 2, none⟩ = some (.int .i64 bx.r) ∧ w'.cell? ⟨X, 3, none⟩ = some (.int .i64 bx.t)) w4.drew := ⟨y0, x0, x1, x2, x3⟩
  clear x0 x1 x2 x3 y0
  simp only [List.take_succ_cons, List.take_zero, List.replicate]
  refine wpAnyH_take (i := 0) (v := ?vva0) rfl (by kernel_rfl) (by kernel_rfl) (by kernel_rfl) (fun _ _ _ h => h) (Or.inl ⟨by rfl, ?hya0⟩) hHeld ?resta0; (case hya0 => (intro w hSw; (try dsimp only at hSw); go_simp; all_goals (with_reducible rfl))); simp only [Act.put, List.getElem_toArray, List.getElem_cons_zero, List.getElem_cons_succ, List.setIfInBounds_toArray, List.set_cons_zero, List.set_cons_succ]
  refine wpAnyH_take (i := 2) (v := ?vva2) rfl (by kernel_rfl) (by kernel_rfl) (by kernel_rfl) (fun _ _ _ h => h) (Or.inl ⟨by rfl, ?hya2⟩) hHeld ?resta2; (case hya2 => (intro w hSw; (try dsimp only at hSw); go_simp; all_goals (with_reducible rfl))); simp only [Act.put, List.getElem_toArray, List.getElem_cons_zero, List.getElem_cons_succ, List.setIfInBounds_toArray, List.set_cons_zero, List.set_cons_succ]
  refine wpAnyH_take (i := 4) (v := ?vva4) rfl (by kernel_rfl) (by kernel_rfl) (by kernel_rfl) (fun _ _ _ h => h) (Or.inl ⟨by rfl, ?hya4⟩) hHeld ?resta4; (case hya4 => (intro w hSw; (try dsimp only at hSw); go_simp; all_goals (with_reducible rfl))); simp only [Act.put, List.getElem_toArray, List.getElem_cons_zero, List.getElem_cons_succ, List.setIfInBounds_toArray, List.set_cons_zero, List.set_cons_succ]
  refine wpAnyH_take (i := 5) (v := ?vva5) rfl (by kernel_rfl) (by kernel_rfl) (by kernel_rfl) (fun _ _ _ h => h) (Or.inl ⟨by rfl, ?hya5⟩) hHeld ?resta5; (case hya5 => (intro w hSw; (try dsimp only at hSw); go_simp; all_goals (with_reducible rfl))); simp only [Act.put, List.getElem_toArray, List.getElem_cons_zero, List.getElem_cons_succ, List.setIfInBounds_toArray, List.set_cons_zero, List.set_cons_succ]
  refine wpAnyH_take (i := 6) (v := ?vva6) rfl (by kernel_rfl) (by kernel_rfl) (by kernel_rfl) (fun _ _ _ h => h) (Or.inl ⟨by rfl, ?hya6⟩) hHeld ?resta6; (case hya6 => (intro w hSw; (try dsimp only at hSw); go_simp; all_goals (with_reducible rfl))); simp only [Act.put, List.getElem_toArray, List.getElem_cons_zero, List.getElem_cons_succ, List.setIfInBounds_toArray, List.set_cons_zero, List.set_cons_succ]
  refine wpAnyH_ready (rs := [1]) (by kernel_rfl) (by simp) ?_; refine AllReadyH.cons rfl (fun K hK => ?_) AllReadyH.nil
  go_simp
  obtain ⟨w5, hw5⟩ : ∃ w5 : World, w5 = (w4.alloc (.cells #[.int .i64 bx.l, .int .i64 bx.b, .int .i64 bx.r, .int .i64 bx.t] 68)).drew := ⟨_, rfl⟩
  rw [← hw5]
  have HS5 : Hid (SlR w5 (some ⟨X + 1, 0, none⟩) 1 1 [bx]) := Lib.hid (by rw [hw5]; exact (SlR.lit w4 _ _ [bx] 1 (X + 1) hs4.symm rfl (by omega) rfl).below (Below.drew (Below.refl _ _)))
  have hb5 : Below w4.heap.size w4 w5 := by rw [hw5]; exact Below.drew ((Below.refl _ _).alloc (Nat.le_refl _) _)
  have Hb5 := Lib.hid hb5
  have hs5 := hb5.size
  clear hb5 hw5
  have hX4 : X < w4.heap.size := by omega
  have hE4 : E < w4.heap.size := by omega
  have Hst : Hid (∀ W, Below w4.heap.size w4 W → W.cell? ⟨E, 0, none⟩ = some (.slice A n c) ∧ W.cell? ⟨X, 0, none⟩ = some (.int .i64 bx.l) ∧ W.cell? ⟨X, 1, none⟩ = some (.int .i64 bx.b) ∧ W.cell? ⟨X, 2, none⟩ = some (.int .i64 bx.r) ∧ W.cell? ⟨X, 3, none⟩ = some (.int .i64 bx.t)) := Lib.hid (fun W hW => by
    have h1 := (hW.block X hX4).trans HX4.out
    exact ⟨cell_of_row _ _ 0 _ _ _ ((hW.block E hE4).trans HE4.out), cell_of_row _ _ 0 _ _ _ h1, cell_of_row _ _ 1 _ _ _ h1, cell_of_row _ _ 2 _ _ _ h1, cell_of_row _ _ 3 _ _ _ h1⟩)
  refine hK.out _ _ (Hst.out _ Hb5.out) (fun hHeld => ?_)
  clear hK K
  (try simp only [Act.put, List.getElem_toArray, List.getElem_cons_zero, List.getElem_cons_succ, List.setIfInBounds_toArray, List.set_cons_zero, List.set_cons_succ])
  refine wpAnyH_ready (rs := [3]) (by kernel_rfl) (by simp) ?_; refine AllReadyH.cons rfl (fun K hK => ?_) AllReadyH.nil
  go_simp
  refine (HW1.out _ _ HS5.out).mono ?_
  rintro e w6 ⟨v6, rfl, hown6, hb6⟩
  obtain ⟨B6, c6, rfl, hS6, _⟩ := SlR.of_own2 hown6
  have HS6 := Lib.hid hS6
  have Hb6 := Lib.hid (Hb5.out.trans (hb6.mono hs5))
  have hs6 := Hb6.out.size
  clear hown6 hb6 hS6
  refine hK.out _ _ (Hst.out _ Hb6.out) (fun hHeld => ?_)
  clear hK K
  (try simp only [Act.put, List.getElem_toArray, List.getElem_cons_zero, List.getElem_cons_succ, List.setIfInBounds_toArray, List.set_cons_zero, List.set_cons_succ])
  refine wpAnyH_ready (rs := [7]) (by kernel_rfl) (by simp) ?_; refine AllReadyH.cons rfl (fun K hK => ?_) AllReadyH.nil
  go_simp
  refine (HX1.out _ _ _ _ HS6.out (HA4.out.below Hb6.out)).mono ?_
  rintro e w7 ⟨v7, rfl, hown7, hb7⟩
  obtain ⟨B7, c7, rfl, hS7, _⟩ := SlR.of_own2 hown7
  have HS7 := Lib.hid hS7
  have Hb7 := Lib.hid (Hb6.out.trans (hb7.mono hs6))
  have hs7 := Hb7.out.size
  clear hown7 hb7 hS7
  refine hK.out _ _ (Hst.out _ Hb7.out) (fun hHeld => ?_)
  clear hK K
  (try simp only [Act.put, List.getElem_toArray, List.getElem_cons_zero, List.getElem_cons_succ, List.setIfInBounds_toArray, List.set_cons_zero, List.set_cons_succ])
  refine wpAnyH_done (by kernel_rfl) ?_ _
  clear hHeld
  show wpList _ _ _ _ _ _
  go_upto_region 9 with fail
  have HE7 := Lib.hid ((Hb7.out.block E hE4).trans HE4.out)
  have HZ7 := Lib.hid ((Hb7.out.block (E + 1) (by omega)).trans HZ4.out)
  have HA7 := Lib.hid (HA4.out.below Hb7.out)
  have y0 := cell_of_row _ _ 0 _ _ _ HE7.out
  refine wp_region_held_tail (S := fun w' => w'.cell? ⟨E, 0, none⟩ = some (.slice A n c)) 10 (by kernel_rfl) (by kernel_rfl) (by kernel_rfl) ?_
  have hHeld : (fun w' : World => w'.cell? ⟨E, 0, none⟩ = some (.slice A n c)) w7.drew := y0
  clear y0
  have hE7 : E < w7.heap.size := by omega
  have Hst7 : Hid (∀ W, Below w7.heap.size w7 W → W.cell? ⟨E, 0, none⟩ = some (.slice A n c)) := Lib.hid (fun W hW => cell_of_row _ _ 0 _ _ _ ((hW.block E hE7).trans HE7.out))
  simp only [List.take_succ_cons, List.take_zero, List.replicate]
  refine wpAnyH_take (i := 0) (v := ?vvb0) rfl (by kernel_rfl) (by kernel_rfl) (by kernel_rfl) (fun _ _ _ h => h) (Or.inl ⟨by rfl, ?hyb0⟩) hHeld ?restb0; (case hyb0 => (intro w hSw; (try dsimp only at hSw); go_simp; all_goals (with_reducible rfl))); simp only [Act.put, List.getElem_toArray, List.getElem_cons_zero, List.getElem_cons_succ, List.setIfInBounds_toArray, List.set_cons_zero, List.set_cons_succ]
  refine wpAnyH_take (i := 1) (v := ?vvb1) rfl (by kernel_rfl) (by kernel_rfl) (by kernel_rfl) (fun _ _ _ h => h) (Or.inl ⟨by rfl, ?hyb1⟩) hHeld ?restb1; (case hyb1 => (intro w hSw; (try dsimp only at hSw); go_simp; all_goals (with_reducible rfl))); simp only [Act.put, List.getElem_toArray, List.getElem_cons_zero, List.getElem_cons_succ, List.setIfInBounds_toArray, List.set_cons_zero, List.set_cons_succ]
  refine wpAnyH_take (i := 2) (v := ?vvb2) rfl (by kernel_rfl) (by kernel_rfl) (by kernel_rfl) (fun _ _ _ h => h) (Or.inl ⟨by rfl, ?hyb2⟩) hHeld ?restb2; (case hyb2 => (intro w hSw; (try dsimp only at hSw); go_simp; all_goals (with_reducible rfl))); simp only [Act.put, List.getElem_toArray, List.getElem_cons_zero, List.getElem_cons_succ, List.setIfInBounds_toArray, List.set_cons_zero, List.set_cons_succ]
  refine wpAnyH_take (i := 3) (v := ?vvb3) rfl (by kernel_rfl) (by kernel_rfl) (by kernel_rfl) (fun _ _ _ h => h) (Or.inl ⟨by rfl, ?hyb3⟩) hHeld ?restb3; (case hyb3 => (intro w hSw; (try dsimp only at hSw); go_simp; all_goals (with_reducible rfl))); simp only [Act.put, List.getElem_toArray, List.getElem_cons_zero, List.getElem_cons_succ, List.setIfInBounds_toArray, List.set_cons_zero, List.set_cons_succ]
  refine wpAnyH_take (i := 5) (v := ?vvb5) rfl (by kernel_rfl) (by kernel_rfl) (by kernel_rfl) (fun _ _ _ h => h) (Or.inl ⟨by rfl, ?hyb5⟩) hHeld ?restb5; (case hyb5 => (intro w hSw; (try dsimp only at hSw); go_simp; all_goals (with_reducible rfl))); simp only [Act.put, List.getElem_toArray, List.getElem_cons_zero, List.getElem_cons_succ, List.setIfInBounds_toArray, List.set_cons_zero, List.set_cons_succ]
  refine wpAnyH_ready (rs := [4]) (by kernel_rfl) (by simp) ?_; refine AllReadyH.cons rfl (fun K hK => ?_) AllReadyH.nil
  go_simp
  refine (HW2.out _ _ _ _ (HS7.out.below (Below.drew (Below.refl _ _)))).mono ?_
  rintro e w8 ⟨v8, rfl, hown8, hb8⟩
  obtain ⟨B8, c8, rfl, hS8, _⟩ := SlR.of_own2 hown8
  have HS8 := Lib.hid hS8
  have hb8' : Below w7.heap.size w7 w8 := ⟨hb8.os, hb8.tape, hb8.output, hb8.size, hb8.block⟩
  have Hb8 := Lib.hid hb8'
  have hs8 := Hb8.out.size
  clear hown8 hb8 hb8' hS8
  refine hK.out _ _ (Hst7.out _ Hb8.out) (fun hHeld => ?_)
  clear hK K
  (try simp only [Act.put, List.getElem_toArray, List.getElem_cons_zero, List.getElem_cons_succ, List.setIfInBounds_toArray, List.set_cons_zero, List.set_cons_succ])
  refine wpAnyH_ready (rs := [6]) (by kernel_rfl) (by simp) ?_; refine AllReadyH.cons rfl (fun K hK => ?_) AllReadyH.nil
  go_simp
  refine (HX2.out _ _ _ _ (HA7.out.below Hb8.out) HS8.out).mono ?_
  rintro e w9 ⟨v9, rfl, hown9, hb9⟩
  have Hown9 := Lib.hid hown9
  obtain ⟨B9, c9, rfl, hS9, _⟩ := SlR.of_own2 hown9
  have Hb9 := Lib.hid (Hb8.out.trans (hb9.mono hs8))
  have hs9 := Hb9.out.size
  clear hown9 hb9 hS9
  refine hK.out _ _ (Hst7.out _ Hb9.out) (fun hHeld => ?_)
  clear hK K
  (try simp only [Act.put, List.getElem_toArray, List.getElem_cons_zero, List.getElem_cons_succ, List.setIfInBounds_toArray, List.set_cons_zero, List.set_cons_succ])
  refine wpAnyH_ready (rs := [7]) (by kernel_rfl) (by simp) ?_; refine AllReadyH.cons rfl (fun K hK => ?_) AllReadyH.nil
  go_simp
  refine (limited_ok B9 le.length c9 w9 Hlen.out).mono ?_
  rintro e w10 ⟨rfl, hb10⟩
  have Hown10 := Lib.hid (ownsRow_below Hown9.out hb10)
  have Hb10 := Lib.hid (Hb9.out.trans (hb10.mono hs9))
  have hs10 := Hb10.out.size
  clear hb10
  refine hK.out _ _ (Hst7.out _ Hb10.out) (fun hHeld => ?_)
  clear hK K
  (try simp only [Act.put, List.getElem_toArray, List.getElem_cons_zero, List.getElem_cons_succ, List.setIfInBounds_toArray, List.set_cons_zero, List.set_cons_succ])
  refine wpAnyH_take (i := 8) (v := ?vvb8) rfl (by kernel_rfl) (by kernel_rfl) (by kernel_rfl) (fun _ _ _ h => h) (Or.inl ⟨by rfl, ?hyb8⟩) hHeld ?restb8; (case hyb8 => (intro w hSw; (try dsimp only at hSw); go_simp; all_goals (with_reducible rfl))); simp only [Act.put, List.getElem_toArray, List.getElem_cons_zero, List.getElem_cons_succ, List.setIfInBounds_toArray, List.set_cons_zero, List.set_cons_succ]
  refine wpAnyH_take (i := 9) (v := ?vvb9) rfl (by kernel_rfl) (by kernel_rfl) (by kernel_rfl) (fun _ _ _ h => h) (Or.inl ⟨by rfl, ?hyb9⟩) hHeld ?restb9; (case hyb9 => (intro w hSw; (try dsimp only at hSw); go_simp; all_goals (with_reducible rfl))); simp only [Act.put, List.getElem_toArray, List.getElem_cons_zero, List.getElem_cons_succ, List.setIfInBounds_toArray, List.set_cons_zero, List.set_cons_succ]
  refine wpAnyH_done (by kernel_rfl) ?_ _
  clear hHeld
  show wpList _ _ _ _ _ _
  have hz10 := (Hb10.out.block (E + 1) (by omega)).trans HZ7.out
  have z0 := cell_of_row _ _ 0 _ _ _ hz10
  have f0 := frozen_of_row _ _ 0 _ _ hz10
  have r0 : (w10.setCell ⟨E + 1, 0, none⟩ (.slice B9 le.length c9)).cell? ⟨E + 1, 0, none⟩ = some (.slice B9 le.length c9) := cell_of_row _ _ 0 _ _ _ (heap_setCell_same w10 (E + 1) 0 _ _ _ hz10)
  clear hz10
  go_wp2_with fail
  refine bodyPost_ret (v := .tuple #[.agg #[.slice B9 le.length c9], .int .i64 0]) (by simp [results, Tryz.results13, go_sem, *]) rfl ?_
  have hlow := own_base Hown10.out
  have hwE : w.heap.size = E := HE.out.symm
  have hall : Below w.heap.size w w10 := ((Hb1.out.trans (Hb4.out.mono (by omega))).trans (Hb7.out.mono (by omega))).trans (Hb10.out.mono (by omega))
  refine ⟨_, rfl, ?_, hall.setCell (by dsimp only; omega) _⟩
  exact own_other (own_rebase Hown10.out (by omega)) (only_setCell (g := E + 1) (World.grownBy.refl _ _) (.inl rfl) _) (fun k hk e => by injection e with e; have := hlow k hk; omega)
end Go.Proofs.YtfmkmhhghmdakaaGreatDoor
namespace Go.Proofs.YtfmkmhhghmdakaaGreatDoor
open Go.RowKit Go.Shelf
set_option linter.unusedVariables false
set_option linter.unusedSimpArgs false

/-- A name of letters. -/
def lettersB (s : ByteArray) : Bool := decide (1 ≤ s.size) && decide (s.size ≤ 12) && s.data.toList.all fun b => decide (97 ≤ b.toNat) && decide (b.toNat ≤ 122)
/-- A crop. -/
structure Cp where
  nm : ByteArray
  fam : Int
  mks : Int
def kCells (l : List Cp) : List Value := l.flatMap fun x => [.string x.nm, .int .i64 x.fam, .int .i64 x.mks]
theorem kCells_at (l : List Cp) (i : Nat) (h : i < l.length) : (kCells l)[i * 3]? = some (.string l[i].nm) ∧ (kCells l)[i * 3 + 1]? = some (.int .i64 l[i].fam) ∧ (kCells l)[i * 3 + 2]? = some (.int .i64 l[i].mks) := by
  induction l generalizing i with
  | nil => simp at h
  | cons o r ih =>
    have hc : kCells (o :: r) = [.string o.nm, .int .i64 o.fam, .int .i64 o.mks] ++ kCells r := by simp [kCells]
    rw [hc]
    rcases i with _ | i
    · simp
    · have := ih i (by simpa using h)
      refine ⟨?_, ?_, ?_⟩ <;> rw [List.getElem?_append_right (by simp; omega)]
      · rw [show (i + 1) * 3 - ([Value.string o.nm, .int .i64 o.fam, .int .i64 o.mks] : List Value).length = i * 3 from by simp; omega]; exact this.1
      · rw [show (i + 1) * 3 + 1 - ([Value.string o.nm, .int .i64 o.fam, .int .i64 o.mks] : List Value).length = i * 3 + 1 from by simp; omega]; exact this.2.1
      · rw [show (i + 1) * 3 + 2 - ([Value.string o.nm, .int .i64 o.fam, .int .i64 o.mks] : List Value).length = i * 3 + 2 from by simp; omega]; exact this.2.2
/-- A slice of crops. -/
structure SlC (w : World) (A : Option Addr) (n c : Nat) (l : List Cp) : Prop where
  len : l.length = n
  cap : n ≤ c
  top : c ≤ maxLen
  lies : Lies w A n (kCells l)
theorem SlC.below {w w' : World} {A : Option Addr} {n c : Nat} {l : List Cp} (h : SlC w A n c l) (hb : Below w.heap.size w w') : SlC w' A n c l := ⟨h.len, h.cap, h.top, h.lies.below hb⟩
theorem SlC.at {w : World} {A : Option Addr} {n c : Nat} {l : List Cp} (h : SlC w A n c l) (i : Nat) (hi : i < l.length) :
    ∃ b off, A = some ⟨b, off, none⟩ ∧ b < w.heap.size ∧ w.cell? ⟨b, off + i * 3, none⟩ = some (.string l[i].nm) ∧ w.cell? ⟨b, off + i * 3 + 1, none⟩ = some (.int .i64 l[i].fam) ∧ w.cell? ⟨b, off + i * 3 + 2, none⟩ = some (.int .i64 l[i].mks) := by
  obtain ⟨b, off, e, hb, hc⟩ := h.lies.resolve_left (by have := h.len; omega)
  obtain ⟨h0, h1, h2⟩ := kCells_at l i hi
  exact ⟨b, off, e, hb, hc _ _ h0, hc _ _ h1, hc _ _ h2⟩
/-- Whether a text comes not behind another one. -/
def leqS (a b : ByteArray) : Bool := Go.Op.bytesLess a.toList b.toList || a.toList == b.toList
/-- A catalogue that is right. -/
def cropsB (l : List Cp) : Prop := l.length ≤ 40 ∧ (∀ x ∈ l, lettersB x.nm = true ∧ (0 ≤ x.fam ∧ x.fam ≤ 40) ∧ 0 ≤ x.mks ∧ x.mks ≤ 31) ∧ ∀ i (h : i + 1 < l.length), leqS l[i + 1].nm l[i].nm = false

/-- Parcels, schemes and a catalogue that are right, where they lie. -/
structure PcV (w : World) (NA : Option Addr) (n kc : Nat) (N : List Int) (RA : Option Addr) (rc : Nat) (R : RL) (CA : Option Addr) (m cc : Nat) (C : List Cp) : Prop where
  hN : SlI w NA n kc N
  hR : SlG w RA n rc R
  hC : SlC w CA m cc C
  hn : n ≤ 60
  hp : N.Pairwise (· < ·)
  hv : ∀ x ∈ R, validP x.1 = true
  hc : cropsB C
theorem PcV.below {w w' : World} {NA RA CA : Option Addr} {n kc rc m cc : Nat} {N : List Int} {R : RL} {C : List Cp} (h : PcV w NA n kc N RA rc R CA m cc C) (hb : Below w.heap.size w w') : PcV w' NA n kc N RA rc R CA m cc C := ⟨h.hN.below hb, h.hR.below hb, h.hC.below hb, h.hn, h.hp, h.hv, h.hc⟩
end Go.Proofs.YtfmkmhhghmdakaaGreatDoor
namespace Go.Proofs.YtfmkmhhghmdakaaGreatDoor
open Go.RowKit Go.Shelf
set_option linter.unusedVariables false
set_option linter.unusedSimpArgs false

theorem SlI.lit (w : World) (t : TypeId) (cs : Array Value) (l : List Int) (n B : Nat) (hB : B = w.heap.size) (hn : l.length = n) (hn1 : n ≤ 1000) (hc : l.map (.int .i64) = cs.toList) : SlI (w.alloc (.cells cs t)) (some ⟨B, 0, none⟩) n n l :=
  ⟨hn, Nat.le_refl _, by unfold maxLen; omega, Lies.new w t cs n _ hc B hB⟩
theorem SlC.lit (w : World) (t : TypeId) (cs : Array Value) (l : List Cp) (n B : Nat) (hB : B = w.heap.size) (hn : l.length = n) (hn1 : n ≤ 1000) (hc : kCells l = cs.toList) : SlC (w.alloc (.cells cs t)) (some ⟨B, 0, none⟩) n n l :=
  ⟨hn, Nat.le_refl _, by unfold maxLen; omega, Lies.new w t cs n _ hc B hB⟩
theorem SlG.lit (w : World) (t : TypeId) (cs : Array Value) (l : RL) (n B : Nat) (hB : B = w.heap.size) (hn : l.length = n) (hn1 : n ≤ 1000) (hc : rgCells l = cs.toList) (hf : ∀ x ∈ l, SlR w x.2.a x.1.length x.2.c x.1) : SlG (w.alloc (.cells cs t)) (some ⟨B, 0, none⟩) n n l :=
  ⟨hn, Nat.le_refl _, by unfold maxLen; omega, Lies.new w t cs n _ hc B hB, fun x hx => (hf x hx).alloc _⟩
theorem SlL.lit (w : World) (t : TypeId) (cs : Array Value) (l : LL) (n B : Nat) (hB : B = w.heap.size) (hn : l.length = n) (hn1 : n ≤ 1000) (hc : lnCells l = cs.toList) (hf : ∀ x ∈ l, SlR w x.2.a x.1.rg.length x.2.c x.1.rg) : SlL (w.alloc (.cells cs t)) (some ⟨B, 0, none⟩) n n l :=
  ⟨hn, Nat.le_refl _, by unfold maxLen; omega, Lies.new w t cs n _ hc B hB, fun x hx => (hf x hx).alloc _⟩

end Go.Proofs.YtfmkmhhghmdakaaGreatDoor
namespace Go.Proofs.YtfmkmhhghmdakaaGreatDoor
set_option linter.unusedVariables false
set_option linter.unusedSimpArgs false

theorem Reg.can {s : Int} {m : Nat} {l : List R4} (h : Reg s m l) : Canon (inL l) l := by
  have := canonP_canon l h.ins.pos
  rwa [h.canon] at this
theorem LnOk.row {R : List (List R4)} {nc : Nat} {x : Ln} (hR : PcOk R) (h : LnOk R nc x) (u v : Int) (hu : inL x.rg u v = true) : 0 ≤ u ∧ u < 30 ∧ 0 ≤ v ∧ v < 9 := by
  obtain ⟨p, hp, -, hin⟩ := h.pc
  have h1 := (hR.at' p hp).in u v (hin u v hu)
  have := hR.m
  omega
theorem LsOk.valid {R : List (List R4)} {nc k : Nat} {L : List Ln} (h : LsOk R nc k L) : validL L = true :=
  List.all_eq_true.2 fun x hx => (h.ok x hx).reg.valid (by omega) (by omega)
theorem meets_not {s : Int} {a b : List R4} (ha : InS s a) (hb : InS s b) (h : ∀ x y, inL a x y = true → inL b x y = false) : meetsP a b = false := by
  cases hm : (a.any fun p => b.any fun q => overP p q) with
  | false => unfold meetsP; rw [hm, Bool.and_false]
  | true =>
    obtain ⟨x, y, hxy⟩ := (over_some ha hb).1 hm
    rw [Bool.and_eq_true] at hxy
    have := h x y hxy.1
    rw [hxy.2] at this; cases this
/-- Squares within a great square, counted. -/
def cnt (P : Int → Int → Bool) : Int := sumI (fun y => sumI (fun x => ind (P x y)) 0 30) 0 30
theorem Reg.cnt {m : Nat} {l : List R4} (h : Reg 30 m l) (hm : m ≤ 120) : areaP l = cnt (inL l) := by
  have h1 := canon_size h.can 30 (fun x y hxy => by have := h.ins.in x y hxy; omega)
  have h2 := h.valid (by omega) hm
  unfold areaP
  rw [h2]
  exact h1.symm
theorem cnt_bd (P : Int → Int → Bool) : 0 ≤ cnt P ∧ cnt P ≤ 900 := by
  have := sumI_bd (fun y => sumI (fun x => ind (P x y)) 0 30) ((30 : Nat) * 1) (by omega) (fun y => sumI_bd (fun x => ind (P x y)) 1 (by omega) (fun x => by unfold ind; split <;> omega) 30 0) 30 0
  unfold cnt
  omega
end Go.Proofs.YtfmkmhhghmdakaaGreatDoor
namespace Go.Proofs.YtfmkmhhghmdakaaGreatDoor
open Go.RowKit Go.Shelf
set_option linter.unusedVariables false
set_option linter.unusedSimpArgs false

end Go.Proofs.YtfmkmhhghmdakaaGreatDoor
namespace Go.Proofs.YtfmkmhhghmdakaaGreatDoor
open Go.RowKit Go.Shelf
set_option linter.unusedVariables false
set_option linter.unusedSimpArgs false

/-- Lines that lie in a world. -/
abbrev LS (w : World) := { x : Ln × LV // SlR w x.2.a x.1.rg.length x.2.c x.1.rg }
instance (w : World) : Inhabited (LS w) := ⟨⟨(⟨0, [], 0, 0⟩, ⟨none, 0⟩), SlR.nil w⟩⟩
theorem SlL.take {w : World} {A : Option Addr} {n c : Nat} {l : LL} (h : SlL w A n c l) {k : Nat} (hk : k ≤ n) : SlL w A k c (l.take k) := by
  refine ⟨by rw [List.length_take, h.len]; omega, Nat.le_trans hk h.cap, h.top, ?_, fun x hx => h.fits x (List.mem_of_mem_take hx)⟩
  rcases h.lies with h0 | ⟨b, off, e, hb, hc⟩
  · exact .inl (by omega)
  · refine .inr ⟨b, off, e, hb, fun j u hu => hc j u ?_⟩
    have e2 : lnCells l = lnCells (l.take k) ++ lnCells (l.drop k) := by rw [← lnCells_app, List.take_append_drop]
    have hj : j < (lnCells (l.take k)).length := by
      rcases Nat.lt_or_ge j (lnCells (l.take k)).length with h1 | h1
      · exact h1
      · rw [List.getElem?_eq_none h1] at hu; cases hu
    rw [e2, List.getElem?_append_left hj]
    exact hu

/-- Lines do not meet. -/
theorem LsOk.apart {R : List (List R4)} {nc k : Nat} {L : LL} (h : LsOk R nc k (lns L)) (i : Nat) (hi : i < L.length) : (L.take i).any (fun y => meetsP L[i].1.rg y.1.rg) = false := by
  rw [List.any_eq_false]
  intro y hy
  obtain ⟨j, hj, rfl⟩ := List.mem_take_iff_getElem.1 hy
  have hji : j < i := by omega
  have hjl : j < L.length := by omega
  have hd := List.pairwise_iff_getElem.1 h.dis j i (by rw [lns_len]; exact hjl) (by rw [lns_len]; exact hi) hji
  have e1 : (lns L)[j]'(by rw [lns_len]; exact hjl) = L[j].1 := by simp [lns]
  have e2 : (lns L)[i]'(by rw [lns_len]; exact hi) = L[i].1 := by simp [lns]
  rw [e1, e2] at hd
  have h1 := h.ok _ (List.mem_map_of_mem (List.getElem_mem hi))
  have h2 := h.ok _ (List.mem_map_of_mem (List.getElem_mem hjl))
  rw [meets_not h1.reg.ins h2.reg.ins (fun u v huv => by
    cases hc : inL L[j].1.rg u v with
    | false => rfl
    | true => rw [hd u v hc] at huv; cases huv)]
  simp
end Go.Proofs.YtfmkmhhghmdakaaGreatDoor
namespace Go.Proofs.YtfmkmhhghmdakaaGreatDoor
open Go.RowKit Go.Shelf
set_option linter.unusedVariables false
set_option linter.unusedSimpArgs false

def clipsP (r : List R4) : List Ln → List Ln
  | [] => []
  | x :: t => (if (chooseP andB x.rg r).length = 0 then [] else [⟨x.pc, chooseP andB x.rg r, x.cr, x.sch⟩]) ++ clipsP r t
theorem clipsP_app (r : List R4) : ∀ a b : List Ln, clipsP r (a ++ b) = clipsP r a ++ clipsP r b
  | [], b => rfl
  | x :: t, b => by rw [List.cons_append, clipsP, clipsP, clipsP_app r t b, List.append_assoc]
theorem clipsP_snoc (r : List R4) (l : List Ln) (x : Ln) : clipsP r (l ++ [x]) = if (chooseP andB x.rg r).length = 0 then clipsP r l else clipsP r l ++ [⟨x.pc, chooseP andB x.rg r, x.cr, x.sch⟩] := by
  rw [clipsP_app]
  simp only [clipsP, List.append_nil]
  split <;> simp
def bigC (r : List R4) (x : Ln) : Bool := decide (120 < (chooseP andB x.rg r).length)
def clipCP (l : List Ln) (r : List R4) : List Ln × Int := if 20 < l.length then ([], 1) else if validL l && validP r then (if l.any (bigC r) then ([], 1) else (clipsP r l, 0)) else ([], 7)
/-- What Clip hands back. -/
def ClPost (w : World) (res : List Ln × Int) (e : Ending) (w' : World) : Prop :=
  ∃ (O : LL) (A : Option Addr) (c : Nat), e = .returned (.tuple #[.slice A O.length c, .int .i64 res.2]) ∧ lns O = res.1 ∧ LsOwn w' w.heap.size (.slice A O.length c) O ∧ Below w.heap.size w w'
theorem ClPost.nil {w w' : World} {r : Int} (h : Below w.heap.size w w') : ClPost w ([], r) (.returned (.tuple #[.slice none 0 0, .int .i64 r])) w' := ⟨[], none, 0, rfl, rfl, LsOwn.nil _ _, h⟩
set_option maxHeartbeats 4000000 in
set_option maxRecDepth 100000 in
theorem clipC_any (A : Option Addr) (n c : Nat) (l : LL) (B : Option Addr) (m d : Nat) (r : List R4) (w : World) (hL : SlL w A n c l) (hB : SlR w B m d r) :
    Calls Tryz.prog 16 #[.slice A n c, .agg #[.slice B m d]] w (ClPost w (clipCP (lns l) r)) := by
  obtain ⟨i2, hi2, hi2z, hl1, hl2⟩ := info_parts Tryz.infoLine
  have hx := hL.len
  have hxb := hB.len
  have Hln : Hid ((lns l).length = n) := Lib.hid (by rw [lns_len]; exact hx)
  have HL := Lib.hid hL
  have HB := Lib.hid hB
  have Hres : Hid (clipCP (lns l) r = if 20 < (lns l).length then ([], 1) else if validL (lns l) && validP r then (if (lns l).any (bigC r) then ([], 1) else (clipsP r (lns l), 0)) else ([], 7)) := Lib.hid rfl
  rw [Hln.out] at Hres
  generalize clipCP (lns l) r = res at *
  clear hL hB
  go_enter Tryz.func16, Tryz.ntmps16
  go_upto_region 1 with fail
  obtain ⟨wa, hwa⟩ : ∃ wa : World, wa = w.alloc (.cells #[.slice B m d] 33) := ⟨_, rfl⟩
  rw [← hwa]
  have HE : Hid (wa.heap[w.heap.size]? = some (.cells #[.slice B m d] 33 (0, 0))) := Lib.hid (by rw [hwa]; exact heap_alloc_new w _)
  have Hba : Hid (Below w.heap.size w wa) := Lib.hid (by rw [hwa]; exact (by repeat' (first | with_reducible exact Below.refl _ _ | with_reducible refine below_drewN ?_ _ | with_reducible refine Below.drew ?_ | with_reducible refine Below.alloc ?_ ?_ _ | with_reducible refine Below.setCell ?_ ?_ _ | with_reducible refine Below.trans ?_ (Below.mono (by with_reducible assumption) ?_) | (simp; done) | (simp; omega) | omega)))
  have hlE : w.heap.size < wa.heap.size := by rw [hwa]; simp
  have hEw : w.heap.size ≤ wa.heap.size := Nat.le_of_lt hlE
  have HLa := Lib.hid (HL.out.below Hba.out)
  have HBa := Lib.hid (HB.out.below Hba.out)
  clear hwa HL HB
  obtain ⟨E, hE⟩ : ∃ E, w.heap.size = E := ⟨_, rfl⟩
  rw [hE] at HE hlE ⊢
  have HEe : Hid (w.heap.size = E) := Lib.hid hE
  clear hE
  have e0 := cell_of_row wa E 0 _ _ _ HE.out
  by_cases h1 : 20 < n
  · have h1' : (20 : Int) < (n : Int) := by omega
    have He : Hid (res = ([], 1)) := Lib.hid (by rw [Hres.out, if_pos h1])
    clear Hres
    go_wp2
    refine bodyPost_ret (v := .tuple #[.slice none 0 0, .int .i64 1]) (by simp [results, Tryz.results16, go_sem, *]) rfl ?_
    rw [He.out]
    exact ClPost.nil Hba.out
  have h1' : ¬ (20 : Int) < (n : Int) := by omega
  rw [if_neg h1] at Hres
  have HRg := Lib.hid (regionsC_any wa (wa.alloc (.cells #[.slice B m d] 33)) ((Below.refl _ _).alloc (Nat.le_refl _) _) (.slice (some ⟨wa.heap.size, 0, none⟩) 1 1) [(r, ⟨B, d⟩)] (own_lit wa _ 1 1 _ _ (by simp [rgCells, rgC, hxb]) rfl (by unfold maxLen; omega)) (fun x hx => by rw [List.mem_singleton] at hx; subst hx; dsimp only; rw [hxb]; exact HBa.out) A n c l HLa.out (by omega) (by simp))
  rw [List.all_append, validL_regs, List.all_cons, List.all_nil, Bool.and_true, Bool.and_comm] at HRg
  dsimp only at HRg
  cases hv : validL (lns l) && validP r with
  | false =>
    rw [hv] at HRg Hres
    have He : Hid (res = ([], 7)) := Lib.hid (by rw [Hres.out]; rfl)
    clear hv Hres
    go_wp2_with (first
      | (go_at_call 58
         refine HRg.out.mono ?_
         rintro e w1 ⟨rfl, hb1⟩
         have Hb1 := Lib.hid (Hba.out.trans (hb1.mono (by omega)))
         clear hb1)
      | fail)
    refine bodyPost_ret (v := .tuple #[.slice none 0 0, .int .i64 7]) (by simp [results, Tryz.results16, go_sem, *]) rfl ?_
    rw [He.out]
    exact ClPost.nil Hb1.out
  | true =>
    rw [hv] at HRg Hres
    rw [Bool.and_eq_true] at hv
    simp only [if_true] at HRg Hres
    have Hv := Lib.hid hv
    clear hv
    have hn20 : n ≤ 20 := by omega
    go_wp2_with (first
      | (go_at_call 58
         refine HRg.out.mono ?_
         rintro e w1 ⟨rfl, hb1⟩
         have Hb1 := Lib.hid hb1
         have hs1 := hb1.size
         clear hb1 HRg)
      | fail)
    go_loopw [7, 9, 10, 11, 24] (fun v _ _ _ iv wr => ∃ (k : Nat) (O : LL), k ≤ n ∧ iv = .int .i64 (k : Int) ∧ (lns (l.take k)).any (bigC r) = false ∧ lns O = clipsP r (lns (l.take k)) ∧ O.length ≤ k ∧ LsOwn wr wa.heap.size v O ∧ Below wa.heap.size wa wr) (fun _ _ _ _ iv _ => n - (intOf iv).toNat)
    case atStart => exact ⟨0, [], Nat.zero_le _, rfl, rfl, rfl, Nat.zero_le _, LsOwn.nil _ _, Hb1.out⟩
    case round =>
      obtain ⟨k, O, hk, rfl, hany, hO, hOk, hown, hbw⟩ := hrel
      have Hbw := Lib.hid hbw
      have hsw := hbw.size
      obtain ⟨OA, oc, rfl, -, -, -⟩ := own_slice hown.o
      have Hown := Lib.hid hown
      have Hany := Lib.hid hany
      have HO := Lib.hid hO
      have er := (hbw.cell (p := ⟨E, 0, none⟩) hlE).trans e0
      clear hown hbw hany hO
      by_cases hkn : k < n
      · have hkn' : (k : Int) < (n : Int) := by omega
        have hkl : k < l.length := by omega
        obtain ⟨b2, o2, rfl, hb2, g0, g1, g2, g3, hS⟩ := (HLa.out.below Hbw.out).at k hkl
        have HS := Lib.hid hS
        have hvy := validL_at Hv.out.1 (List.mem_map_of_mem (List.getElem_mem hkl) : l[k].1 ∈ lns l)
        have Hts := Lib.hid (lns_take hkl)
        have HAt := Lib.hid (fun h : bigC r l[k].1 = true => (List.any_eq_true.2 ⟨l[k].1, List.mem_map_of_mem (List.getElem_mem hkl), h⟩ : (lns l).any (bigC r) = true))
        clear hS
        generalize l[k] = y at *
        obtain ⟨⟨ypc, yrg, ycr, ysch⟩, ⟨ya, yc⟩⟩ := y
        dsimp only at *
        have hcm : combineP andB yrg r = if 120 < (chooseP andB yrg r).length then ([], 1) else (chooseP andB yrg r, 0) := by
          unfold combineP
          rw [hvy, Hv.out.2]
          rfl
        have HBo := Lib.hid (fun W (hW : Below wr.heap.size wr W) => both_any ya B yrg.length yc m d yrg r W (HS.out.below hW) ((HBa.out.below Hbw.out).below hW))
        rw [hcm] at HBo
        have hrow := heap_alloc_new wr (.cells #[.int .i64 ypc, .slice ya yrg.length yc, .int .i64 ycr, .int .i64 ysch] 35)
        have Hbb : Hid (Below wr.heap.size wr (wr.alloc (.cells #[.int .i64 ypc, .slice ya yrg.length yc, .int .i64 ycr, .int .i64 ysch] 35))) := Lib.hid (by repeat' (first | with_reducible exact Below.refl _ _ | with_reducible refine below_drewN ?_ _ | with_reducible refine Below.drew ?_ | with_reducible refine Below.alloc ?_ ?_ _ | with_reducible refine Below.setCell ?_ ?_ _ | with_reducible refine Below.trans ?_ (Below.mono (by with_reducible assumption) ?_) | (simp; done) | (simp; omega) | omega))
        have hlb : wr.heap.size < (wr.alloc (.cells #[.int .i64 ypc, .slice ya yrg.length yc, .int .i64 ycr, .int .i64 ysch] 35)).heap.size := by simp
        have hEr : E < wr.heap.size := by omega
        clear hcm hvy
        go_upto_region 10 with fail
        obtain ⟨T, hT⟩ : ∃ T, wr.heap.size = T := ⟨_, rfl⟩
        rw [hT] at hrow hlb hEr ⊢
        have HTe : Hid (wr.heap.size = T) := Lib.hid hT
        have hTle : wr.heap.size ≤ T := Nat.le_of_eq hT
        generalize wr.alloc (.cells #[.int .i64 ypc, .slice ya yrg.length yc, .int .i64 ycr, .int .i64 ysch] 35) = wb at *
        have a1 := cell_of_row wb T 1 _ _ _ hrow
        have eb := (Hbb.out.cell (p := ⟨E, 0, none⟩) (by show E < _; omega)).trans er
        have Hrow := Lib.hid hrow
        clear hrow g0 g1 g2 g3 hT er
        have hsb : wr.heap.size ≤ wb.heap.size := by omega
        by_cases hbg : 120 < (chooseP andB yrg r).length
        · have He : Hid (res = ([], 1)) := Lib.hid (by
            have h := HAt.out (decide_eq_true hbg)
            rw [Hres.out, h]; rfl)
          rw [if_pos hbg] at HBo
          clear Hres HAt Hts
          go_wp2_with (first
            | (go_at_call 25
               refine (HBo.out _ Hbb.out).mono ?_
               rintro e w5 ⟨v5, rfl, hown5, hb5⟩
               dsimp only at hown5 ⊢
               obtain ⟨D, dc, rfl, -⟩ := SlR.of_own hown5
               have Hb5 := Lib.hid hb5
               have hs5 := hb5.size
               clear hown5 hb5)
            | fail)
          refine bodyPost_ret (v := .tuple #[.slice none 0 0, .int .i64 1]) (by simp [results, Tryz.results16, go_sem, *]) rfl ?_
          rw [He.out]
          exact ClPost.nil (Hba.out.trans ((Hbw.out.trans ((Hbb.out.trans ((Hb5.out.alloc (by omega) _).mono hsb)).mono hsw)).mono (by omega)))
        · have Hany2 : Hid ((lns (l.take (k + 1))).any (bigC r) = false) := Lib.hid (by
            rw [Hts.out, List.any_append, Hany.out, List.any_cons, List.any_nil]
            simp only [bigC, Bool.false_or, Bool.or_false]
            exact decide_eq_false hbg)
          have HOn : Hid (clipsP r (lns (l.take (k + 1))) = if (chooseP andB yrg r).length = 0 then lns O else lns O ++ [⟨ypc, chooseP andB yrg r, ycr, ysch⟩]) := Lib.hid (by rw [Hts.out, clipsP_snoc, HO.out])
          rw [if_neg hbg] at HBo
          clear HAt Hts Hany HO
          obtain ⟨cl, hcl⟩ : ∃ cl, chooseP andB yrg r = cl := ⟨_, rfl⟩
          rw [hcl] at HBo HOn hbg
          clear hcl
          go_upto_region 11 with (first
            | (go_at_call 25
               refine (HBo.out _ Hbb.out).mono ?_
               rintro e w5 ⟨v5, rfl, hown5, hb5⟩
               dsimp only at hown5 ⊢
               obtain ⟨D, dc, rfl, -⟩ := SlR.of_own hown5
               have Hown5 := Lib.hid hown5
               have Hb5 := Lib.hid hb5
               have hs5 := hb5.size
               clear hown5 hb5)
            | fail)
          obtain ⟨w6, hw6⟩ : ∃ w6 : World, w6 = w5.alloc (.cells #[.slice D cl.length dc] 33) := ⟨_, rfl⟩
          rw [← hw6]
          have HZ : Hid (w6.heap[w5.heap.size]? = some (.cells #[.slice D cl.length dc] 33 (0, 0))) := Lib.hid (by rw [hw6]; exact heap_alloc_new w5 _)
          have Hb6 : Hid (Below wb.heap.size wb w6) := Lib.hid (by rw [hw6]; exact Hb5.out.alloc hs5 _)
          have Hown6 := Lib.hid (own_keepY Hown5.out (w' := w6) (fun b hb _ => by rw [hw6]; exact Below.heap_alloc _ _ _ hb))
          have hlZ : w5.heap.size < w6.heap.size := by rw [hw6]; simp
          obtain ⟨Z, hZ⟩ : ∃ Z, w5.heap.size = Z := ⟨_, rfl⟩
          rw [hZ] at HZ hlZ hs5 ⊢
          clear hw6 hZ Hown5 Hb5
          have hs6 := Hb6.out.size
          have z0 := cell_of_row w6 Z 0 _ _ _ HZ.out
          have hrow6 := (Hb6.out.block T hlb).trans Hrow.out
          have t1 := cell_of_row w6 T 1 _ _ _ hrow6
          have f1 := frozen_of_row w6 T 1 _ _ hrow6
          have HbT : Hid (Below wr.heap.size wr w6) := Lib.hid (Hbb.out.trans (Hb6.out.mono hsb))
          have Hrow7 := Lib.hid (heap_setCell_same w6 T 1 _ _ (.slice D cl.length dc) hrow6)
          clear hrow6 a1 eb Hrow
          by_cases hl0 : 0 < cl.length
          · have hl0' : (0 : Int) < (cl.length : Int) := by omega
            have hlne : ¬ cl.length = 0 := by omega
            rw [if_neg hlne] at HOn
            go_upto_region 15 with fail
            obtain ⟨w7, hw7⟩ : ∃ w7 : World, w7 = w6.setCell ⟨T, 1, none⟩ (.slice D cl.length dc) := ⟨_, rfl⟩
            rw [← hw7] at Hrow7 ⊢
            have Hb7 : Hid (Below wr.heap.size wr w7) := Lib.hid (by rw [hw7]; exact HbT.out.setCell (by show wr.heap.size ≤ T; have := HTe.out; omega) _)
            have hlow := own_base Hown6.out
            have hlt6 := own_ltY Hown6.out
            have Hown7 : Hid (w7.ownsRow wb.heap.size 68 4 (.slice D cl.length dc) cl.length (rCells cl)) := Lib.hid (by rw [hw7]; exact own_other Hown6.out (only_setCell (g := T) (World.grownBy.refl _ _) (.inl rfl) _) (fun k hk e => by injection e with e; have := hlow k hk; omega))
            have hltO := own_ltY Hown.out.o
            have HAP : Hid (∀ q, (Value.slice OA O.length oc).ownBlock = some q → (Value.slice D cl.length dc).ownBlock ≠ some q) := Lib.hid (fun q hq e => by have h1 := hltO q hq; have h2 := hlow q e; omega)
            have HO7 := Lib.hid (Hown.out.below Hb7.out)
            have hs7 := Hb7.out.size
            clear hlow hlt6 hltO hw7 Hown6
            have b0 := cell_of_row w7 T 0 _ _ _ Hrow7.out
            have b1 := cell_of_row w7 T 1 _ _ _ Hrow7.out
            have b2' := cell_of_row w7 T 2 _ _ _ Hrow7.out
            have b3 := cell_of_row w7 T 3 _ _ _ Hrow7.out
            go_wp2_with (first
              | (at_builtin
                 (go_loud (refine wpList_append_any _ rfl (.tmp 44) (.tmp 46) _ rfl wa.heap.size 35 i2 _ 4 48 Tryz.underlying25 hi2 hi2z hl1 hl2 rfl (by omega) _ O.length (lnCells O) rfl (HO7.out.o.alloc _) _ _ 1 1 [.int .i64 ypc, .slice D cl.length dc, .int .i64 ycr, .int .i64 ysch] rfl ⟨rfl, fun _ => ⟨_, rfl, Nat.lt_succ_self _, fun j u hu => (by exact news_any _ _ _ j u hu)⟩⟩ (by simp [Value.oneCell']) (by simp only [maxLen]; omega) (by omega) (by simp; omega) ?_))
                 intro v10 w10 hown10 hg10 hat10)
              | fail)
            go_roundw
            case rel =>
              have hbO := own_base Hown.out.o
              refine ⟨k + 1, O ++ [(⟨ypc, cl, ycr, ysch⟩, ⟨D, dc⟩)], by omega, by go_num, Hany2.out, ?_, by simp; omega, ?_, ?_⟩
              · rw [HOn.out]; simp [lns]
              · exact LsOwn.push HO7.out (⟨ypc, cl, ycr, ysch⟩, ⟨D, dc⟩) (own_rebase Hown7.out (by omega)) HAP.out ((Below.refl _ _).alloc (Nat.le_refl _) _) hg10 hown10 hat10
              · exact Below.grown ((Hbw.out.trans (Hb7.out.mono hsw)).alloc (by omega) _) hg10 (by simp; omega) hbO
            case measure => simp [intOf]; omega
          · have hl0' : ¬ (0 : Int) < (cl.length : Int) := by omega
            rw [if_pos (by omega)] at HOn
            go_wp2
            go_roundw
            case rel => exact ⟨k + 1, O, by omega, by go_num, Hany2.out, HOn.out.symm, by omega, Hown.out.below HbT.out, Hbw.out.trans (HbT.out.mono hsw)⟩
            case measure => simp [intOf]; omega
      · obtain rfl : k = n := by omega
        have hkn' : ¬ (k : Int) < (k : Int) := by omega
        have hfull : l.take k = l := List.take_of_length_le (by omega)
        rw [hfull] at Hany HO
        have He : Hid (res = (lns O, 0)) := Lib.hid (by rw [Hres.out, Hany.out, HO.out]; rfl)
        clear hfull
        go_wp2
        refine bodyPost_ret (v := .tuple #[.slice OA O.length oc, .int .i64 0]) (by simp [results, Tryz.results16, go_sem, *]) rfl ?_
        rw [He.out]
        exact ⟨O, OA, oc, rfl, rfl, Hown.out.rebase (by have := HEe.out; omega), Hba.out.trans (Hbw.out.mono (by omega))⟩

theorem InS.mono {s t : Int} {l : List R4} (h : InS s l) (hs : s ≤ t) : InS t l := fun q hq => by have := h q hq; omega
end Go.Proofs.YtfmkmhhghmdakaaGreatDoor
namespace Go.Proofs.YtfmkmhhghmdakaaGreatDoor
open Go.RowKit
set_option linter.unusedVariables false

/-- Whether an area and a border are a measurement. -/
def measB (a b : Int) : Bool := inB a 0 268435456 && inB b 0 16777216
theorem measB_iff (a b : Int) : measB a b = true ↔ (0 ≤ a ∧ a ≤ 268435456) ∧ 0 ≤ b ∧ b ≤ 16777216 := by simp [measB, inB]

set_option maxHeartbeats 400000 in
theorem validT_any (a b : Int) (w : World) :
    Calls Tryz.prog 135 #[.agg #[.int .i64 a, .int .i64 b]] w fun e w' => e = .returned (.bool (measB a b)) ∧ Below w.heap.size w w' := by
  go_enter Tryz.func135, Tryz.ntmps135
  go_wp2
  all_goals
    go_ret
    exact ⟨ret_bool (by simp [measB_iff]; omega), (Below.refl _ _).alloc (Nat.le_refl _) _⟩
/-- Whether a number can be divided, and by which. -/
def fitsB (a b : Int) : Bool := inB a (-1125899906842624) 1125899906842624 && inB b 1 1099511627776
theorem fitsB_iff (a b : Int) : fitsB a b = true ↔ (-1125899906842624 ≤ a ∧ a ≤ 1125899906842624) ∧ 1 ≤ b ∧ b ≤ 1099511627776 := by simp [fitsB, inB]
set_option maxHeartbeats 400000 in
theorem fits_any (a b : Int) (w : World) :
    Calls Tryz.prog 225 #[.int .i64 a, .int .i64 b] w fun e w' => e = .returned (.bool (fitsB a b)) ∧ w = w' := by
  go_enter Tryz.func225, Tryz.ntmps225
  go_wp2
  all_goals
    go_ret
    exact ⟨ret_bool (by simp [fitsB_iff]; omega), rfl⟩

theorem tdiv_bd (a b : Int) (hb : 1 ≤ b) (h : -1125899906842624 ≤ a ∧ a ≤ 1125899906842624) : -1125899906842624 ≤ a.tdiv b ∧ a.tdiv b ≤ 1125899906842624 := by
  have h1 := Int.natAbs_tdiv_le_natAbs a b
  omega
theorem floor_bd (a b : Int) (hb : 1 ≤ b) (h : -1125899906842624 ≤ a ∧ a ≤ 1125899906842624) : -1125899906842625 ≤ a / b ∧ a / b ≤ 1125899906842624 := by
  have := tdiv_bd a b hb h
  rw [tdiv_floor a b hb]
  split <;> omega

set_option maxHeartbeats 400000 in
theorem down_any (a b : Int) (w : World) (ha : -1125899906842624 ≤ a) (ha' : a ≤ 1125899906842624) (hb : 1 ≤ b) (hb' : b ≤ 1099511627776) :
    Calls Tryz.prog 141 #[.int .i64 a, .int .i64 b] w fun e w' => e = .returned (.int .i64 (a / b)) ∧ w = w' := by
  have hf : fitsB a b = true := (fitsB_iff a b).2 ⟨⟨ha, ha'⟩, hb, hb'⟩
  have hbd := tdiv_bd a b hb ⟨ha, ha'⟩
  have hd := Lib.hid (tdiv_floor a b hb)
  generalize a / b = q at *
  by_cases hr : a.tmod b < 0
  all_goals
    go_enter Tryz.func141, Tryz.ntmps141
    go_wp2_with (go_at_call 225; refine (fits_any _ _ _).mono ?_; rintro e w' ⟨rfl, rfl⟩)
    go_ret
    exact ⟨ret_int (by rw [hd.out]; first | rw [if_pos hr] | rw [if_neg (by omega)]), rfl⟩

set_option maxHeartbeats 400000 in
theorem up_any (a b : Int) (w : World) (ha : -1125899906842624 ≤ a) (ha' : a ≤ 1125899906842624) (hb : 1 ≤ b) (hb' : b ≤ 1099511627776) :
    Calls Tryz.prog 57 #[.int .i64 a, .int .i64 b] w fun e w' => e = .returned (.int .i64 (-((-a) / b))) ∧ w = w' := by
  have hq := floor_bd (-a) b hb (by omega)
  have H := Lib.hid (down_any (-a) b)
  generalize (-a) / b = q at *
  go_enter Tryz.func57, Tryz.ntmps57
  go_wp2_with (go_at_call 141; refine (H.out _ (by omega) (by omega) hb hb').mono ?_; rintro e w' ⟨rfl, rfl⟩)
  go_ret
  exact ⟨rfl, rfl⟩

/-- The first error of a claim, a measurement and a width. -/
def checkT (c a b wd : Int) : Int := if measB a b = true then (if 0 ≤ wd ∧ wd ≤ 200 ∧ 0 ≤ c ∧ c ≤ 268435456 then 0 else 2) else 3
theorem checkT_zero (c a b wd : Int) : checkT c a b wd = 0 ↔ measB a b = true ∧ 0 ≤ wd ∧ wd ≤ 200 ∧ 0 ≤ c ∧ c ≤ 268435456 := by
  unfold checkT
  split <;> (try split) <;> simp_all

set_option maxHeartbeats 400000 in
theorem checkT_any (c a b wd : Int) (w : World) :
    Calls Tryz.prog 50 #[.int .i64 c, .agg #[.int .i64 a, .int .i64 b], .int .i64 wd] w fun e w' => e = .returned (.int .i64 (checkT c a b wd)) ∧ Below w.heap.size w w' := by
  have hv := Lib.hid (validT_any a b)
  cases hm : measB a b
  all_goals
    rw [hm] at hv
    have Hm := Lib.hid hm
    clear hm
    go_enter Tryz.func50, Tryz.ntmps50
    go_wp2_with (go_at_call 135; refine (hv.out _).mono ?_; rintro e w1 ⟨rfl, hb⟩; obtain ⟨hc, hf⟩ := bcell hb)
    all_goals
      go_ret
      refine ⟨ret_int ?_, ((Below.refl _ _).alloc (Nat.le_refl _) _).trans (hb.mono (by simp))⟩
      unfold checkT
      rw [Hm.out]
      simp
      try omega

/-- The margin of a measurement; 0 if there is an error. -/
def marginV (a b wd : Int) : Int := if checkT 0 a b wd = 0 then min a ((b * wd + 99) / 100) else 0
theorem mul_bdT {b wd : Int} (h1 : 0 ≤ b) (h2 : b ≤ 16777216) (h3 : 0 ≤ wd) (h4 : wd ≤ 200) : 0 ≤ b * wd ∧ b * wd ≤ 3355443200 := by
  refine ⟨Int.mul_nonneg h1 h3, ?_⟩
  have := Int.mul_le_mul h2 h4 h3 (by omega)
  omega
theorem up100 (x : Int) : -((-x) / 100) = (x + 99) / 100 := by omega

set_option maxHeartbeats 400000 in
theorem marginT_any (a b wd : Int) (w : World) :
    Calls Tryz.prog 14 #[.agg #[.int .i64 a, .int .i64 b], .int .i64 wd] w fun e w' => e = .returned (.tuple #[.int .i64 (marginV a b wd), .int .i64 (checkT 0 a b wd)]) ∧ Below w.heap.size w w' := by
  have hv := Lib.hid (checkT_any 0 a b wd)
  unfold marginV
  by_cases hz : checkT 0 a b wd = 0
  · rw [if_pos hz]
    obtain ⟨hm, h1, h2, _, _⟩ := (checkT_zero 0 a b wd).1 hz
    obtain ⟨⟨h5, h6⟩, h7, h8⟩ := (measB_iff a b).1 hm
    obtain ⟨h9, h10⟩ := mul_bdT h7 h8 h1 h2
    rw [hz] at hv ⊢
    clear hz hm
    have hu := Lib.hid (up_any (b * wd) 100)
    rw [up100] at hu
    go_enter Tryz.func14, Tryz.ntmps14
    go_wp2_with (go_at_call 50; refine (hv.out _).mono ?_; rintro e w1 ⟨rfl, hb⟩; obtain ⟨hc, hf⟩ := bcell hb)
    go_quiet ((go_at_call 57; exact quiet_left (hu.out _ (by omega) (by omega) (by omega) (by omega))))
    go_wp2
    all_goals
      go_ret2
      exact ⟨ret_ints (by omega) rfl, (by repeat' (first | with_reducible exact Below.refl _ _ | with_reducible refine below_drewN ?_ _ | with_reducible refine Below.drew ?_ | with_reducible refine Below.alloc ?_ ?_ _ | with_reducible refine Below.setCell ?_ ?_ _ | with_reducible refine Below.trans ?_ (Below.mono (by with_reducible assumption) ?_) | (simp; done) | (simp; omega) | omega))⟩
  · rw [if_neg hz]
    have hz' : (checkT 0 a b wd != 0) = true := by simp [hz]
    generalize checkT 0 a b wd = z at *
    go_enter Tryz.func14, Tryz.ntmps14
    go_wp2_with (go_at_call 50; refine (hv.out _).mono ?_; rintro e w1 ⟨rfl, hb⟩; obtain ⟨hc, hf⟩ := bcell hb)
    go_ret2
    exact ⟨rfl, (by repeat' (first | with_reducible exact Below.refl _ _ | with_reducible refine below_drewN ?_ _ | with_reducible refine Below.drew ?_ | with_reducible refine Below.alloc ?_ ?_ _ | with_reducible refine Below.setCell ?_ ?_ _ | with_reducible refine Below.trans ?_ (Below.mono (by with_reducible assumption) ?_) | (simp; done) | (simp; omega) | omega))⟩

/-- The area that is accepted; 0 if there is an error. -/
def acceptV (c a b wd : Int) : Int := if checkT c a b wd = 0 then (if c - a ≤ min a ((b * wd + 99) / 100) ∧ a - c ≤ min a ((b * wd + 99) / 100) then c else a) else 0
theorem checkT_of (c a b wd : Int) (h : checkT c a b wd = 0) : checkT 0 a b wd = 0 := by
  obtain ⟨h1, h2, h3, h4, h5⟩ := (checkT_zero c a b wd).1 h
  exact (checkT_zero 0 a b wd).2 ⟨h1, h2, h3, by omega, by omega⟩

set_option maxHeartbeats 400000 in
theorem acceptT_any (c a b wd : Int) (w : World) :
    Calls Tryz.prog 12 #[.int .i64 c, .agg #[.int .i64 a, .int .i64 b], .int .i64 wd] w fun e w' => e = .returned (.tuple #[.int .i64 (acceptV c a b wd), .int .i64 (checkT c a b wd)]) ∧ Below w.heap.size w w' := by
  have hv := Lib.hid (checkT_any c a b wd)
  have hg := Lib.hid (marginT_any a b wd)
  unfold acceptV
  by_cases hz : checkT c a b wd = 0
  · rw [if_pos hz]
    have hz0 := checkT_of c a b wd hz
    unfold marginV at hg
    rw [if_pos hz0, hz0] at hg
    obtain ⟨hm, h1, h2, h3, h4⟩ := (checkT_zero c a b wd).1 hz
    obtain ⟨⟨h5, h6⟩, h7, h8⟩ := (measB_iff a b).1 hm
    obtain ⟨h9, h10⟩ := mul_bdT h7 h8 h1 h2
    rw [hz] at hv ⊢
    clear hz hm hz0
    have hr : min a ((b * wd + 99) / 100) ≤ 268435456 ∧ 0 ≤ min a ((b * wd + 99) / 100) := by omega
    generalize min a ((b * wd + 99) / 100) = r at *
    rcases (show (c - a ≤ r ∧ a - c ≤ r) ∨ (r < c - a ∧ a - c ≤ r) ∨ (c - a ≤ r ∧ r < a - c) by omega) with ⟨hd, hd'⟩ | ⟨hd, hd'⟩ | ⟨hd, hd'⟩
    all_goals
      go_enter Tryz.func12, Tryz.ntmps12
      go_wp2_with (first | (go_at_call 50; refine (hv.out _).mono ?_; rintro e w1 ⟨rfl, hb1⟩; obtain ⟨hc1, hf1⟩ := bcell hb1; have hl1 : w.heap.size < w1.heap.size := (by have := hb1.size; (try simp at this); omega)) | (go_at_call 14; refine (hg.out _).mono ?_; rintro e w2 ⟨rfl, hb2⟩; obtain ⟨hc2, hf2⟩ := bcell hb2; have hl2 : w.heap.size < w2.heap.size := (by have := hb2.size; (try simp at this); omega)))
      all_goals
        go_ret2
        refine ⟨ret_ints ?_ rfl, (by repeat' (first | with_reducible exact Below.refl _ _ | with_reducible refine below_drewN ?_ _ | with_reducible refine Below.drew ?_ | with_reducible refine Below.alloc ?_ ?_ _ | with_reducible refine Below.setCell ?_ ?_ _ | with_reducible refine Below.trans ?_ (Below.mono (by with_reducible assumption) ?_) | (simp; done) | (simp; omega) | omega))⟩
        first | rfl | rw [if_pos (by omega)] | rw [if_neg (by omega)]
  · rw [if_neg hz]
    have hz' : (checkT c a b wd != 0) = true := by simp [hz]
    generalize checkT c a b wd = z at *
    go_enter Tryz.func12, Tryz.ntmps12
    go_wp2_with (go_at_call 50; refine (hv.out _).mono ?_; rintro e w1 ⟨rfl, hb⟩; obtain ⟨hc, hf⟩ := bcell hb)
    go_ret2
    exact ⟨rfl, (by repeat' (first | with_reducible exact Below.refl _ _ | with_reducible refine below_drewN ?_ _ | with_reducible refine Below.drew ?_ | with_reducible refine Below.alloc ?_ ?_ _ | with_reducible refine Below.setCell ?_ ?_ _ | with_reducible refine Below.trans ?_ (Below.mono (by with_reducible assumption) ?_) | (simp; done) | (simp; omega) | omega))⟩

end Go.Proofs.YtfmkmhhghmdakaaGreatDoor
namespace Go.Proofs.YtfmkmhhghmdakaaGreatDoor
open Go.RowKit
set_option linter.unusedVariables false
set_option linter.unusedSimpArgs false

/-- Whether a claim is right: 1, -1 or 0. -/
def decideV (c a b wd : Int) : Int := if checkT c a b wd = 0 then (if c ≤ a then 1 else if min a ((b * wd + 99) / 100) < c - a then -1 else 0) else 0
set_option maxHeartbeats 400000 in
theorem decideT_any (c a b wd : Int) (w : World) :
    Calls Tryz.prog 15 #[.int .i64 c, .agg #[.int .i64 a, .int .i64 b], .int .i64 wd] w fun e w' => e = .returned (.tuple #[.int .i64 (decideV c a b wd), .int .i64 (checkT c a b wd)]) ∧ Below w.heap.size w w' := by
  have hv := Lib.hid (checkT_any c a b wd)
  have hg := Lib.hid (marginT_any a b wd)
  unfold decideV
  by_cases hz : checkT c a b wd = 0
  · rw [if_pos hz]
    have hz0 := checkT_of c a b wd hz
    unfold marginV at hg
    rw [if_pos hz0, hz0] at hg
    obtain ⟨hm, h1, h2, h3, h4⟩ := (checkT_zero c a b wd).1 hz
    obtain ⟨⟨h5, h6⟩, h7, h8⟩ := (measB_iff a b).1 hm
    obtain ⟨h9, h10⟩ := mul_bdT h7 h8 h1 h2
    rw [hz] at hv ⊢
    clear hz hm hz0
    have hr : min a ((b * wd + 99) / 100) ≤ 268435456 ∧ 0 ≤ min a ((b * wd + 99) / 100) := by omega
    generalize min a ((b * wd + 99) / 100) = r at *
    rcases (show c ≤ a ∨ (¬ c ≤ a ∧ r < c - a) ∨ (¬ c ≤ a ∧ ¬ r < c - a) by omega) with hd | ⟨hd, hd'⟩ | ⟨hd, hd'⟩
    all_goals
      go_enter Tryz.func15, Tryz.ntmps15
      go_wp2_with (first | (go_at_call 50; refine (hv.out _).mono ?_; rintro e w1 ⟨rfl, hb1⟩; obtain ⟨hc1, hf1⟩ := bcell hb1; have hl1 : w.heap.size < w1.heap.size := (by have := hb1.size; (try simp at this); omega)) | (go_at_call 14; refine (hg.out _).mono ?_; rintro e w2 ⟨rfl, hb2⟩; obtain ⟨hc2, hf2⟩ := bcell hb2; have hl2 : w.heap.size < w2.heap.size := (by have := hb2.size; (try simp at this); omega)))
      all_goals
        go_ret2
        refine ⟨ret_ints ?_ rfl, (by repeat' (first | with_reducible exact Below.refl _ _ | with_reducible refine below_drewN ?_ _ | with_reducible refine Below.drew ?_ | with_reducible refine Below.alloc ?_ ?_ _ | with_reducible refine Below.setCell ?_ ?_ _ | with_reducible refine Below.trans ?_ (Below.mono (by with_reducible assumption) ?_) | (simp; done) | (simp; omega) | omega))⟩
        first | rfl | (simp [hd]; done) | (rw [if_neg (by omega), if_pos (by omega)]) | (rw [if_neg (by omega), if_neg (by omega)]) | (rw [if_pos (by omega)])
  · rw [if_neg hz]
    have hz' : (checkT c a b wd != 0) = true := by simp [hz]
    generalize checkT c a b wd = z at *
    go_enter Tryz.func15, Tryz.ntmps15
    go_wp2_with (go_at_call 50; refine (hv.out _).mono ?_; rintro e w1 ⟨rfl, hb⟩; obtain ⟨hc, hf⟩ := bcell hb)
    go_ret2
    exact ⟨rfl, (by repeat' (first | with_reducible exact Below.refl _ _ | with_reducible refine below_drewN ?_ _ | with_reducible refine Below.drew ?_ | with_reducible refine Below.alloc ?_ ?_ _ | with_reducible refine Below.setCell ?_ ?_ _ | with_reducible refine Below.trans ?_ (Below.mono (by with_reducible assumption) ?_) | (simp; done) | (simp; omega) | omega))⟩
end Go.Proofs.YtfmkmhhghmdakaaGreatDoor
namespace Go.Proofs.YtfmkmhhghmdakaaGreatDoor
open Go.RowKit
set_option linter.unusedVariables false
set_option linter.unusedSimpArgs false

/-- What Measure returns: the area, the border, the error. -/
def meaV (l : List R4) : Int × Int × Int := if validP l then (sizeP l, bordP l, 0) else (0, 0, 7)
theorem box2 {w : World} {g : Nat} {t : TypeId} {a b x y : Value} (h : w.heap[g]? = some (.cells #[a, b] t (0, 0))) : ((w.setCell ⟨g, 0, none⟩ x).setCell ⟨g, 1, none⟩ y).heap[g]? = some (.cells #[x, y] t (0, 0)) := by
  have h1 := heap_setCell_same w g 0 _ _ x h
  have h2 := heap_setCell_same _ g 1 _ _ y h1
  simpa using h2
set_option maxHeartbeats 2000000 in
set_option maxRecDepth 100000 in
theorem meaT_any (A : Option Addr) (n c : Nat) (l : List R4) (w : World) (hA : SlR w A n c l) :
    Calls Tryz.prog 10 #[.agg #[.slice A n c]] w fun e w' => e = .returned (.tuple #[.agg #[.int .i64 (meaV l).1, .int .i64 (meaV l).2.1], .int .i64 (meaV l).2.2]) ∧ Below w.heap.size w w' := by
  have HA := Lib.hid hA
  have HB := Lib.hid (fun W (hW : SlR W A n c l) => bordO_any A n c l W hW)
  have HR := Lib.hid (fun W (hW : SlR W A n c l) => area_any A n c l W hW)
  clear hA
  obtain ⟨wa, hwa⟩ : ∃ wa : World, wa = (w.alloc (.cells #[.slice A n c] 33)).alloc (.cells #[.int .i64 0, .int .i64 0] 37) := ⟨_, rfl⟩
  have hsa : wa.heap.size = w.heap.size + 2 := by rw [hwa]; simp
  have Hba : Hid (Below w.heap.size w wa) := Lib.hid (by rw [hwa]; exact (by repeat' (first | with_reducible exact Below.refl _ _ | with_reducible refine below_drewN ?_ _ | with_reducible refine Below.drew ?_ | with_reducible refine Below.alloc ?_ ?_ _ | with_reducible refine Below.setCell ?_ ?_ _ | with_reducible refine Below.trans ?_ (Below.mono (by with_reducible assumption) ?_) | (simp; done) | (simp; omega) | omega)))
  have hra : wa.heap[w.heap.size]? = some (.cells #[.slice A n c] 33 (0, 0)) := by rw [hwa]; exact (Below.heap_alloc _ _ _ (by simp)).trans (heap_alloc_new w _)
  have hrb : wa.heap[w.heap.size + 1]? = some (.cells #[.int .i64 0, .int .i64 0] 37 (0, 0)) := by rw [hwa]; have := heap_alloc_new (w.alloc (.cells #[.slice A n c] 33)) (.cells #[.int .i64 0, .int .i64 0] 37); simpa using this
  have ca := cell_of_row wa w.heap.size 0 _ _ _ hra
  have Hrb := Lib.hid hrb
  have Hra := Lib.hid hra
  clear hra hrb
  unfold meaV
  unfold bordV at HB
  unfold areaP at HR
  cases hv : validP l with
  | false =>
    rw [hv] at HB
    clear HR hv
    go_enter Tryz.func10, Tryz.ntmps10
    go_upto_region 1 with fail
    rw [← hwa]
    have HW := Lib.hid hwa
    clear hwa
    go_upto_region 3 with (first
      | (go_at_call 47
         refine (HB.out _ (HA.out.below Hba.out)).mono ?_
         rintro e w1 ⟨rfl, hb1⟩
         have Hb1 := Lib.hid hb1
         have hs1 := hb1.size
         have hr1 := (hb1.block _ (by omega)).trans Hrb.out
         have Hr1 := Lib.hid hr1
         have c1 := cell_of_row w1 (w.heap.size + 1) 0 _ _ _ hr1
         have c2 := cell_of_row w1 (w.heap.size + 1) 1 _ _ _ hr1
         have f1 := frozen_of_row w1 (w.heap.size + 1) 0 _ _ hr1
         have f2 := frozen_of_row w1 (w.heap.size + 1) 1 _ _ hr1
         clear hb1 hr1)
      | fail)
    go_wp2
    have s0 : ((w1.setCell ⟨w.heap.size + 1, 0, none⟩ (.int .i64 0)).setCell ⟨w.heap.size + 1, 1, none⟩ (.int .i64 0)).heap[w.heap.size + 1]? = some (.cells #[.int .i64 0, .int .i64 0] 37 (0, 0)) := box2 Hr1.out
    have z0 := cell_of_row _ (w.heap.size + 1) 0 _ _ _ s0
    have z1 := cell_of_row _ (w.heap.size + 1) 1 _ _ _ s0
    refine bodyPost_ret (v := .tuple #[.agg #[.int .i64 0, .int .i64 0], .int .i64 7]) (by simp [results, Tryz.results10, go_sem, *]) rfl ?_
    exact ⟨rfl, (Hba.out.trans (Hb1.out.mono (by omega))).setCell (by simp) _ |>.setCell (by simp) _⟩
  | true =>
    rw [hv] at HB HR
    clear hv
    go_enter Tryz.func10, Tryz.ntmps10
    go_upto_region 1 with fail
    rw [← hwa]
    have HW := Lib.hid hwa
    clear hwa
    go_upto_region 4 with (first
      | (go_at_call 47
         refine (HB.out _ (HA.out.below Hba.out)).mono ?_
         rintro e w1 ⟨rfl, hb1⟩
         have Hb1 := Lib.hid hb1
         have hs1 := hb1.size
         have Hr1 := Lib.hid ((hb1.block _ (by omega)).trans Hrb.out)
         have c0 := cell_of_row w1 w.heap.size 0 _ _ _ ((hb1.block _ (by omega)).trans Hra.out)
         clear hb1)
      | fail)
    go_wp2_with (first
      | (go_at_call 11
         refine (HR.out _ (HA.out.below (Hba.out.trans (Hb1.out.mono (by omega))))).mono ?_
         rintro e w2 ⟨rfl, hb2⟩
         have Hb2 : Hid (Below w.heap.size w w2) := Lib.hid ((Hba.out.trans (Hb1.out.mono (by omega))).trans (hb2.mono (by omega)))
         have hs2 := hb2.size
         have Hr2 := Lib.hid ((hb2.block (w.heap.size + 1) (by omega)).trans Hr1.out)
         have c1 := cell_of_row w2 (w.heap.size + 1) 0 _ _ _ Hr2.out
         have c2 := cell_of_row w2 (w.heap.size + 1) 1 _ _ _ Hr2.out
         have f1 := frozen_of_row w2 (w.heap.size + 1) 0 _ _ Hr2.out
         have f2 := frozen_of_row w2 (w.heap.size + 1) 1 _ _ Hr2.out
         clear hb2)
      | fail)
    have s0 : ((w2.setCell ⟨w.heap.size + 1, 0, none⟩ (.int .i64 (sizeP l))).setCell ⟨w.heap.size + 1, 1, none⟩ (.int .i64 (bordP l))).heap[w.heap.size + 1]? = some (.cells #[.int .i64 (sizeP l), .int .i64 (bordP l)] 37 (0, 0)) := box2 Hr2.out
    have z0 := cell_of_row _ (w.heap.size + 1) 0 _ _ _ s0
    have z1 := cell_of_row _ (w.heap.size + 1) 1 _ _ _ s0
    refine bodyPost_ret (v := .tuple #[.agg #[.int .i64 (sizeP l), .int .i64 (bordP l)], .int .i64 0]) (by simp [results, Tryz.results10, go_sem, *]) rfl ?_
    exact ⟨rfl, (Hb2.out.setCell (by simp) _).setCell (by simp) _⟩
end Go.Proofs.YtfmkmhhghmdakaaGreatDoor
namespace Go.Proofs.YtfmkmhhghmdakaaGreatDoor
set_option linter.unusedVariables false
set_option linter.unusedSimpArgs false

theorem all2_bdT (F : Int → Int → Int) (hF : ∀ x y, 0 ≤ F x y ∧ F x y ≤ 1) (n : Nat) : 0 ≤ all2 F n ∧ all2 F n ≤ n * n := by
  have h1 := fun y => sumI_bd (fun x => F x y) 1 (by omega) (fun x => hF x y) n 0
  have h2 := sumI_bd (fun y => sumI (fun x => F x y) 0 n) (n * 1) (by omega) h1 n 0
  rw [Int.mul_one] at h2
  exact h2
theorem ind_bdT (b : Bool) : 0 ≤ ind b ∧ ind b ≤ 1 := by unfold ind; split <;> omega
theorem bordT_bdT (P : Int → Int → Bool) (n : Nat) : 0 ≤ bordT P n ∧ bordT P n ≤ 4 * (n * n) := by
  have h1 := all2_bdT (D1 P) (fun x y => ind_bdT _) n
  have h2 := all2_bdT (D2 P) (fun x y => ind_bdT _) n
  have h3 := all2_bdT (D3 P) (fun x y => ind_bdT _) n
  have h4 := all2_bdT (D4 P) (fun x y => ind_bdT _) n
  unfold bordT
  omega
/-- What is measured of a region of a line. -/
theorem meas30 {m : Nat} {l : List R4} (h : Reg 30 m l) (hm : m ≤ 120) : meaV l = (areaP l, bordP l, 0) ∧ (0 ≤ areaP l ∧ areaP l ≤ 900) ∧ (0 ≤ bordP l ∧ bordP l ≤ 3600) := by
  have hv := h.valid (by omega) hm
  refine ⟨by unfold meaV areaP; rw [hv]; rfl, ?_, ?_⟩
  · rw [h.cnt hm]; exact cnt_bd _
  · have := bordT_bdT (inL l) 30
    rw [bordP_true l 30 (by omega) h.ins]
    omega
/-- A rectangle within a parcel's reach. -/
def Box9 (lo : Int) (q : R4) : Prop := lo ≤ q.l ∧ q.l < q.r ∧ q.r ≤ lo + 9 ∧ 0 ≤ q.b ∧ q.b < q.t ∧ q.t ≤ 9
theorem box_fold (lo : Int) : ∀ (t : List R4) (a : R4), Box9 lo a → (∀ q ∈ t, Box9 lo q) → Box9 lo (t.foldl bxQ a)
  | [], a, h, _ => h
  | x :: t, a, h, ht => by
    refine box_fold lo t (bxQ a x) ?_ (fun q hq => ht q (by simp [hq]))
    have h1 := ht x (by simp)
    unfold Box9 bxQ at *
    dsimp only
    omega
theorem box_bounds {lo : Int} {l : List R4} (hne : l ≠ []) (h : ∀ q ∈ l, Box9 lo q) : Box9 lo (boundsP l) := by
  cases l with
  | nil => exact absurd rfl hne
  | cons x t => exact box_fold lo (x :: t) x (h x (by simp)) h
/-- How many rectangles a set of squares has, wherever its rows begin. -/
theorem canon_lenT {P : Int → Int → Bool} {R : List R4} (h : Canon P R) {X : List Int} (hX : ∀ y, Cut X (fun x => P x y)) (c0 : Int) (H : Nat) (hy : ∀ x y, P x y = true → c0 ≤ y ∧ y < c0 + H) : R.length ≤ H * (X.length / 2) := by
  obtain ⟨row, bs, h1, h2, rfl⟩ := h
  have hr : ∀ y, (row y).length ≤ X.length / 2 := fun y => by have := segs_ends (h1 y) (hX y); omega
  have hb : bs.length ≤ H := by
    have hn : ∀ y, ¬ (c0 ≤ y ∧ y < c0 + (H : Int)) → nz (row y) = none := fun y h => by
      rw [segs_none (p := fun x => P x y) (fun x => by
        cases hx : P x y with
        | false => rfl
        | true => exact absurd (hy x y hx) h) (h1 y)]
      rfl
    obtain ⟨c, h0, h3⟩ := h2
    have h4 : SegF (fun y => nz (row y)) c0 bs := by
      rcases Int.le_total c c0 with hc | hc
      · exact h3.up hc fun x hx => hn x (by omega)
      · exact h3.down hc fun x hx hx2 => h0 x hx2
    have := SegF.count (e := c0 + (H : Int)) (fun x v hx => by
      rcases Int.lt_or_le x (c0 + H) with h5 | h5
      · exact h5
      · rw [hn x (by omega)] at hx; cases hx) h4 (by omega)
    omega
  have hf := flat_len (X.length / 2) bs (fun s hs => by
    have := (h2.mem s.1 s.2.2).2 ⟨s, hs, Int.le_refl _, h2.pos s hs, rfl⟩
    rw [← (nz_some this).1]
    exact hr _)
  exact Nat.le_trans hf (Nat.mul_le_mul_right _ hb)
/-- Squares within some columns change at few places. -/
theorem cut_cols {P : Int → Int → Bool} (lo : Int) (n : Nat) (h : ∀ x y, P x y = true → lo ≤ x ∧ x < lo + n) (y : Int) : Cut ((List.range (n + 1)).map fun j : Nat => lo + (j : Int)) (fun x => P x y) := by
  intro x hx
  have hr : lo ≤ x ∧ x ≤ lo + n := by
    dsimp only at hx
    cases h1 : P (x - 1) y with
    | true => have := h _ _ h1; omega
    | false =>
      cases h2 : P x y with
      | true => have := h _ _ h2; omega
      | false => rw [h1, h2] at hx; exact absurd rfl hx
  exact List.mem_map.2 ⟨(x - lo).toNat, List.mem_range.2 (by omega), by omega⟩
theorem LnOk.box {R : List (List R4)} {nc : Nat} {x : Ln} (hR : PcOk R) (h : LnOk R nc x) : ∃ p : Nat, p < 3 ∧ ∀ q ∈ x.rg, Box9 (10 * (p : Int)) q := by
  obtain ⟨p, hp, hpc, hin⟩ := h.pc
  refine ⟨p, by have := hR.m; omega, fun q hq => ?_⟩
  have hi := h.reg.ins q hq
  have hm : ∀ u v, q.has u v = true → inL x.rg u v = true := fun u v huv => List.any_eq_true.2 ⟨q, hq, huv⟩
  have h1 := (hR.at' p hp).in _ _ (hin q.l q.b (hm _ _ (by simp [R4.has]; omega)))
  have h2 := (hR.at' p hp).in _ _ (hin (q.r - 1) (q.t - 1) (hm _ _ (by simp [R4.has]; omega)))
  unfold Box9
  omega
/-- One square narrower. -/
theorem less_law {R : List (List R4)} {nc : Nat} {x : Ln} (hR : PcOk R) (h : LnOk R nc x) :
    BdQ (boundsP x.rg) ∧ (boundsP x.rg).l < (boundsP x.rg).r ∧ (outP x.rg).length ≤ 700 ∧ (∀ q ∈ outP x.rg, BdQ q ∧ q.l < q.r) ∧ Reg 30 120 (lessP x.rg) ∧ ∀ u v, inL (lessP x.rg) u v = true → inL x.rg u v = true := by
  obtain ⟨p, hp, hbox⟩ := h.box hR
  have hbx := box_bounds h.ne hbox
  have hpos := h.reg.ins.pos
  obtain ⟨bx, hbe⟩ : ∃ bx, boundsP x.rg = bx := ⟨_, rfl⟩
  rw [hbe] at hbx ⊢
  have hw1 : ∀ q ∈ widP [bx], q.l < q.r := fun q hq => by
    simp [widP] at hq; subst hq; unfold Box9 at hbx; simp only [wideQ]; omega
  have hc1 := choose_canon notB rfl (widP [bx]) x.rg hw1 hpos
  have hm1 : ∀ u v, notB (inL (widP [bx]) u v) (inL x.rg u v) = true → 10 * (p : Int) - 1 ≤ u ∧ u < 10 * (p : Int) - 1 + (11 : Nat) ∧ -1 ≤ v ∧ v < -1 + (11 : Nat) := fun u v huv => by
    unfold notB at huv
    rw [Bool.and_eq_true] at huv
    have := huv.1
    simp [inL, widP, wideQ, R4.has] at this
    unfold Box9 at hbx
    omega
  have ho : outP x.rg = chooseP notB (widP [bx]) x.rg := by unfold outP; rw [hbe]
  have hol : (outP x.rg).length ≤ 700 := by
    rw [ho]
    have := canon_lenT hc1 (fun y => cut_cols (P := fun u v => notB (inL (widP [bx]) u v) (inL x.rg u v)) (10 * (p : Int) - 1) 11 (fun u v huv => by have := hm1 u v huv; omega) y) (-1) 11 (fun u v huv => by have := hm1 u v huv; omega)
    rw [List.length_map, List.length_range] at this
    omega
  have hoq : ∀ q ∈ outP x.rg, BdQ q ∧ q.l < q.r := fun q hq => by
    rw [ho] at hq
    have := hc1.bd (10 * (p : Int) - 1) (10 * (p : Int) - 1 + (11 : Nat)) (-1) (-1 + (11 : Nat)) hm1 q hq
    unfold BdQ
    omega
  have hw2 : ∀ q ∈ widP (outP x.rg), q.l < q.r := fun q hq => by
    obtain ⟨z, hz, rfl⟩ := List.mem_map.1 hq
    have := (hoq z hz).2
    simp only [wideQ]; omega
  have hc2 := choose_canon notB rfl x.rg (widP (outP x.rg)) hpos hw2
  have hsub : ∀ u v, notB (inL x.rg u v) (inL (widP (outP x.rg)) u v) = true → inL x.rg u v = true := fun u v huv => by
    unfold notB at huv
    rw [Bool.and_eq_true] at huv
    exact huv.1
  have hm2 : ∀ u v, notB (inL x.rg u v) (inL (widP (outP x.rg)) u v) = true → 10 * (p : Int) ≤ u ∧ u < 10 * (p : Int) + (9 : Nat) ∧ 0 ≤ v ∧ v < 0 + (9 : Nat) := fun u v huv => by
    obtain ⟨q, hq, hqv⟩ := List.any_eq_true.1 (hsub u v huv)
    have hb := hbox q hq
    simp [R4.has] at hqv
    unfold Box9 at hb
    omega
  have hins : InS 30 (lessP x.rg) := fun q hq => by
    have := hc2.bd (10 * (p : Int)) (10 * (p : Int) + (9 : Nat)) 0 (0 + (9 : Nat)) hm2 q hq
    omega
  refine ⟨by unfold BdQ; unfold Box9 at hbx; omega, by unfold Box9 at hbx; omega, hol, hoq, ⟨hins, hc2.own hins.pos, ?_⟩, fun u v huv => ?_⟩
  · have := canon_lenT hc2 (fun y => cut_cols (P := fun u v => notB (inL x.rg u v) (inL (widP (outP x.rg)) u v)) (10 * (p : Int)) 9 (fun u v huv => by have := hm2 u v huv; omega) y) 0 9 (fun u v huv => by have := hm2 u v huv; omega)
    rw [List.length_map, List.length_range] at this
    unfold lessP
    omega
  · refine hsub u v ?_
    rw [← hc2.mem u v]
    exact huv
/-- What is left of a line within what lies in it. -/
theorem clip_less {R : List (List R4)} {nc : Nat} {x : Ln} {b : List R4} (hR : PcOk R) (h : LnOk R nc x) (hb : Reg 30 120 b) (hs : ∀ u v, inL b u v = true → inL x.rg u v = true) :
    clipCP [x] b = (if b = [] then [] else [⟨x.pc, b, x.cr, x.sch⟩], 0) := by
  have hch : chooseP andB x.rg b = b := choose_is rfl hb.ins.pos hb.canon h.reg.ins.pos hb.ins.pos (fun u v => by
    unfold andB
    cases hc : inL b u v with
    | true => rw [hs u v hc]; rfl
    | false => simp)
  unfold clipCP
  rw [if_neg (by simp), show validL [x] = true from List.all_eq_true.2 (fun y hy => by rw [List.mem_singleton] at hy; subst hy; exact h.reg.valid (by omega) (by omega)), hb.valid (by omega) (by omega), show [x].any (bigC b) = false from List.any_eq_false.2 (fun y hy => by
    rw [List.mem_singleton] at hy; subst hy
    unfold bigC
    rw [hch, decide_eq_true_eq]
    have := hb.len
    omega)]
  simp only [Bool.and_self, if_true, Bool.false_eq_true, if_false, clipsP, hch, List.append_nil]
  cases b with
  | nil => rfl
  | cons q t => simp
end Go.Proofs.YtfmkmhhghmdakaaGreatDoor
