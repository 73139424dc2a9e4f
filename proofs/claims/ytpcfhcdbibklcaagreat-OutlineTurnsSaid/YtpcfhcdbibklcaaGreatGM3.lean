/- Contract: Signed (outline). -/
/- Plain: what Fill makes of rings: the squares that are behind an odd number of borders. -/
/- Contract: walls (outline). -/
/- Contract: crossed (outline). -/
/- Contract: Fill (outline). -/
/- Plain: the rings of a region, filled, are the region; their areas and lengths. -/
/- OutlineBack: the walk. -/
import Derived.Test.YtpcfhcdbibklcaaGreatGM2
import Derived.Test.YtpcfhcdbibklcaaGreatGr
import Derived.Test.YtpcfhcdbibklcaaGreatR3
import Derived.Test.YtpcfhcdbibklcaaGreatS1
import Derived.Test.YtpcfhcdbibklcaaGreatR7
import Derived.Test.YtpcfhcdbibklcaaGreatWJ
import Derived.Test.YtpcfhcdbibklcaaGreatHA
import Derived.Test.YtpcfhcdbibklcaaGreatBi
import Derived.Test.YtpcfhcdbibklcaaGreatV4
import Derived.Test.YtpcfhcdbibklcaaGreatVs
namespace Go.Proofs.YtpcfhcdbibklcaaGreat
open Go.RowKit Go.Shelf
set_option linter.unusedVariables false
set_option linter.unusedSimpArgs false

/-- A sum around a ring, corner by corner. -/
theorem cyc_range (φ : Pt → Pt → Int) (r : List Pt) : sumL (fun i => φ (at0 r i) (at0 r (i + 1))) (List.range r.length) = cycP φ r := by
  cases r with
  | nil => rfl
  | cons a t =>
    have key : ∀ (t : List Pt) (a z : Pt), sumL (fun i => φ ((a :: t).getD i (0, 0)) ((t ++ [z]).getD i (0, 0))) (List.range (t.length + 1)) = sumP φ a t z := fun t => by
      induction t with
      | nil => intro a z; simp [sumL, sumP, List.range_succ]
      | cons b t ih =>
        intro a z
        rw [List.length_cons, List.range_succ_eq_map, sumL_cons, sumL_map]
        have h := ih b z
        show φ a b + _ = φ a b + sumP φ b t z
        rw [← h]
        rfl
    show _ = sumP φ a t a
    rw [← key t a a, List.length_cons]
    refine sumL_congr fun i hi => ?_
    have hi : i < t.length + 1 := List.mem_range.1 hi
    have e1 : at0 (a :: t) i = (a :: t).getD i (0, 0) := by unfold at0 atC; rw [List.length_cons, Nat.mod_eq_of_lt hi]
    have e2 : at0 (a :: t) (i + 1) = (t ++ [a]).getD i (0, 0) := by
      unfold at0 atC
      rw [List.length_cons]
      rcases Nat.lt_or_ge i t.length with h2 | h2
      · rw [Nat.mod_eq_of_lt (by omega)]
        simp [List.getD_eq_getElem?_getD, List.getElem?_append_left h2]
      · have : i = t.length := by omega
        subst this
        rw [Nat.mod_self]
        simp [List.getD_eq_getElem?_getD]
    rw [e1, e2]
def sumTo (φ : Pt → Pt → Int) (r : List Pt) (k : Nat) : Int := sumL (fun i => φ (at0 r i) (at0 r (i + 1))) (List.range k)
theorem sumTo_succ (φ : Pt → Pt → Int) (r : List Pt) (k : Nat) : sumTo φ r (k + 1) = sumTo φ r k + φ (at0 r k) (at0 r (k + 1)) := sumL_range_succ _ k
theorem ringP_zero {r : List Pt} (h : ringP r = 0) : 4 ≤ r.length ∧ r.length ≤ 400 ∧ (∀ p ∈ r, 0 ≤ p.1 ∧ p.1 ≤ 16384 ∧ 0 ≤ p.2 ∧ p.2 ≤ 16384) ∧ ∀ i, i < r.length → fineAt r i = true := by
  unfold ringP at h
  split at h
  · cases h
  · split at h
    · cases h
    · split at h
      · cases h
      · next h3 =>
        split at h
        · next h4 =>
          refine ⟨by omega, by omega, fun p hp => ?_, fun i hi => List.all_eq_true.1 h4 i (List.mem_range.2 hi)⟩
          have := List.all_eq_true.1 (by simpa using h3) p hp
          simp only [ptOk, Bool.and_eq_true, decide_eq_true_eq] at this
          omega
        · cases h
theorem at0_mem {r : List Pt} (h : 0 < r.length) (i : Nat) : at0 r i ∈ r := by
  have hm := Nat.mod_lt i h
  unfold at0 atC
  rw [List.getD_eq_getElem?_getD, List.getElem?_eq_getElem hm]
  exact List.getElem_mem hm
theorem prod_bd {a b : Int} (ha : 0 ≤ a ∧ a ≤ 16384) (hb : 0 ≤ b ∧ b ≤ 16384) : 0 ≤ a * b ∧ a * b ≤ 268435456 := by
  refine ⟨Int.mul_nonneg ha.1 hb.1, ?_⟩
  have h1 := Int.mul_le_mul_of_nonneg_left hb.2 ha.1
  have h2 : a * 16384 ≤ 16384 * 16384 := Int.mul_le_mul_of_nonneg_right ha.2 (by omega)
  omega
theorem sumTo_bd {r : List Pt} (h : ∀ p ∈ r, 0 ≤ p.1 ∧ p.1 ≤ 16384 ∧ 0 ≤ p.2 ∧ p.2 ≤ 16384) (hr : 0 < r.length) : ∀ k : Nat, -(268435456 * (k : Int)) ≤ sumTo phS r k ∧ sumTo phS r k ≤ 268435456 * (k : Int)
  | 0 => by simp [sumTo, sumL]
  | k + 1 => by
    have ih := sumTo_bd h hr k
    have h1 := h _ (at0_mem hr k)
    have h2 := h _ (at0_mem hr (k + 1))
    have b1 := prod_bd ⟨h1.1, h1.2.1⟩ ⟨h2.2.2.1, h2.2.2.2⟩
    have b2 := prod_bd ⟨h1.2.2.1, h1.2.2.2⟩ ⟨h2.1, h2.2.1⟩
    rw [sumTo_succ, show phS (at0 r k) (at0 r (k + 1)) = (at0 r k).1 * (at0 r (k + 1)).2 - (at0 r k).2 * (at0 r (k + 1)).1 from rfl]
    omega
/-- outline.Signed. -/
def signedV (r : List Pt) : Int × Int := if ringP r = 0 then ((cycP phS r).tdiv 2, 0) else (0, ringP r)
theorem ringP_cases (r : List Pt) : ringP r = 0 ∨ ringP r = 1 ∨ ringP r = 2 ∨ ringP r = 8 := by
  unfold ringP
  split
  · simp
  · split
    · simp
    · split
      · simp
      · split <;> simp
set_option maxHeartbeats 4000000 in
set_option maxRecDepth 100000 in
theorem signedO_any (A : Option Addr) (n c : Nat) (r : List Pt) (w : World) (hA : SlPt w A n c r) :
    Calls Tryz.prog 21 #[.slice A n c] w fun e w' => e = .returned (.tuple #[.int .i64 (signedV r).1, .int .i64 (signedV r).2]) ∧ Below w.heap.size w w' := by
  have hn := hA.len
  have HA := Lib.hid hA
  have HR := Lib.hid (fun W (h : SlPt W A n c r) => ring_any A n c r W h)
  clear hA
  by_cases h0 : ringP r = 0
  · have Hv : Hid (signedV r = ((cycP phS r).tdiv 2, 0)) := Lib.hid (if_pos h0)
    obtain ⟨g4, g400, gpt, _⟩ := ringP_zero h0
    rw [h0] at HR
    have Hbd := Lib.hid (fun k => sumTo_bd gpt (by omega) k)
    have Hpt := Lib.hid (fun i (hi : i < r.length) => gpt _ (List.getElem_mem hi))
    have Hend : Hid (sumTo phS r n = cycP phS r) := Lib.hid (by rw [← hn]; exact cyc_range phS r)
    have Hn := Lib.hid hn
    have hn4 : 4 ≤ n := by omega
    have hn400 : n ≤ 400 := by omega
    rw [Hv.out]
    clear h0 gpt g4 g400 hn Hv
    generalize cycP phS r = S at *
    have hSb : -(268435456 * (n : Int)) ≤ S ∧ S ≤ 268435456 * (n : Int) := by have := Hbd.out n; rw [Hend.out] at this; exact this
    obtain ⟨V, hV⟩ : ∃ V, S.tdiv 2 = V := ⟨_, rfl⟩
    have Hq : Hid (wrap64 (S.tdiv 2) = V) := Lib.hid (by
      rw [← hV]
      have h1 := Int.tmod_add_mul_tdiv S 2
      have h2 := Int.lt_tmod_of_pos S (show (0 : Int) < 2 by omega)
      have h3 := Int.tmod_lt_of_pos S (show (0 : Int) < 2 by omega)
      unfold wrap64
      omega)
    rw [hV]
    have HV := Lib.hid hV
    clear hV
    go_enter Tryz.func21, Tryz.ntmps21
    go_upto_region 5 with (first
      | (go_at_call 14
         refine (HR.out _ (HA.out.below (by repeat' (first | with_reducible exact Below.refl _ _ | with_reducible refine below_drewN ?_ _ | with_reducible refine Below.drew ?_ | with_reducible refine Below.alloc ?_ ?_ _ | with_reducible refine Below.setCell ?_ ?_ _ | with_reducible refine Below.trans ?_ (Below.mono (by with_reducible assumption) ?_) | (simp; done) | (simp; omega) | omega)))).mono ?_
         rintro e w1 ⟨rfl, hb1⟩
         have Hb1 : Hid (Below w.heap.size w w1) := Lib.hid (by have hbq := hb1; exact (by repeat' (first | with_reducible exact Below.refl _ _ | with_reducible assumption | with_reducible refine below_drewN ?_ _ | with_reducible refine Below.drew ?_ | with_reducible refine Below.alloc ?_ ?_ _ | with_reducible refine Below.setCell ?_ ?_ _ | with_reducible refine Below.trans ?_ (Below.mono (by with_reducible assumption) ?_) | with_reducible refine below_only ?_ (by with_reducible assumption) ?_ ?_ | (simp; done) | (simp; omega) | omega)))
         clear hb1)
      | fail)
    have HA1 := Lib.hid (HA.out.below Hb1.out)
    have hs1 := Hb1.out.size
    clear HR
    go_wp2
    go_loopw [5, 16] (fun sv iv wr => ∃ (k : Nat) (Z : Int), k ≤ n ∧ iv = .int .i64 (k : Int) ∧ sv = .int .i64 Z ∧ Hid (Z = sumTo phS r k) ∧ Below w.heap.size w wr) (fun _ iv _ => n - (intOf iv).toNat)
    case atStart => exact ⟨0, 0, Nat.zero_le _, rfl, rfl, Lib.hid rfl, Hb1.out⟩
    case round =>
      obtain ⟨k, Z, hk, rfl, rfl, HZ, hbw⟩ := hrel
      have Hbw := Lib.hid hbw
      have hsw := hbw.size
      clear hbw
      by_cases hkn : k < n
      · have hkn' : (k : Int) < (n : Int) := by omega
        have hkl : k < r.length := by have := Hn.out; omega
        have hn0 : 0 < n := by omega
        obtain ⟨x, hx⟩ : ∃ x, (k + 1) % n = x := ⟨_, rfl⟩
        have hxn : x < n := by rw [← hx]; exact Nat.mod_lt _ hn0
        have hxl : x < r.length := by have := Hn.out; omega
        have hrem := rem_succ k n
        rw [hx] at hrem
        have hw1 : IntKind.i64.wrap ((k : Int) + 1) = (k : Int) + 1 := IntWalk.i64_in _ (by omega)
        have hxn' : (x : Int) < (n : Int) := by omega
        have hnz : ¬ (n : Int) = 0 := by omega
        obtain ⟨b, off, e1, hb0, p0, p1⟩ := (HA.out.below Hbw.out).at k hkl
        obtain ⟨_, _, e2, -, q0, q1⟩ := (HA.out.below Hbw.out).at x hxl
        subst e1
        injection e2 with e2
        injection e2 with e2 e2'
        subst e2 e2'
        have hpb := Hpt.out k hkl
        have hqb := Hpt.out x hxl
        have Hst : Hid (sumTo phS r (k + 1) = Z + (r[k].1 * r[x].2 - r[k].2 * r[x].1)) := Lib.hid (by
          have e1 : at0 r k = r[k] := at0_lt r hkl
          have e2 : at0 r (k + 1) = r[x] := by rw [← at0_mod, Hn.out, hx, at0_lt r hxl]
          rw [sumTo_succ, HZ.out, e1, e2]
          rfl)
        have hZb := Hbd.out k
        rw [← HZ.out] at hZb
        generalize r[k] = p at *
        generalize r[x] = q at *
        obtain ⟨px, py⟩ := p
        obtain ⟨qx, qy⟩ := q
        dsimp only at *
        have b1 := prod_bd ⟨hpb.1, hpb.2.1⟩ ⟨hqb.2.2.1, hqb.2.2.2⟩
        have b2 := prod_bd ⟨hpb.2.2.1, hpb.2.2.2⟩ ⟨hqb.1, hqb.2.1⟩
        obtain ⟨u, hu⟩ : ∃ u, px * qy = u := ⟨_, rfl⟩
        obtain ⟨v, hv⟩ : ∃ v, py * qx = v := ⟨_, rfl⟩
        have wu : IntKind.i64.wrap (px * qy) = u := by rw [hu]; rw [hu] at b1; exact IntWalk.i64_in _ (by omega)
        have wv : IntKind.i64.wrap (py * qx) = v := by rw [hv]; rw [hv] at b2; exact IntWalk.i64_in _ (by omega)
        rw [hu, hv] at Hst
        rw [hu] at b1
        rw [hv] at b2
        clear hu hv hpb hqb hx
        have wd : IntKind.i64.wrap (u - v) = u - v := IntWalk.i64_in _ (by omega)
        obtain ⟨Z2, hZ2⟩ : ∃ Z2, Z + (u - v) = Z2 := ⟨_, rfl⟩
        have ws : IntKind.i64.wrap (Z + (u - v)) = Z2 := by rw [← hZ2]; exact IntWalk.i64_in _ (by omega)
        rw [hZ2] at Hst
        clear hZ2 hZb b1 b2
        have hbr : b < wr.heap.size := by omega
        have WD := Lib.hid wd
        clear wd
        go_upto_region 9 with fail
        have wd := WD.out
        go_wp2
        go_roundw
        case rel => exact ⟨k + 1, Z2, by omega, by go_num, rfl, Lib.hid Hst.out.symm, (Hbw.out.alloc hsw _).alloc (by simp; omega) _⟩
        case measure => simp [intOf]; omega
      · obtain rfl : k = n := by omega
        have hkn' : ¬ (k : Int) < (k : Int) := by omega
        have hZS : Z = S := HZ.out.trans Hend.out
        subst hZS
        have hq := Hq.out
        go_wp2
        have hv2 := HV.out
        refine bodyPost_ret (v := .tuple #[.int .i64 V, .int .i64 0]) (by simp [results, Tryz.results21, go_sem, *]) rfl ?_
        exact ⟨rfl, Hbw.out⟩
  · have Hv : Hid (signedV r = (0, ringP r)) := Lib.hid (if_neg h0)
    rw [Hv.out]
    obtain ⟨e0, he0⟩ : ∃ e0, ringP r = e0 := ⟨_, rfl⟩
    rw [he0] at HR h0 ⊢
    clear he0 Hv
    go_enter Tryz.func21, Tryz.ntmps21
    go_wp2_with (first
      | (go_at_call 14
         refine (HR.out _ (HA.out.below (by repeat' (first | with_reducible exact Below.refl _ _ | with_reducible refine below_drewN ?_ _ | with_reducible refine Below.drew ?_ | with_reducible refine Below.alloc ?_ ?_ _ | with_reducible refine Below.setCell ?_ ?_ _ | with_reducible refine Below.trans ?_ (Below.mono (by with_reducible assumption) ?_) | (simp; done) | (simp; omega) | omega)))).mono ?_
         rintro e w1 ⟨rfl, hb1⟩
         have Hb1 : Hid (Below w.heap.size w w1) := Lib.hid (by have hbq := hb1; exact (by repeat' (first | with_reducible exact Below.refl _ _ | with_reducible assumption | with_reducible refine below_drewN ?_ _ | with_reducible refine Below.drew ?_ | with_reducible refine Below.alloc ?_ ?_ _ | with_reducible refine Below.setCell ?_ ?_ _ | with_reducible refine Below.trans ?_ (Below.mono (by with_reducible assumption) ?_) | with_reducible refine below_only ?_ (by with_reducible assumption) ?_ ?_ | (simp; done) | (simp; omega) | omega)))
         clear hb1)
      | fail)
    refine bodyPost_ret (v := .tuple #[.int .i64 0, .int .i64 e0]) (by simp [results, Tryz.results21, go_sem, *]) rfl ?_
    exact ⟨rfl, Hb1.out⟩
end Go.Proofs.YtpcfhcdbibklcaaGreat

namespace Go.Proofs.YtpcfhcdbibklcaaGreat
open Go.RowKit Go.Shelf
set_option linter.unusedVariables false
set_option linter.unusedSimpArgs false

/-- Neighbours in pairs, those that are not equal. -/
def pairsF : List Int → List (Sg Unit)
  | x :: y :: t => if x = y then pairsF t else (x, y, ()) :: pairsF t
  | _ => []
def crossP (xs : List Int) : List (Sg Unit) := (pairsF xs).foldl sweep []
def cntLe (X : Int) (xs : List Int) : Nat := xs.countP fun k => decide (k ≤ X)
theorem pairs_odd (X : Int) : ∀ (xs : List Int), xs.Pairwise (· ≤ ·) → xs.length % 2 = 0 → (pairsF xs).any (inS · X) = decide (cntLe X xs % 2 = 1)
  | [], _, _ => rfl
  | [x], _, h => by simp at h
  | x :: y :: t, hp, hl => by
    obtain ⟨h1, h2⟩ := List.pairwise_cons.1 hp
    obtain ⟨h3, h4⟩ := List.pairwise_cons.1 h2
    have ih := pairs_odd X t h4 (by simp only [List.length_cons] at hl; omega)
    have hxy := h1 y (by simp)
    have hgt : X < y → cntLe X t = 0 := fun h => by
      unfold cntLe
      rw [List.countP_eq_zero]
      intro k hk
      have := h3 k hk
      simp; omega
    have hc : cntLe X (x :: y :: t) = cntLe X t + (if y ≤ X then 1 else 0) + (if x ≤ X then 1 else 0) := by
      unfold cntLe
      rw [List.countP_cons, List.countP_cons]
      simp
    rw [hc, pairsF]
    by_cases hyX : y ≤ X
    · rw [if_pos hyX, if_pos (show x ≤ X by omega)]
      have e : decide ((cntLe X t + 1 + 1) % 2 = 1) = decide (cntLe X t % 2 = 1) := decide_eq_decide.2 (by omega)
      rw [e, ← ih]
      split
      · rfl
      · rw [List.any_cons]
        have : inS (x, y, ()) X = false := by simp [inS]; omega
        rw [this]
        rfl
    · have h0 := hgt (by omega)
      rw [h0] at ih ⊢
      rw [if_neg hyX]
      by_cases hxX : x ≤ X
      · rw [if_pos hxX, if_neg (by omega), List.any_cons]
        have : inS (x, y, ()) X = true := by simp [inS]; omega
        rw [this]
        rfl
      · rw [if_neg hxX]
        split
        · rw [ih]
        · rw [List.any_cons, ih]
          have : inS (x, y, ()) X = false := by simp [inS]; omega
          rw [this]
          rfl
theorem pairs_ok : ∀ (xs : List Int), xs.Pairwise (· ≤ ·) → (∀ s ∈ pairsF xs, s.1 < s.2.1 ∧ s.1 ∈ xs ∧ s.2.1 ∈ xs) ∧ (pairsF xs).Pairwise (fun a b => a.1 ≤ b.1)
  | [], _ => ⟨by simp [pairsF], List.Pairwise.nil⟩
  | [x], _ => ⟨by simp [pairsF], List.Pairwise.nil⟩
  | x :: y :: t, hp => by
    obtain ⟨h1, h2⟩ := List.pairwise_cons.1 hp
    obtain ⟨h3, h4⟩ := List.pairwise_cons.1 h2
    obtain ⟨i1, i2⟩ := pairs_ok t h4
    have hxy := h1 y (by simp)
    have hup : ∀ s ∈ pairsF t, s.1 < s.2.1 ∧ s.1 ∈ x :: y :: t ∧ s.2.1 ∈ x :: y :: t := fun s hs => by
      obtain ⟨a, b, c⟩ := i1 s hs
      exact ⟨a, by simp [b], by simp [c]⟩
    rw [pairsF]
    split
    · exact ⟨hup, i2⟩
    · next hne =>
      refine ⟨fun s hs => ?_, List.pairwise_cons.2 ⟨fun s hs => h1 s.1 (by have := (i1 s hs).2.1; simp [this]), i2⟩⟩
      rcases List.mem_cons.1 hs with rfl | hs
      · exact ⟨by show x < y; omega, by simp, by simp⟩
      · exact hup s hs
theorem cross_segs (xs : List Int) (hp : xs.Pairwise (· ≤ ·)) (hl : xs.length % 2 = 0) : Segs (fun X => opt (decide (cntLe X xs % 2 = 1))) (crossP xs) := by
  obtain ⟨h1, h2⟩ := pairs_ok xs hp
  have h := sweep_segs (pairsF xs) [] (fun _ => false) (fun s hs => (h1 s hs).1) h2 ⟨0, fun x _ => rfl, fun x _ => rfl⟩ (by simp)
  have e : (fun x => opt (false || (pairsF xs).any (inS · x))) = fun X => opt (decide (cntLe X xs % 2 = 1)) := funext fun X => by rw [Bool.false_or, pairs_odd X xs hp hl]
  rw [← e]
  exact h
theorem pairs_len : ∀ (xs : List Int), (pairsF xs).length ≤ xs.length
  | [] => by simp [pairsF]
  | [x] => by simp [pairsF]
  | x :: y :: t => by
    have := pairs_len t
    rw [pairsF]
    split <;> simp <;> omega
theorem cross_len (xs : List Int) : (crossP xs).length ≤ xs.length := by
  have h1 := sweeps_len (pairsF xs) []
  have h2 := pairs_len xs
  unfold crossP
  simp at h1
  omega
/-- The upright borders of rings: where, from, before. -/
abbrev Wl := Int × Int × Int
def wallAt (r : List Pt) (i : Nat) : List Wl := if (at0 r i).1 = (at0 r (i + 1)).1 then [((at0 r i).1, min (at0 r i).2 (at0 r (i + 1)).2, max (at0 r i).2 (at0 r (i + 1)).2)] else []
def wallsO (r : List Pt) : List Wl := (List.range r.length).flatMap (wallAt r)
def wallsL (rs : List (List Pt)) : List Wl := rs.flatMap wallsO
def covW (y : Int) (q : Wl) : Bool := decide (q.2.1 ≤ y) && decide (y < q.2.2)
def xsAt (ws : List Wl) (y : Int) : List Int := (ws.filter (covW y)).map (·.1)
def yWs (ws : List Wl) : List Int := ws.flatMap fun q => [q.2.1, q.2.2]
def fillR (ws : List Wl) : List R4 := buildP (fun y => crossP (srt (xsAt ws y))) (asc (yWs ws))
/-- The squares that are behind an odd number of borders. -/
def oddP (rs : List (List Pt)) (X Y : Int) : Bool := decide (sumL (cycP (phC X Y)) rs % 2 = 1)
theorem cnt_app (X : Int) (a b : List Int) : cntLe X (a ++ b) = cntLe X a + cntLe X b := by unfold cntLe; rw [List.countP_append]
theorem xs_app (a b : List Wl) (y : Int) : xsAt (a ++ b) y = xsAt a y ++ xsAt b y := by unfold xsAt; rw [List.filter_append, List.map_append]
theorem cnt_walls (X Y : Int) (r : List Pt) : (cntLe X (xsAt (wallsO r) Y) : Int) = cycP (phC X Y) r := by
  rw [← cyc_range]
  unfold wallsO
  generalize List.range r.length = l
  induction l with
  | nil => rfl
  | cons i t ih =>
    rw [List.flatMap_cons, xs_app, cnt_app, sumL_cons, ← ih]
    have : (cntLe X (xsAt (wallAt r i) Y) : Int) = phC X Y (at0 r i) (at0 r (i + 1)) := by
      unfold wallAt phC i1
      by_cases h1 : (at0 r i).1 = (at0 r (i + 1)).1
      · rw [if_pos h1]
        by_cases h2 : min (at0 r i).2 (at0 r (i + 1)).2 ≤ Y ∧ Y < max (at0 r i).2 (at0 r (i + 1)).2
        · have hc : covW Y ((at0 r i).1, min (at0 r i).2 (at0 r (i + 1)).2, max (at0 r i).2 (at0 r (i + 1)).2) = true := by simp only [covW, Bool.and_eq_true, decide_eq_true_eq]; exact h2
          unfold xsAt cntLe
          rw [List.filter_cons_of_pos hc]
          by_cases h3 : (at0 r i).1 ≤ X
          · rw [if_pos ⟨h1, h3, h2⟩]; simp [h3]
          · rw [if_neg (fun h => h3 h.2.1)]; simp [h3]
        · have hc : ¬ covW Y ((at0 r i).1, min (at0 r i).2 (at0 r (i + 1)).2, max (at0 r i).2 (at0 r (i + 1)).2) = true := by simp only [covW, Bool.and_eq_true, decide_eq_true_eq]; exact h2
          unfold xsAt cntLe
          rw [List.filter_cons_of_neg hc, if_neg (fun h => h2 h.2.2)]
          simp
      · rw [if_neg h1, if_neg (fun h => h1 h.1)]
        simp [xsAt, cntLe]
    omega
theorem cnt_all (X Y : Int) : ∀ (rs : List (List Pt)), (cntLe X (xsAt (wallsL rs) Y) : Int) = sumL (cycP (phC X Y)) rs
  | [] => rfl
  | r :: rs => by
    have ih := cnt_all X Y rs
    show (cntLe X (xsAt (wallsO r ++ wallsL rs) Y) : Int) = _
    rw [xs_app, cnt_app, sumL_cons, ← cnt_walls, ← ih]
    omega
/-- A closed line crosses each row an even number of times. -/
def phV (Y : Int) (p q : Pt) : Int := i1 (p.1 = q.1 ∧ min p.2 q.2 ≤ Y ∧ Y < max p.2 q.2)
theorem len_walls (Y : Int) (r : List Pt) : ((xsAt (wallsO r) Y).length : Int) = cycP (phV Y) r := by
  rw [← cyc_range]
  unfold wallsO
  generalize List.range r.length = l
  induction l with
  | nil => rfl
  | cons i t ih =>
    rw [List.flatMap_cons, xs_app, List.length_append, sumL_cons, ← ih]
    have : ((xsAt (wallAt r i) Y).length : Int) = phV Y (at0 r i) (at0 r (i + 1)) := by
      unfold wallAt phV i1
      by_cases h1 : (at0 r i).1 = (at0 r (i + 1)).1
      · rw [if_pos h1]
        by_cases h2 : min (at0 r i).2 (at0 r (i + 1)).2 ≤ Y ∧ Y < max (at0 r i).2 (at0 r (i + 1)).2
        · have hc : covW Y ((at0 r i).1, min (at0 r i).2 (at0 r (i + 1)).2, max (at0 r i).2 (at0 r (i + 1)).2) = true := by simp only [covW, Bool.and_eq_true, decide_eq_true_eq]; exact h2
          unfold xsAt
          rw [List.filter_cons_of_pos hc, if_pos ⟨h1, h2⟩]
          simp
        · have hc : ¬ covW Y ((at0 r i).1, min (at0 r i).2 (at0 r (i + 1)).2, max (at0 r i).2 (at0 r (i + 1)).2) = true := by simp only [covW, Bool.and_eq_true, decide_eq_true_eq]; exact h2
          unfold xsAt
          rw [List.filter_cons_of_neg hc, if_neg (fun h => h2 h.2)]
          simp
      · rw [if_neg h1, if_neg (fun h => h1 h.1)]
        simp [xsAt]
    omega
def upP (Y : Int) (p : Pt) : Int := i1 (Y < p.2)
theorem sumP_even (Y : Int) : ∀ (l : List Pt) (a z : Pt), (∀ i, i < l.length + 1 → ((a :: l).getD i (0, 0)).1 = ((l ++ [z]).getD i (0, 0)).1 ∨ ((a :: l).getD i (0, 0)).2 = ((l ++ [z]).getD i (0, 0)).2) → (sumP (phV Y) a l z + upP Y a + upP Y z) % 2 = 0
  | [], a, z, h => by
    have h0 := h 0 (by simp)
    simp only [List.getD_cons_zero, List.nil_append] at h0
    show (phV Y a z + upP Y a + upP Y z) % 2 = 0
    unfold phV upP i1
    rcases h0 with h0 | h0
    · by_cases h1 : Y < a.2 <;> by_cases h2 : Y < z.2
      · rw [if_neg (by omega), if_pos h1, if_pos h2]; decide
      · rw [if_pos ⟨h0, by omega, by omega⟩, if_pos h1, if_neg h2]; decide
      · rw [if_pos ⟨h0, by omega, by omega⟩, if_neg h1, if_pos h2]; decide
      · rw [if_neg (by omega), if_neg h1, if_neg h2]; decide
    · rw [← h0, if_neg (by omega)]
      split <;> decide
  | b :: l, a, z, h => by
    have ih := sumP_even Y l b z (fun i hi => h (i + 1) (by simp; omega))
    have h0 := h 0 (by simp)
    simp only [List.getD_cons_zero, List.cons_append] at h0
    have h1 : (phV Y a b + upP Y a + upP Y b) % 2 = 0 := by
      unfold phV upP i1
      rcases h0 with h0 | h0
      · by_cases h1 : Y < a.2 <;> by_cases h2 : Y < b.2
        · rw [if_neg (by omega), if_pos h1, if_pos h2]; decide
        · rw [if_pos ⟨h0, by omega, by omega⟩, if_pos h1, if_neg h2]; decide
        · rw [if_pos ⟨h0, by omega, by omega⟩, if_neg h1, if_pos h2]; decide
        · rw [if_neg (by omega), if_neg h1, if_neg h2]; decide
      · rw [← h0, if_neg (by omega)]
        split <;> decide
    show (phV Y a b + sumP (phV Y) b l z + upP Y a + upP Y z) % 2 = 0
    omega
theorem fine_or {r : List Pt} {i : Nat} (h : fineAt r i = true) : (at0 r i).1 = (at0 r (i + 1)).1 ∨ (at0 r i).2 = (at0 r (i + 1)).2 := by
  unfold fineAt rightP at h
  simp only [Bool.and_eq_true] at h
  have h1 := h.1
  by_cases a : (at0 r i).1 = (at0 r (i + 1)).1
  · exact .inl a
  · by_cases b : (at0 r i).2 = (at0 r (i + 1)).2
    · exact .inr b
    · simp [a, b] at h1
theorem ring_even {r : List Pt} (h : ringP r = 0) (Y : Int) : (xsAt (wallsO r) Y).length % 2 = 0 := by
  obtain ⟨h4, _, _, hf⟩ := ringP_zero h
  have h1 : (cycP (phV Y) r) % 2 = 0 := by
    cases r with
    | nil => rfl
    | cons a t =>
      have := sumP_even Y t a a (fun i hi => by
        have h2 := fine_or (hf i (by simpa using hi))
        have e1 : at0 (a :: t) i = (a :: t).getD i (0, 0) := by unfold at0 atC; rw [List.length_cons, Nat.mod_eq_of_lt hi]
        have e2 : at0 (a :: t) (i + 1) = (t ++ [a]).getD i (0, 0) := by
          unfold at0 atC
          rw [List.length_cons]
          rcases Nat.lt_or_ge i t.length with h2 | h2
          · rw [Nat.mod_eq_of_lt (by omega)]
            simp [List.getD_eq_getElem?_getD, List.getElem?_append_left h2]
          · have : i = t.length := by omega
            subst this
            rw [Nat.mod_self]
            simp [List.getD_eq_getElem?_getD]
        rw [e1, e2] at h2
        exact h2)
      show sumP (phV Y) a t a % 2 = 0
      have hu : upP Y a = 0 ∨ upP Y a = 1 := by unfold upP i1; split <;> simp
      omega
  have h2 := len_walls Y r
  omega
theorem rings_even : ∀ {rs : List (List Pt)}, (∀ r ∈ rs, ringP r = 0) → ∀ Y, (xsAt (wallsL rs) Y).length % 2 = 0
  | [], _, Y => rfl
  | r :: rs, h, Y => by
    have h1 := ring_even (h r (by simp)) Y
    have h2 := rings_even (fun q hq => h q (List.mem_cons_of_mem _ hq)) Y
    show (xsAt (wallsO r ++ wallsL rs) Y).length % 2 = 0
    rw [xs_app, List.length_append]
    omega
theorem srt_perm (l : List Int) : (srt l).Perm l := List.mergeSort_perm _ _
theorem srt_sorted (l : List Int) : (srt l).Pairwise (· ≤ ·) := by
  have := List.pairwise_mergeSort (le := fun p q : Int => decide (p ≤ q)) (by intro a b c h1 h2; simp at *; omega) (by intro a b; simp; omega) l
  exact this.imp fun h => by simpa using h
theorem cnt_perm (X : Int) {a b : List Int} (h : a.Perm b) : cntLe X a = cntLe X b := h.countP_eq _
/-- Fill's rectangles are the canonical ones of these squares. -/
theorem fill_canon {rs : List (List Pt)} (h : ∀ r ∈ rs, ringP r = 0) : Canon (oddP rs) (fillR (wallsL rs)) := by
  have hP : ∀ X Y, oddP rs X Y = decide (cntLe X (xsAt (wallsL rs) Y) % 2 = 1) := fun X Y => by
    unfold oddP
    rw [← cnt_all]
    exact decide_eq_decide.2 (by omega)
  have hev := rings_even h
  generalize wallsL rs = ws at *
  have hmem : ∀ q ∈ ws, q.2.1 ∈ asc (yWs ws) ∧ q.2.2 ∈ asc (yWs ws) := fun q hq => ⟨((asc_all _).2.1 _).2 (List.mem_flatMap.2 ⟨q, hq, by simp⟩), ((asc_all _).2.1 _).2 (List.mem_flatMap.2 ⟨q, hq, by simp⟩)⟩
  refine build_canon (oddP rs) (fun y => crossP (srt (xsAt ws y))) (asc (yWs ws)) (fun y => ?_) (asc_all _).1 (fun X y z hy hyz hk => ?_) (fun X z hz => ?_)
  · have := cross_segs (srt (xsAt ws y)) (srt_sorted _) (by rw [(srt_perm _).length_eq]; exact hev y)
    have e : (fun X => opt (decide (cntLe X (srt (xsAt ws y)) % 2 = 1))) = fun X => opt (oddP rs X y) := funext fun X => by rw [hP, cnt_perm X (srt_perm _)]
    rw [e] at this
    exact this
  · show oddP rs X z = oddP rs X y
    rw [hP, hP]
    have e : xsAt ws z = xsAt ws y := by
      unfold xsAt
      congr 1
      refine List.filter_congr fun q hq => ?_
      obtain ⟨h1, h2⟩ := hmem q hq
      have k1 := hk _ h1
      have k2 := hk _ h2
      unfold covW
      rw [show decide (q.2.1 ≤ z) = decide (q.2.1 ≤ y) from decide_eq_decide.2 (by omega), show decide (z < q.2.2) = decide (y < q.2.2) from decide_eq_decide.2 (by omega)]
    rw [e]
  · rw [hP]
    have e : xsAt ws z = [] := by
      unfold xsAt
      rw [List.map_eq_nil_iff, List.filter_eq_nil_iff]
      intro q hq
      obtain ⟨h1, h2⟩ := hmem q hq
      simp only [covW, Bool.and_eq_true, decide_eq_true_eq]
      rcases hz with hz | hz
      · have := hz _ h1; omega
      · have := hz _ h2; omega
    rw [e]
    rfl
end Go.Proofs.YtpcfhcdbibklcaaGreat

namespace Go.Proofs.YtpcfhcdbibklcaaGreat
open Go.RowKit Go.Shelf
set_option linter.unusedVariables false
set_option linter.unusedSimpArgs false

theorem Tryz.infoWall : (Tryz.prog.info? 92).map (fun i => (i.zero, i.size, i.bytes)) = some (some (.agg #[.int .i64 0, .int .i64 0, .int .i64 0]), 3, 24) := by kernel_rfl
def encW (q : Wl) : List Value := [.int .i64 q.1, .int .i64 q.2.1, .int .i64 q.2.2]
def wCells (l : List Wl) : List Value := l.flatMap encW
theorem wCells_snoc (l : List Wl) (q : Wl) : wCells (l ++ [q]) = wCells l ++ [.int .i64 q.1, .int .i64 q.2.1, .int .i64 q.2.2] := by simp [wCells, encW]
theorem wCells_len (l : List Wl) : (wCells l).length = l.length * 3 := by
  induction l with
  | nil => rfl
  | cons a t ih => simp [wCells, encW] at *; omega
theorem wCells_at (l : List Wl) (i : Nat) (h : i < l.length) : (wCells l)[i * 3]? = some (.int .i64 l[i].1) ∧ (wCells l)[i * 3 + 1]? = some (.int .i64 l[i].2.1) ∧ (wCells l)[i * 3 + 2]? = some (.int .i64 l[i].2.2) := by
  induction l generalizing i with
  | nil => simp at h
  | cons o r ih =>
    have hc : wCells (o :: r) = [.int .i64 o.1, .int .i64 o.2.1, .int .i64 o.2.2] ++ wCells r := by simp [wCells, encW]
    rw [hc]
    rcases i with _ | i
    · simp
    · have := ih i (by simpa using h)
      refine ⟨?_, ?_, ?_⟩ <;> rw [List.getElem?_append_right (by simp; omega)]
      · rw [show (i + 1) * 3 - ([Value.int .i64 o.1, .int .i64 o.2.1, .int .i64 o.2.2] : List Value).length = i * 3 from by simp; omega]; exact this.1
      · rw [show (i + 1) * 3 + 1 - ([Value.int .i64 o.1, .int .i64 o.2.1, .int .i64 o.2.2] : List Value).length = i * 3 + 1 from by simp; omega]; exact this.2.1
      · rw [show (i + 1) * 3 + 2 - ([Value.int .i64 o.1, .int .i64 o.2.1, .int .i64 o.2.2] : List Value).length = i * 3 + 2 from by simp; omega]; exact this.2.2
/-- The walls of a ring up to a corner. -/
def wallsTo (r : List Pt) (k : Nat) : List Wl := (List.range k).flatMap (wallAt r)
theorem wallsTo_succ (r : List Pt) (k : Nat) : wallsTo r (k + 1) = wallsTo r k ++ wallAt r k := by unfold wallsTo; rw [List.range_succ, List.flatMap_append]; simp
theorem wallAt_len (r : List Pt) (i : Nat) : (wallAt r i).length ≤ 1 := by unfold wallAt; split <;> simp
theorem wallsTo_len (r : List Pt) : ∀ k, (wallsTo r k).length ≤ k
  | 0 => by simp [wallsTo]
  | k + 1 => by
    have h1 := wallsTo_len r k
    have h2 := wallAt_len r k
    rw [wallsTo_succ, List.length_append]
    omega
theorem wallsL_take {rs : List (List Pt)} {i : Nat} (h : i < rs.length) : wallsL (rs.take (i + 1)) = wallsL (rs.take i) ++ wallsO rs[i] := by
  unfold wallsL
  rw [List.take_succ_eq_append_getElem h, List.flatMap_append]
  simp
theorem wallsL_le {rs : List (List Pt)} (i : Nat) : (wallsL (rs.take i)).length ≤ (wallsL rs).length := by
  conv => rhs; rw [← List.take_append_drop i rs]
  unfold wallsL
  rw [List.flatMap_append, List.length_append]
  omega
set_option maxHeartbeats 4000000 in
set_option maxRecDepth 100000 in
theorem walls_any (A : Option Addr) (n c : Nat) (l : RgL) (w : World) (hA : SlRg w A n c l) (hs : ∀ r ∈ rgPts l, r.length ≤ 100000) (ht : (wallsL (rgPts l)).length ≤ 100000) :
    Calls Tryz.prog 50 #[.slice A n c] w fun e w' => ∃ v, e = .returned v ∧ w'.ownsRow w.heap.size 92 3 v (wallsL (rgPts l)).length (wCells (wallsL (rgPts l))) ∧ Below w.heap.size w w' := by
  obtain ⟨i0, hi, hz0, hz1, hz2⟩ := info_parts Tryz.infoWall
  have hn := hA.len
  have hcap := hA.cap
  have htop := hA.top
  unfold maxLen at htop
  have HA := Lib.hid hA
  have Hs := Lib.hid hs
  have Hle := Lib.hid (fun i => Nat.le_trans (wallsL_le (rs := rgPts l) i) ht)
  have Hend : Hid (wallsL ((rgPts l).take n) = wallsL (rgPts l)) := Lib.hid (by rw [List.take_of_length_le (by rw [rgPts_len]; omega)])
  have Hn := Lib.hid hn
  have Hstep : Hid (∀ i (h : i < l.length), wallsL ((rgPts l).take (i + 1)) = wallsL ((rgPts l).take i) ++ wallsO l[i].1) := Lib.hid fun i h => by
    rw [wallsL_take (by rw [rgPts_len]; exact h)]
    simp [rgPts]
  clear hA hs ht hn
  go_enter Tryz.func50, Tryz.ntmps50
  go_wp2
  go_loopw [3, 11] (fun ov iv wr => ∃ i : Nat, i ≤ n ∧ iv = .int .i64 (i : Int) ∧ wr.ownsRow w.heap.size 92 3 ov (wallsL ((rgPts l).take i)).length (wCells (wallsL ((rgPts l).take i))) ∧ Below w.heap.size w wr) (fun _ iv _ => n - (intOf iv).toNat)
  case atStart => exact ⟨0, Nat.zero_le _, rfl, World.ownsRow_nil _ _ _ _, Below.refl _ _⟩
  case round =>
    obtain ⟨i, hin, rfl, hown, hbw⟩ := hrel
    have Hown := Lib.hid hown
    have Hbw := Lib.hid hbw
    have hsw := hbw.size
    clear hown hbw
    by_cases hiN : i < n
    · have hiN' : (i : Int) < (n : Int) := by omega
      have hil : i < l.length := by have := Hn.out; omega
      obtain ⟨b, off, rfl, hb, r0, -⟩ := (HA.out.below Hbw.out).at i hil
      have hpt := HA.out.fits _ (List.getElem_mem hil)
      have Hst := Lib.hid (Hstep.out i hil)
      have Hl1 := Lib.hid (Hle.out (i + 1))
      rw [Hst.out] at Hl1
      have hshort := Hs.out l[i].1 (List.mem_map.2 ⟨l[i], List.getElem_mem _, rfl⟩)
      generalize l[i] = x at *
      obtain ⟨p, hv⟩ := x
      dsimp only at *
      generalize wallsL ((rgPts l).take i) = acc at *
      obtain ⟨M, hM⟩ : ∃ M, p.length = M := ⟨_, rfl⟩
      have HM := Lib.hid hM
      have Hpt := Lib.hid hpt
      rw [hM] at r0 Hpt hshort
      clear hM hpt
      obtain ⟨wo, hwo⟩ : ∃ wo : World, wo = wr := ⟨_, rfl⟩
      rw [← hwo] at Hbw Hown hsw hb r0 ⊢
      clear hwo
      have Htot : Hid (acc.length + (wallsTo p M).length ≤ 100000) := Lib.hid (by have := Hl1.out; rw [List.length_append] at this; unfold wallsO at this; rw [HM.out] at this; exact this)
      have Hpre : Hid (∀ k, k ≤ M → (wallsTo p k).length ≤ (wallsTo p M).length) := Lib.hid fun k hk => by
        obtain ⟨d, rfl⟩ : ∃ d, M = k + d := ⟨M - k, by omega⟩
        clear Htot HM Hpt r0 hshort hk
        induction d with
        | zero => exact Nat.le_refl _
        | succ d ih => rw [← Nat.add_assoc, wallsTo_succ, List.length_append]; omega
      go_wp2
      go_loopw [3, 17] (fun ov kv wr => ∃ k : Nat, k ≤ M ∧ kv = .int .i64 (k : Int) ∧ wr.ownsRow w.heap.size 92 3 ov (acc ++ wallsTo p k).length (wCells (acc ++ wallsTo p k)) ∧ Below w.heap.size w wr) (fun _ kv _ => M - (intOf kv).toNat)
      case atStart => exact ⟨0, Nat.zero_le _, rfl, by simpa [wallsTo] using Hown.out, Hbw.out⟩
      case round =>
        obtain ⟨k, hk, rfl, hown2, hbw2⟩ := hrel
        have Hp2 := Lib.hid (Hpt.out.below hbw2)
        have Hown2 := Lib.hid hown2
        have Hbw2 := Lib.hid hbw2
        have hsw2 := hbw2.size
        clear hown2 hbw2
        by_cases hkM : k < M
        · have hkM' : (k : Int) < (M : Int) := by omega
          have hkl : k < p.length := by have := HM.out; omega
          have hM0 : 0 < M := by omega
          obtain ⟨x, hx⟩ : ∃ x, (k + 1) % M = x := ⟨_, rfl⟩
          have hxM : x < M := by rw [← hx]; exact Nat.mod_lt _ hM0
          have hxl : x < p.length := by have := HM.out; omega
          have hrem := rem_succ k M
          rw [hx] at hrem
          have hw1 : IntKind.i64.wrap ((k : Int) + 1) = (k : Int) + 1 := IntWalk.i64_in _ (by omega)
          have hxM' : (x : Int) < (M : Int) := by omega
          have hnz : ¬ (M : Int) = 0 := by omega
          obtain ⟨pb, po, e1, hb0, p0, p1⟩ := Hp2.out.at k hkl
          obtain ⟨_, _, e2, -, q0, q1⟩ := Hp2.out.at x hxl
          have He1 := Lib.hid e1
          rw [e1]
          rw [e1] at e2
          injection e2 with e2
          injection e2 with e2 e2'
          subst e2 e2'
          have Hst2 : Hid (wallsTo p (k + 1) = wallsTo p k ++ (if p[k].1 = p[x].1 then [(p[k].1, min p[k].2 p[x].2, max p[k].2 p[x].2)] else [])) := Lib.hid (by
            have g1 : at0 p k = p[k] := at0_lt p hkl
            have g2 : at0 p (k + 1) = p[x] := by rw [← at0_mod, HM.out, hx, at0_lt p hxl]
            rw [wallsTo_succ]
            unfold wallAt
            rw [g1, g2])
          have hbound : (acc ++ wallsTo p k).length ≤ 100000 := by have h1 := Htot.out; have h2 := Hpre.out k hk; rw [List.length_append]; omega
          generalize p[k] = pk at *
          generalize p[x] = px at *
          obtain ⟨ax, ay⟩ := pk
          obtain ⟨bx, by'⟩ := px
          dsimp only at *
          obtain ⟨ac, hac⟩ : ∃ ac, acc ++ wallsTo p k = ac := ⟨_, rfl⟩
          rw [hac] at Hown2 hbound
          have Hac := Lib.hid hac
          clear e1 hac hx
          have hbr : pb < wr.heap.size := by omega
          by_cases hv1 : ax = bx
          · subst hv1
            have Hst3 : Hid (acc ++ wallsTo p (k + 1) = ac ++ [(ax, min ay by', max ay by')]) := Lib.hid (by rw [Hst2.out, if_pos rfl, ← List.append_assoc, Hac.out])
            go_upto_region 9 with fail
            obtain ⟨wa, hwa⟩ : ∃ wa : World, wa = (wr.alloc (.cells #[.int .i64 ax, .int .i64 ay] 43)).alloc (.cells #[.int .i64 ax, .int .i64 by'] 43) := ⟨_, rfl⟩
            rw [← hwa]
            have HX1 : Hid (wa.heap[wr.heap.size]? = some (.cells #[.int .i64 ax, .int .i64 ay] 43 (0, 0))) := Lib.hid (by rw [hwa]; exact (Below.heap_alloc _ _ _ (by simp)).trans (heap_alloc_new wr _))
            have HX2 : Hid (wa.heap[wr.heap.size + 1]? = some (.cells #[.int .i64 ax, .int .i64 by'] 43 (0, 0))) := Lib.hid (by rw [hwa]; have hzz := heap_alloc_new (wr.alloc (.cells #[.int .i64 ax, .int .i64 ay] 43)) (.cells #[.int .i64 ax, .int .i64 by'] 43); rw [World.size_alloc] at hzz; exact hzz)
            have Hra : Hid (Below wr.heap.size wr wa) := Lib.hid (by rw [hwa]; exact (by repeat' (first | with_reducible exact Below.refl _ _ | with_reducible refine below_drewN ?_ _ | with_reducible refine Below.drew ?_ | with_reducible refine Below.alloc ?_ ?_ _ | with_reducible refine Below.setCell ?_ ?_ _ | with_reducible refine Below.trans ?_ (Below.mono (by with_reducible assumption) ?_) | (simp; done) | (simp; omega) | omega)))
            have hlX : wr.heap.size + 1 < wa.heap.size := by rw [hwa]; simp
            clear hwa
            have Howna := Lib.hid (ownsRow_below Hown2.out Hra.out)
            have Hbwa : Hid (Below w.heap.size w wa) := Lib.hid (Hbw2.out.trans (Hra.out.mono hsw2))
            have s0 := cell_of_row _ _ 0 _ _ _ HX1.out
            have s1 := cell_of_row _ _ 1 _ _ _ HX1.out
            have u1 := cell_of_row _ _ 1 _ _ _ HX2.out
            have u0 := cell_of_row _ _ 0 _ _ _ HX2.out
            have hsa := Hbwa.out.size
            obtain ⟨T, hT⟩ : ∃ T, wr.heap.size = T := ⟨_, rfl⟩
            rw [hT] at s0 s1 u0 u1 hlX ⊢
            clear p0 p1 q0 q1 HX1 HX2 Hra hT
            go_wp2_with (first
              | (at_builtin
                 go_loud (refine wpList_append_any _ rfl (.tmp 35) (.tmp 49) _ rfl w.heap.size 92 i0 _ 3 24 Tryz.underlying89 hi hz0 hz1 hz2 rfl (by omega) _ ac.length (wCells ac) rfl (Howna.out.alloc _) (wa.heap.size + 1) _ 1 1 [.int .i64 ax, .int .i64 (min ay by'), .int .i64 (max ay by')] rfl ⟨rfl, fun _ => ⟨_, rfl, Nat.lt_succ_self _, fun j u hu => (by exact World.news_of_block (heap_alloc_new wa (.cells #[.int .i64 ax, .int .i64 (min ay by'), .int .i64 (max ay by')] 92)) j u hu)⟩⟩ (by simp [Value.oneCell']) (by simp only [maxLen]; omega) (by omega) (by simp; omega) ?_)
                 intro v1 w1 hown1 hg1 hat1
                 have hob := own_base Howna.out
                 have Hown3 : Hid (w1.ownsRow w.heap.size 92 3 v1 (acc ++ wallsTo p (k + 1)).length (wCells (acc ++ wallsTo p (k + 1)))) := Lib.hid (by rw [Hst3.out, List.length_append, wCells_snoc]; exact hown1)
                 have Hb1 : Hid (Below w.heap.size w w1) := Lib.hid ((Hbwa.out.alloc hsa _).grown hg1 (by simp; omega) hob)
                 clear hown1 hg1 hat1 hob)
              | fail)
            go_roundw
            case rel => exact ⟨k + 1, by omega, by go_num, Hown3.out, Hb1.out⟩
            case measure => simp [intOf]; omega
          · have Hst3 : Hid (acc ++ wallsTo p (k + 1) = ac) := Lib.hid (by rw [Hst2.out, if_neg hv1, List.append_nil, Hac.out])
            go_wp2
            go_roundw
            case rel => exact ⟨k + 1, by omega, by go_num, by rw [Hst3.out]; exact (Hown2.out.alloc _).alloc _, (Hbw2.out.alloc hsw2 _).alloc (by simp; omega) _⟩
            case measure => simp [intOf]; omega
        · obtain rfl : k = M := by omega
          have hkM' : ¬ (k : Int) < (k : Int) := by omega
          have Hst3 : Hid (wallsL ((rgPts l).take (i + 1)) = acc ++ wallsTo p k) := Lib.hid (by rw [Hst.out]; unfold wallsO; rw [HM.out]; rfl)
          go_wp2
          go_roundw
          case rel => exact ⟨i + 1, by omega, by go_num, by rw [Hst3.out]; exact Hown2.out, Hbw2.out⟩
          case measure => simp [intOf]; omega
    · obtain rfl : i = n := by omega
      have hiN' : ¬ (i : Int) < (i : Int) := by omega
      rw [Hend.out] at Hown
      go_wp2
      go_ret
      exact ⟨_, rfl, Hown.out, Hbw.out⟩
end Go.Proofs.YtpcfhcdbibklcaaGreat

namespace Go.Proofs.YtpcfhcdbibklcaaGreat
open Go.RowKit Go.Shelf
set_option linter.unusedVariables false
set_option linter.unusedSimpArgs false

/-- A slice of walls. -/
structure SlW (w : World) (A : Option Addr) (n c : Nat) (l : List Wl) : Prop where
  len : l.length = n
  cap : n ≤ c
  top : c ≤ maxLen
  lies : Lies w A n (wCells l)
theorem SlW.below {w w' : World} {A : Option Addr} {n c : Nat} {l : List Wl} (h : SlW w A n c l) (hb : Below w.heap.size w w') : SlW w' A n c l := ⟨h.len, h.cap, h.top, h.lies.below hb⟩
theorem SlW.of_own {w : World} {base : Nat} {v : Value} {l : List Wl} (h : w.ownsRow base 92 3 v l.length (wCells l)) : ∃ A c, v = .slice A l.length c ∧ SlW w A l.length c l := by
  obtain ⟨A, c, rfl, h1, h2, h3⟩ := own_slice h
  exact ⟨A, c, rfl, rfl, h2, h3, h1⟩
theorem SlW.at {w : World} {A : Option Addr} {n c : Nat} {l : List Wl} (h : SlW w A n c l) (i : Nat) (hi : i < l.length) :
    ∃ b off, A = some ⟨b, off, none⟩ ∧ b < w.heap.size ∧ w.cell? ⟨b, off + i * 3, none⟩ = some (.int .i64 l[i].1) ∧ w.cell? ⟨b, off + i * 3 + 1, none⟩ = some (.int .i64 l[i].2.1) ∧ w.cell? ⟨b, off + i * 3 + 2, none⟩ = some (.int .i64 l[i].2.2) := by
  obtain ⟨b, off, e, hb, hc⟩ := h.lies.resolve_left (by have := h.len; omega)
  obtain ⟨h0, h1, h2⟩ := wCells_at l i hi
  exact ⟨b, off, e, hb, hc _ _ h0, hc _ _ h1, hc _ _ h2⟩
theorem xsAt_succ (ws : List Wl) (y : Int) (k : Nat) (h : k < ws.length) : xsAt (ws.take (k + 1)) y = if covW y ws[k] then xsAt (ws.take k) y ++ [ws[k].1] else xsAt (ws.take k) y := by
  rw [List.take_succ_eq_append_getElem h, xs_app]
  unfold xsAt
  split
  · next hc => simp [List.filter_cons, hc]
  · next hc => simp [List.filter_cons, hc]
theorem xsAt_len (ws : List Wl) (y : Int) : (xsAt ws y).length ≤ ws.length := by
  unfold xsAt; rw [List.length_map]; exact List.length_filter_le _ _
theorem pairs_snoc (a b : Int) : ∀ (l : List Int), l.length % 2 = 0 → pairsF (l ++ [a, b]) = pairsF l ++ (if a = b then [] else [(a, b, ())])
  | [], _ => by
    simp only [List.nil_append, pairsF]
  | [x], h => by simp at h
  | x :: y :: t, h => by
    have ih := pairs_snoc a b t (by simp only [List.length_cons] at h; omega)
    simp only [List.cons_append, pairsF, ih]
    split
    · rfl
    · rfl
theorem take_two {ss : List Int} {k : Nat} (h : k + 1 < ss.length) : ss.take (k + 2) = ss.take k ++ [ss[k], ss[k + 1]] := by
  rw [show k + 2 = (k + 1) + 1 from rfl, List.take_succ_eq_append_getElem h, List.take_succ_eq_append_getElem (by omega : k < ss.length), List.append_assoc]
  rfl
theorem sweep_rights : ∀ (ss l : List (Sg Unit)), ∀ q ∈ ss.foldl sweep l, (∃ s ∈ ss, q.2.1 = s.2.1) ∨ ∃ p ∈ l, q.2.1 = p.2.1
  | [], l, q, hq => .inr ⟨q, hq, rfl⟩
  | s :: ss, l, q, hq => by
    rcases sweep_rights ss (sweep l s) q hq with ⟨z, hz, e⟩ | ⟨z, hz, e⟩
    · exact .inl ⟨z, List.mem_cons_of_mem _ hz, e⟩
    · rcases list_snoc l with rfl | ⟨l0, a, rfl⟩
      · rw [sweep_new [] s (by simp)] at hz
        simp at hz
        exact .inl ⟨s, by simp, by rw [e, hz]⟩
      · by_cases h : s.1 ≤ a.2.1
        · rw [sweep_ext l0 a s h] at hz
          rcases List.mem_append.1 hz with hz | hz
          · exact .inr ⟨z, by simp [hz], e⟩
          · simp at hz
            rw [hz] at e
            simp only at e
            rcases Int.le_total a.2.1 s.2.1 with h1 | h1
            · exact .inl ⟨s, by simp, by rw [e]; omega⟩
            · exact .inr ⟨a, by simp, by rw [e]; omega⟩
        · rw [sweep_new (l0 ++ [a]) s (by simp; omega)] at hz
          rcases List.mem_append.1 hz with hz | hz
          · exact .inr ⟨z, hz, e⟩
          · simp at hz
            exact .inl ⟨s, by simp, by rw [e, hz]⟩
/-- The last span does not end behind the next one's begin. -/
theorem cross_low {ss : List Int} (hs : ss.Pairwise (· ≤ ·)) {k : Nat} (hk : k < ss.length) : ∀ q ∈ crossP (ss.take k), q.2.1 ≤ ss[k] := by
  intro q hq
  rcases sweep_rights (pairsF (ss.take k)) [] q hq with ⟨s, hsm, e⟩ | ⟨p, hp, _⟩
  · have h1 := ((pairs_ok (ss.take k) (hs.sublist (List.take_sublist _ _))).1 s hsm).2.2
    obtain ⟨i, hi, e2⟩ := List.getElem_of_mem h1
    rw [List.length_take] at hi
    rw [List.getElem_take] at e2
    have := List.pairwise_iff_getElem.1 hs i k (by omega) hk (by omega)
    rw [e, ← e2]
    exact this
  · cases hp
theorem cross_step {ss : List Int} (k : Nat) (hk : k + 1 < ss.length) (hk2 : k % 2 = 0) : crossP (ss.take (k + 2)) = if ss[k] = ss[k + 1] then crossP (ss.take k) else sweep (crossP (ss.take k)) (ss[k], ss[k + 1], ()) := by
  unfold crossP
  rw [take_two hk, pairs_snoc _ _ _ (by rw [List.length_take]; omega)]
  split
  · rw [List.append_nil]
  · rw [List.foldl_append]; rfl
set_option maxHeartbeats 16000000 in
set_option maxRecDepth 100000 in
theorem crossed_any (A : Option Addr) (n c : Nat) (ws : List Wl) (y : Int) (w : World) (hA : SlW w A n c ws) (hn1 : n ≤ 100000) (hev : (xsAt ws y).length % 2 = 0) :
    Calls Tryz.prog 56 #[.slice A n c, .int .i64 y] w fun e w' => ∃ v, e = .returned v ∧ w'.ownsRow w.heap.size 111 2 v (crossP (srt (xsAt ws y))).length (sCells (crossP (srt (xsAt ws y)))) ∧ Below w.heap.size w w' := by
  obtain ⟨i0, hi, hz0, hz1, hz2⟩ := info_parts Tryz.infoSpan
  obtain ⟨i1, hj, hy0, hy1, hy2⟩ := info_parts Tryz.infoInt
  have hn := hA.len
  have HA := Lib.hid hA
  clear hA
  go_enter Tryz.func56, Tryz.ntmps56
  go_wp2
  go_loopw [5, 14] (fun o i wr => ∃ k : Nat, k ≤ n ∧ i = .int .i64 (k : Int) ∧ wr.ownsRow w.heap.size 3 1 o (xsAt (ws.take k) y).length ((xsAt (ws.take k) y).map (.int .i64)) ∧ Below w.heap.size w wr) (fun _ i _ => n - (intOf i).toNat)
  case atStart => exact ⟨0, Nat.zero_le _, rfl, World.ownsRow_nil _ _ _ _, Below.refl _ _⟩
  case round =>
    obtain ⟨k, hk, rfl, hown, hbw⟩ := hrel
    have hsw := hbw.size
    have Hown := Lib.hid hown
    have Hbw := Lib.hid hbw
    clear hown
    by_cases hkn : k < n
    · have hkl : k < ws.length := by omega
      obtain ⟨b, off, rfl, hb, c0, c1, c2⟩ := (HA.out.below hbw).at k hkl
      have hlen : (xsAt (ws.take k) y).length ≤ 100000 := by have := xsAt_len (ws.take k) y; rw [List.length_take] at this; omega
      have Hstep := Lib.hid (xsAt_succ ws y k hkl)
      have hkn' : (k : Int) < (n : Int) := by omega
      have Hcov : Hid (covW y ws[k] = (decide (ws[k].2.1 ≤ y) && decide (y < ws[k].2.2))) := Lib.hid rfl
      generalize ws[k] = q at *
      generalize xsAt (ws.take k) y = sp at *
      obtain ⟨qx, ql, qh⟩ := q
      dsimp only at *
      clear hbw
      by_cases hc : ql ≤ y ∧ y < qh
      · obtain ⟨hc1, hc2⟩ := hc
        have Hcv : Hid (covW y (qx, ql, qh) = true) := Lib.hid (by rw [Hcov.out]; simp; omega)
        go_wp2_with (first
          | (at_builtin
             go_loud (refine wpList_append_any _ rfl (.tmp 28) (.tmp 31) _ rfl w.heap.size 3 i1 _ 1 8 Tryz.underlying22 hj hy0 hy1 hy2 rfl (by omega) _ sp.length (sp.map (.int .i64)) rfl ((Hown.out.alloc _).alloc _) _ _ 1 1 [.int .i64 qx] rfl ⟨rfl, fun _ => ⟨_, rfl, Nat.lt_succ_self _, fun j u hu => (by exact World.news_of_block (heap_alloc2_new wr _ (.cells #[.int .i64 qx] 3)) j u hu)⟩⟩ (by simp [Value.oneCell']) (by simp only [maxLen]; omega) (by omega) (by simp; omega) ?_)
             intro v5 w5 hown5 hg5 hat5)
          | fail)
        go_roundw
        case rel =>
          refine ⟨k + 1, by omega, by go_num, ?_, ?_⟩
          · rw [Hstep.out, if_pos Hcv.out, List.length_append, List.map_append]
            exact hown5
          · exact Below.grown (((Hbw.out.alloc hsw _).alloc (by simp; omega) _)) hg5 (by simp; omega) (own_base Hown.out)
        case measure => simp [intOf]; omega
      · have Hcv : Hid (¬ covW y (qx, ql, qh) = true) := Lib.hid (by rw [Hcov.out]; simp; omega)
        by_cases hc1 : ql ≤ y
        · have hc2 : ¬ y < qh := fun h => hc ⟨hc1, h⟩
          clear hc
          go_wp2
          go_roundw
          case rel => exact ⟨k + 1, by omega, by go_num, by rw [Hstep.out, if_neg Hcv.out]; exact Hown.out.alloc _, Hbw.out.alloc hsw _⟩
          case measure => simp [intOf]; omega
        · clear hc
          go_wp2
          go_roundw
          case rel => exact ⟨k + 1, by omega, by go_num, by rw [Hstep.out, if_neg Hcv.out]; exact Hown.out.alloc _, Hbw.out.alloc hsw _⟩
          case measure => simp [intOf]; omega
    · have Hown1 : Hid (wr.ownsRow w.heap.size 3 1 u5 (xsAt ws y).length ((xsAt ws y).map (.int .i64))) := Lib.hid (by have := Hown.out; rw [List.take_of_length_le (by omega)] at this; exact this)
      have hsl := xsAt_len ws y
      have hkn' : ¬ (k : Int) < (n : Int) := by omega
      have hub := Lib.hid (own_base Hown1.out)
      have Hsort := Lib.hid (srt_sorted (xsAt ws y))
      have hsrl := (srt_perm (xsAt ws y)).length_eq
      obtain ⟨sp, hsp⟩ : ∃ sp, xsAt ws y = sp := ⟨_, rfl⟩
      rw [hsp] at Hown1 hsl Hsort hsrl hev
      have Hsp := Lib.hid hsp
      clear hbw Hown hsp
      have HSo := Lib.hid (sort_own wr Hown1.out (by omega))
      rw [← hsrl] at HSo hev
      obtain ⟨ss, hss⟩ : ∃ ss, srt sp = ss := ⟨_, rfl⟩
      rw [hss] at HSo hev Hsort hsrl
      have hss1 : ss.length ≤ 100000 := by omega
      have Hss := Lib.hid hss
      clear hss
      go_wp2_with (first
        | (go_at_call 51
           refine HSo.out.mono ?_
           rintro e w1 ⟨rfl, hown1, hg1⟩
           have Hb1 : Hid (Below w.heap.size w w1) := Lib.hid (Hbw.out.grown hg1 hsw hub.out)
           obtain ⟨Sd, sc, rfl, hSl, hSc, hSm⟩ := own_slice hown1
           have HSl := Lib.hid hSl
           clear hown1 hg1 hSl)
        | fail)
      have hs1 : w.heap.size ≤ w1.heap.size := Hb1.out.size
      have hnl : ss.length = ss.length := rfl
      go_wp2
      go_loopw [8, 9] (fun o i wr => ∃ k : Nat, k ≤ ss.length ∧ k % 2 = 0 ∧ i = .int .i64 (k : Int) ∧ wr.ownsRow w1.heap.size 111 2 o (crossP (ss.take k)).length (sCells (crossP (ss.take k))) ∧ Below w1.heap.size w1 wr) (fun _ i _ => ss.length - (intOf i).toNat)
      case atStart => exact ⟨0, Nat.zero_le _, rfl, rfl, World.ownsRow_nil _ _ _ _, Below.refl _ _⟩
      case round =>
        obtain ⟨k, hk, hk2, rfl, hown, hbr⟩ := hrel
        have hsr := hbr.size
        have Hown := Lib.hid hown
        have Hbr := Lib.hid hbr
        clear hown
        obtain ⟨k1, hk1⟩ : ∃ k1, k + 1 = k1 := ⟨_, rfl⟩
        have hw1k : IntKind.i64.wrap ((k : Int) + 1) = (k1 : Int) := by rw [IntWalk.i64_in _ (by omega)]; omega
        by_cases hkn : k < ss.length
        · have hkl : k + 1 < ss.length := by omega
          obtain ⟨b, off, rfl, hb, hcs⟩ := (HSl.out.below hbr).resolve_left (by omega)
          have c0 := hcs k (.int .i64 ss[k]) (by simp [hkn])
          have c1 := hcs (k + 1) (.int .i64 ss[k + 1]) (by simp [hkl])
          have Hnext := Lib.hid (cross_step k hkl hk2)
          have Hlow := Lib.hid (cross_low Hsort.out hkn)
          have hle : ss[k] ≤ ss[k + 1] := List.pairwise_iff_getElem.1 Hsort.out k (k + 1) hkn hkl (by omega)
          have hal : (crossP (ss.take k)).length ≤ 100000 := by have := cross_len (ss.take k); rw [List.length_take] at this; omega
          have hkn' : (k1 : Int) < (sp.length : Int) := by omega
          have hk10 : (0 : Int) ≤ (k1 : Int) := by omega
          have hkn2 : (k : Int) < (sp.length : Int) := by omega
          have c1' : wr.cell? ⟨b, off + k1, none⟩ = some (.int .i64 ss[k + 1]) := by rw [← hk1]; exact c1
          have Hk1 := Lib.hid hk1
          generalize ss[k] = x at *
          generalize ss[k + 1] = z at *
          generalize crossP (ss.take k) = acc at *
          clear hbr hcs c1 hk1
          go_upto_region 13 with fail
          go_region_held3 (fun w' => w'.cell? ⟨b, off + k, none⟩ = some (.int .i64 x) ∧ w'.cell? ⟨b, off + k1, none⟩ = some (.int .i64 z))
            (first | exact ⟨c0, c1'⟩ | go_keep)
            (fail)
          obtain ⟨wb, hwb⟩ : ∃ wb : World, wb = (wr.alloc (.cells #[.int .i64 x, .int .i64 z] 111)).drew := ⟨_, rfl⟩
          rw [← hwb]
          have hq : wb.heap[wr.heap.size]? = some (.cells #[.int .i64 x, .int .i64 z] 111 (0, 0)) := by rw [hwb]; exact heap_alloc_new wr _
          have q0 := cell_of_row wb wr.heap.size 0 _ _ _ hq
          have q1 := cell_of_row wb wr.heap.size 1 _ _ _ hq
          have hsb2 : wr.heap.size < wb.heap.size := by rw [hwb]; simp
          have Hbb : Hid (Below wr.heap.size wr wb) := Lib.hid (by rw [hwb]; exact (by repeat' (first | with_reducible exact Below.refl _ _ | with_reducible refine below_drewN ?_ _ | with_reducible refine Below.drew ?_ | with_reducible refine Below.alloc ?_ ?_ _ | with_reducible refine Below.setCell ?_ ?_ _ | with_reducible refine Below.trans ?_ (Below.mono (by with_reducible assumption) ?_) | (simp; done) | (simp; omega) | omega)))
          have hkm : Hid (k + 2 ≤ ss.length ∧ (k + 2) % 2 = 0 ∧ ss.length - (k + 2) < ss.length - k) := Lib.hid ⟨by omega, by omega, by omega⟩
          have hsb := Hbb.out.size
          have hw2k : IntKind.i64.wrap ((k : Int) + 2) = ((k + 2 : Nat) : Int) := by rw [IntWalk.i64_in _ (by omega)]; omega
          clear hwb hq c0 c1'
          by_cases hxz : x = z
          · rw [if_pos hxz] at Hnext
            subst hxz
            have Hownb := Lib.hid (ownsRow_below Hown.out Hbb.out)
            go_wp2
            go_roundw
            case rel => exact ⟨k + 2, hkm.out.1, hkm.out.2.1, by go_num, by rw [Hnext.out]; exact Hownb.out, Hbr.out.trans (Hbb.out.mono hsr)⟩
            case measure => simp [intOf]; omega
          · rw [if_neg hxz] at Hnext
            have hlt : x < z := by omega
            rcases list_snoc acc with hsn | ⟨a0, q, hsn⟩
            · have Hnew : Hid (sweep acc (x, z, ()) = acc ++ [(x, z, ())]) := Lib.hid (sweep_new acc _ (by rw [hsn]; simp))
              have hl0 : acc.length = 0 := by rw [hsn]; rfl
              have Hlen := Lib.hid hl0
              rw [hl0] at Hown hal
              obtain ⟨Bd, bc, rfl, _, _, _⟩ := own_slice Hown.out
              have Hownb := Lib.hid (ownsRow_below Hown.out Hbb.out)
              clear hsn hl0 hle hlt
              go_upto_region 16 with fail
              go_quiet (fail)
              rename_i nq
              have q04 : (wb.drewN nq).cell? ⟨wr.heap.size, 0, none⟩ = some (.int .i64 x) := q0
              have q14 : (wb.drewN nq).cell? ⟨wr.heap.size, 1, none⟩ = some (.int .i64 z) := q1
              have Hb4 : Hid (Below wr.heap.size wr (wb.drewN nq)) := Lib.hid (below_drewN Hbb.out nq)
              have Hown4 : Hid ((wb.drewN nq).ownsRow w1.heap.size 111 2 (.slice Bd 0 bc) 0 (sCells acc)) := Hownb
              have hs4 := Hb4.out.size
              generalize wb.drewN nq = w4 at *
              clear q0 q1
              go_wp2_with (first
                | (at_builtin
                   go_loud (refine wpList_append_any _ rfl (.tmp 80) (.tmp 82) _ rfl w1.heap.size 111 i0 _ 2 16 Tryz.underlying96 hi hz0 hz1 hz2 rfl (by omega) _ 0 (sCells acc) rfl (Hown4.out.alloc _) _ _ 1 1 [.int .i64 x, .int .i64 z] rfl ⟨rfl, fun _ => ⟨_, rfl, Nat.lt_succ_self _, fun j u hu => (by exact news_any _ _ _ j u hu)⟩⟩ (by simp [Value.oneCell']) (by simp only [maxLen]; omega) (by omega) (by simp; omega) ?_)
                   intro v5 w5 hown5 hg5 hat5)
                | fail)
              go_roundw
              case rel =>
                refine ⟨k + 2, hkm.out.1, hkm.out.2.1, by go_num, ?_, ?_⟩
                · rw [Hnext.out, Hnew.out, List.length_append, sCells_snoc, Hlen.out]
                  exact hown5
                · exact Below.grown ((Hbr.out.trans (Hb4.out.mono hsr)).alloc (by omega) _) hg5 (by simp; omega) (own_base Hown4.out)
              case measure => simp [intOf]; omega
            · have hl0 : acc.length = a0.length + 1 := by rw [hsn]; simp
              obtain ⟨nb, hnb⟩ : ∃ nb, acc.length = nb := ⟨_, rfl⟩
              obtain ⟨p, hp⟩ : ∃ p, a0.length = p := ⟨_, rfl⟩
              have hn1' : nb = p + 1 := by omega
              have hpl : p < acc.length := by omega
              have hblp : acc[p] = q := by
                have h1 : acc[p]? = some q := by rw [hsn, List.getElem?_append_right (by omega), hp]; simp
                rw [List.getElem?_eq_getElem hpl] at h1
                exact Option.some.inj h1
              have hqx : q.2.1 ≤ x := Hlow.out q (by rw [hsn]; simp)
              have Hlen := Lib.hid hnb
              have Hn1 := Lib.hid hn1'
              have Hsn := Lib.hid hsn
              have Hp := Lib.hid hp
              rw [hnb] at Hown hal
              obtain ⟨g, bc, rfl, hgb, hgl, hnc, hcm, hcells, hfr⟩ := own_at Hown.out (by omega)
              have cr := hcells (p * 2 + 1) _ (sCells_at acc p hpl).2
              rw [hblp] at cr
              have Hset : Hid (∀ z : Int, sCells (a0 ++ [(q.1, z, ())]) = (sCells acc).set (p * 2 + 1) (.int .i64 z)) := Lib.hid (fun z => by
                rw [← sCells_setR acc p hpl z, hblp, hsn]
                congr 1
                rw [List.set_append_right _ _ (by omega), hp, Nat.sub_self]
                rfl)
              have hwn : IntKind.i64.wrap ((nb : Int) - 1) = (p : Int) := by rw [IntWalk.i64_in _ (by omega)]; omega
              have hnp : (p : Int) < (nb : Int) := by omega
              have hn00 : (0 : Int) < (nb : Int) := by omega
              have hp00 : (0 : Int) ≤ (p : Int) := by omega
              have hn0N : 0 < nb := by omega
              have hnpN : p < nb := by omega
              have hdn : decide (0 < nb) = true := decide_eq_true hn0N
              have hfg := hfr (p * 2 + 1)
              have crb := (Hbb.out.cell (p := ⟨g, p * 2 + 1, none⟩) hgl).trans cr
              have frb := (Hbb.out.frozen (p := ⟨g, p * 2 + 1, none⟩) hgl).trans hfg
              have Hownb := Lib.hid (ownsRow_below Hown.out Hbb.out)
              clear hsn hl0 hnb hp hn1' hpl hblp hcells hfr cr hfg hle
              by_cases hsq : q.2.1 = x
              · have Hext : Hid (sweep acc (x, z, ()) = a0 ++ [(q.1, z, ())]) := Lib.hid (by
                  rw [Hsn.out, sweep_ext a0 q (x, z, ()) (by show x ≤ q.2.1; omega)]
                  have : max q.2.1 z = z := by omega
                  simp only [this])
                rw [hsq] at crb
                have Hsq := Lib.hid hsq
                clear hsq hlt hqx
                go_upto_region 16 with fail
                go_quiet (fail)
                rename_i nq
                have q14 : (wb.drewN nq).cell? ⟨wr.heap.size, 1, none⟩ = some (.int .i64 z) := q1
                have cr4 : (wb.drewN nq).cell? ⟨g, p * 2 + 1, none⟩ = some (.int .i64 x) := crb
                have fr4 : (wb.drewN nq).frozen? ⟨g, p * 2 + 1, none⟩ = false := frb
                have Hb4 : Hid (Below wr.heap.size wr (wb.drewN nq)) := Lib.hid (below_drewN Hbb.out nq)
                have Hown4 : Hid ((wb.drewN nq).ownsRow w1.heap.size 111 2 (.slice (some ⟨g, 0, none⟩) nb bc) nb (sCells acc)) := Hownb
                generalize wb.drewN nq = w4 at *
                clear q0 q1 crb frb
                go_wp2
                go_roundw
                case rel =>
                  refine ⟨k + 2, hkm.out.1, hkm.out.2.1, by go_num, ?_, ?_⟩
                  · have e1 : (a0 ++ [(q.1, z, ())]).length = nb := by rw [List.length_append, Hp.out, Hn1.out]; rfl
                    rw [Hnext.out, Hext.out, e1, Hset.out]
                    exact own_setN Hown4.out _ _
                  · exact (Hbr.out.trans (Hb4.out.mono hsr)).setCell hgb _
                case measure => simp [intOf]; omega
              · have Hnew : Hid (sweep acc (x, z, ()) = acc ++ [(x, z, ())]) := Lib.hid (sweep_new acc _ (by rw [Hsn.out]; simp; omega))
                clear hlt hqx
                go_upto_region 16 with fail
                go_quiet (fail)
                rename_i nq
                have q04 : (wb.drewN nq).cell? ⟨wr.heap.size, 0, none⟩ = some (.int .i64 x) := q0
                have q14 : (wb.drewN nq).cell? ⟨wr.heap.size, 1, none⟩ = some (.int .i64 z) := q1
                have Hb4 : Hid (Below wr.heap.size wr (wb.drewN nq)) := Lib.hid (below_drewN Hbb.out nq)
                have Hown4 : Hid ((wb.drewN nq).ownsRow w1.heap.size 111 2 (.slice (some ⟨g, 0, none⟩) nb bc) nb (sCells acc)) := Hownb
                have hs4 := Hb4.out.size
                generalize wb.drewN nq = w4 at *
                clear q0 q1 crb frb
                go_wp2_with (first
                  | (at_builtin
                     go_loud (refine wpList_append_any _ rfl (.tmp 80) (.tmp 82) _ rfl w1.heap.size 111 i0 _ 2 16 Tryz.underlying96 hi hz0 hz1 hz2 rfl (by omega) _ nb (sCells acc) rfl (Hown4.out.alloc _) _ _ 1 1 [.int .i64 x, .int .i64 z] rfl ⟨rfl, fun _ => ⟨_, rfl, Nat.lt_succ_self _, fun j u hu => (by exact news_any _ _ _ j u hu)⟩⟩ (by simp [Value.oneCell']) (by simp only [maxLen]; omega) (by omega) (by simp; omega) ?_)
                     intro v5 w5 hown5 hg5 hat5)
                  | fail)
                go_roundw
                case rel =>
                  refine ⟨k + 2, hkm.out.1, hkm.out.2.1, by go_num, ?_, ?_⟩
                  · rw [Hnext.out, Hnew.out, List.length_append, sCells_snoc, Hlen.out]
                    exact hown5
                  · exact Below.grown ((Hbr.out.trans (Hb4.out.mono hsr)).alloc (by omega) _) hg5 (by simp; omega) (own_base Hown4.out)
                case measure => simp [intOf]; omega
        · obtain rfl : k = ss.length := by omega
          have Hown3 : Hid (wr.ownsRow w1.heap.size 111 2 u8 (crossP ss).length (sCells (crossP ss))) := Lib.hid (by have := Hown.out; rw [List.take_of_length_le (Nat.le_refl _)] at this; exact this)
          have hkn' : ¬ (k1 : Int) < (sp.length : Int) := by omega
          clear hbr
          go_wp2
          go_ret
          exact ⟨_, rfl, by rw [Hsp.out, Hss.out]; exact own_rebase Hown3.out hs1, Hb1.out.trans (Hbr.out.mono hs1)⟩
end Go.Proofs.YtpcfhcdbibklcaaGreat

namespace Go.Proofs.YtpcfhcdbibklcaaGreat
open Go.RowKit Go.Shelf
set_option linter.unusedVariables false
set_option linter.unusedSimpArgs false

/-- The first error of rings. -/
def fErr : List (List Pt) → Int
  | [] => 0
  | r :: t => if ringP r = 0 then fErr t else ringP r
theorem fErr_zero : ∀ {rs : List (List Pt)}, fErr rs = 0 ↔ ∀ r ∈ rs, ringP r = 0
  | [] => by simp [fErr]
  | r :: t => by
    rw [fErr]
    split
    · next h => rw [fErr_zero]; simp [h]
    · next h => simp [h]
theorem fErr_at : ∀ {rs : List (List Pt)} {i : Nat} (h : i < rs.length), (∀ j (hj : j < rs.length), j < i → ringP rs[j] = 0) → ringP rs[i] ≠ 0 → fErr rs = ringP rs[i]
  | [], i, h, _, _ => by simp at h
  | r :: t, 0, h, h1, h2 => by
    have h2' : ringP r ≠ 0 := h2
    rw [fErr, if_neg h2']
    rfl
  | r :: t, i + 1, h, h1, h2 => by
    have h0 : ringP r = 0 := h1 0 (by simp) (by omega)
    rw [fErr, if_pos h0]
    exact fErr_at (by simpa using h) (fun j hj hji => h1 (j + 1) (by simpa using hj) (by omega)) h2
/-- outline.Fill. -/
def fillV (rs : List (List Pt)) : List R4 × Int := if 60 < rs.length then ([], 1) else if fErr rs ≠ 0 then ([], fErr rs) else if 120 < (fillR (wallsL rs)).length then ([], 1) else (fillR (wallsL rs), 0)
theorem yWs_snoc (l : List Wl) (q : Wl) : yWs (l ++ [q]) = yWs l ++ [q.2.1, q.2.2] := by simp [yWs]
theorem yWs_len (l : List Wl) : (yWs l).length = 2 * l.length := by
  induction l with
  | nil => rfl
  | cons a t ih => simp [yWs] at *; omega
set_option maxHeartbeats 400000 in
theorem fillRow_any (g : Nat) (A : Option Addr) (n c : Nat) (ws : List Wl) (y : Int) (w : World) (hg : w.cell? ⟨g, 0, none⟩ = some (.slice A n c)) (hA : SlW w A n c ws) (hn1 : n ≤ 100000) (hev : (xsAt ws y).length % 2 = 0) :
    Calls Tryz.prog 55 #[.int .i64 y, .pointer (some ⟨g, 0, none⟩)] w fun e w' => ∃ v, e = .returned v ∧ w'.ownsRow w.heap.size 111 2 v (crossP (srt (xsAt ws y))).length (sCells (crossP (srt (xsAt ws y)))) ∧ Below w.heap.size w w' := by
  have HA := Lib.hid hA
  have Hev := Lib.hid hev
  clear hA hev
  go_enter Tryz.func55, Tryz.ntmps55
  go_wp2_with (first | (go_at_call 56; refine (crossed_any A n c ws y _ (HA.out.below (by repeat' (first | with_reducible exact Below.refl _ _ | with_reducible refine below_drewN ?_ _ | with_reducible refine Below.drew ?_ | with_reducible refine Below.alloc ?_ ?_ _ | with_reducible refine Below.setCell ?_ ?_ _ | with_reducible refine Below.trans ?_ (Below.mono (by with_reducible assumption) ?_) | (simp; done) | (simp; omega) | omega))) hn1 Hev.out).mono ?_; rintro e w1 ⟨v1, rfl, hown1, hb1⟩; have Hown1 := Lib.hid hown1; have Hb1 := Lib.hid hb1; clear hown1 hb1) | fail)
  go_ret
  exact ⟨v1, rfl, Hown1.out, Hb1.out⟩
set_option maxHeartbeats 8000000 in
set_option maxRecDepth 100000 in
theorem fill_any (A : Option Addr) (n c : Nat) (l : RgL) (w : World) (hA : SlRg w A n c l) (hs : ∀ r ∈ rgPts l, r.length ≤ 100000) (ht : (wallsL (rgPts l)).length ≤ 2000) :
    Calls Tryz.prog 18 #[.slice A n c] w (RegPost w (fillV (rgPts l))) := by
  obtain ⟨i1, hj, hy0, hy1, hy2⟩ := info_parts Tryz.infoInt
  have hn := hA.len
  have HA := Lib.hid hA
  have hnr := rgPts_len l
  clear hA
  by_cases hbig : 60 < n
  · have hb' : (60 : Int) < (n : Int) := by omega
    have e0 : fillV (rgPts l) = ([], 1) := by unfold fillV; rw [if_pos (by omega)]
    rw [e0]
    clear e0 hs ht
    go_enter Tryz.func18, Tryz.ntmps18
    go_wp2
    refine bodyPost_ret (v := .tuple #[.agg #[.slice none 0 0], .int .i64 1]) (by simp [results, Tryz.results18, go_sem, *]) rfl ?_
    exact ⟨_, rfl, World.ownsRow_nil _ _ _ _, (by repeat' (first | with_reducible exact Below.refl _ _ | with_reducible refine below_drewN ?_ _ | with_reducible refine Below.drew ?_ | with_reducible refine Below.alloc ?_ ?_ _ | with_reducible refine Below.setCell ?_ ?_ _ | with_reducible refine Below.trans ?_ (Below.mono (by with_reducible assumption) ?_) | (simp; done) | (simp; omega) | omega))⟩
  · have hb' : ¬ (60 : Int) < (n : Int) := by omega
    have HRg := Lib.hid (fun W (h : SlRg W A n c l) (i : Nat) (hi : i < l.length) => ring_any l[i].2.a l[i].1.length l[i].2.c l[i].1 W (h.fits _ (List.getElem_mem hi)))
    have Hbad : Hid (∀ i (hi : i < l.length), (∀ j (hj : j < l.length), j < i → ringP l[j].1 = 0) → ringP l[i].1 ≠ 0 → fillV (rgPts l) = ([], ringP l[i].1)) := Lib.hid fun i hi h1 h2 => by
      have e1 : fErr (rgPts l) = ringP l[i].1 := by
        have hi' : i < (rgPts l).length := by rw [hnr]; exact hi
        have g : (rgPts l)[i] = l[i].1 := by simp [rgPts]
        rw [← g]
        refine fErr_at hi' (fun j hj hji => ?_) (by rw [g]; exact h2)
        have := h1 j (by rw [← hnr]; exact hj) hji
        simpa [rgPts] using this
      unfold fillV
      rw [if_neg (by omega), if_pos (by rw [e1]; exact h2), e1]
    have Hgood : Hid ((∀ j (hj : j < l.length), ringP l[j].1 = 0) → fillV (rgPts l) = (if 120 < (fillR (wallsL (rgPts l))).length then ([], 1) else (fillR (wallsL (rgPts l)), 0)) ∧ ∀ Y, (xsAt (wallsL (rgPts l)) Y).length % 2 = 0) := Lib.hid fun h => by
      have hall : ∀ r ∈ rgPts l, ringP r = 0 := fun r hr => by
        obtain ⟨x, hx, rfl⟩ := List.mem_map.1 hr
        obtain ⟨j, hj, e⟩ := List.getElem_of_mem hx
        rw [← e]
        exact h j hj
      refine ⟨?_, rings_even hall⟩
      unfold fillV
      rw [if_neg (by omega), if_neg (by rw [fErr_zero.2 hall]; simp)]
    have HWa := Lib.hid (fun W (h : SlRg W A n c l) => walls_any A n c l W h hs (by omega))
    have Ht := Lib.hid ht
    obtain ⟨x0, hx0⟩ : ∃ x0, fillV (rgPts l) = x0 := ⟨_, rfl⟩
    rw [hx0] at Hbad Hgood ⊢
    clear hs ht hx0 hbig
    go_enter Tryz.func18, Tryz.ntmps18
    go_upto_region 3 with fail
    obtain ⟨w0, hw0⟩ : ∃ w0 : World, w0 = w.alloc (.cells #[.slice none 0 0] 25) := ⟨_, rfl⟩
    rw [← hw0]
    have hr0 : w0.heap[w.heap.size]? = some (.cells #[.slice none 0 0] 25 (0, 0)) := by rw [hw0]; exact heap_alloc_new w _
    have HR0 := Lib.hid hr0
    have HA0 : Hid (SlRg w0 A n c l) := Lib.hid (by rw [hw0]; exact HA.out.below (by repeat' (first | with_reducible exact Below.refl _ _ | with_reducible refine below_drewN ?_ _ | with_reducible refine Below.drew ?_ | with_reducible refine Below.alloc ?_ ?_ _ | with_reducible refine Below.setCell ?_ ?_ _ | with_reducible refine Below.trans ?_ (Below.mono (by with_reducible assumption) ?_) | (simp; done) | (simp; omega) | omega)))
    have Hb0 : Hid (Below w.heap.size w w0) := Lib.hid (by rw [hw0]; exact (by repeat' (first | with_reducible exact Below.refl _ _ | with_reducible refine below_drewN ?_ _ | with_reducible refine Below.drew ?_ | with_reducible refine Below.alloc ?_ ?_ _ | with_reducible refine Below.setCell ?_ ?_ _ | with_reducible refine Below.trans ?_ (Below.mono (by with_reducible assumption) ?_) | (simp; done) | (simp; omega) | omega)))
    have hs0 : w.heap.size < w0.heap.size := by rw [hw0]; simp
    clear hw0 hr0 HA
    go_wp2
    go_loopw [17] (fun iv wr => ∃ i : Nat, i ≤ n ∧ iv = .int .i64 (i : Int) ∧ Hid (∀ j (hj : j < l.length), j < i → ringP l[j].1 = 0) ∧ Below w0.heap.size w0 wr) (fun iv _ => n - (intOf iv).toNat)
    case atStart => exact ⟨0, Nat.zero_le _, rfl, Lib.hid (fun j _ h => by omega), Below.refl _ _⟩
    case round =>
      obtain ⟨i, hin, rfl, Hpre, hbr⟩ := hrel
      have hrr := (hbr.block _ hs0).trans HR0.out
      have hsr := hbr.size
      have Hbr := Lib.hid hbr
      clear hbr
      by_cases hiN : i < n
      · have hiN' : (i : Int) < (n : Int) := by omega
        have hil : i < l.length := by omega
        obtain ⟨b, off, rfl, hb, r0, -⟩ := (HA0.out.below Hbr.out).at i hil
        have HRi := Lib.hid (HRg.out _ (HA0.out.below Hbr.out) i hil)
        have Hb1 := Lib.hid (Hbad.out i hil Hpre.out)
        have Hnx : Hid (ringP l[i].1 = 0 → ∀ j (hj : j < l.length), j < i + 1 → ringP l[j].1 = 0) := Lib.hid fun h j hj hji => by
          rcases Nat.lt_or_ge j i with h1 | h1
          · exact Hpre.out j hj h1
          · have : j = i := by omega
            subst this
            exact h
        have hrc := ringP_cases l[i].1
        generalize l[i] = x at *
        obtain ⟨p, hv⟩ := x
        dsimp only at *
        obtain ⟨ev, hev⟩ : ∃ ev, ringP p = ev := ⟨_, rfl⟩
        rw [hev] at HRi Hb1 Hnx hrc
        clear hev HRg HWa Hgood Hbad
        by_cases hev0 : ev = 0
        · subst hev0
          have Hnx2 := Lib.hid (Hnx.out rfl)
          go_wp2_with (first
            | (go_at_call 14
               refine HRi.out.mono ?_
               rintro e w1 ⟨rfl, hb1⟩
               have Hb2 : Hid (Below w0.heap.size w0 w1) := Lib.hid (Hbr.out.trans (hb1.mono hsr))
               clear hb1)
            | fail)
          go_roundw
          case rel => exact ⟨i + 1, by omega, by go_num, Hnx2, Hb2.out⟩
          case measure => simp [intOf]; omega
        · have Hx := Lib.hid (Hb1.out hev0)
          go_wp2_with (first
            | (go_at_call 14
               refine HRi.out.mono ?_
               rintro e w1 ⟨rfl, hb1⟩
               have Hb2 : Hid (Below w.heap.size w w1) := Lib.hid (Hb0.out.trans ((Hbr.out.trans (hb1.mono hsr)).mono (by omega)))
               have hr1 : w1.heap[w.heap.size]? = some (.cells #[.slice none 0 0] 25 (0, 0)) := (hb1.block _ (by omega)).trans hrr
               have cr1 := cell_of_row w1 w.heap.size 0 _ _ _ hr1
               have fr1 := frozen_of_row w1 w.heap.size 0 _ _ hr1
               have csame : (w1.setCell ⟨w.heap.size, 0, none⟩ (.slice none 0 0)).cell? ⟨w.heap.size, 0, none⟩ = some (.slice none 0 0) := (by rw [cell_of_row _ w.heap.size 0 _ _ _ (heap_setCell_same w1 w.heap.size 0 _ _ _ hr1)]; simp)
               clear hb1 hr1)
            | fail)
          refine bodyPost_ret (v := .tuple #[.agg #[.slice none 0 0], .int .i64 ev]) (by simp [results, Tryz.results18, go_sem, *]) rfl ?_
          rw [Hx.out]
          exact ⟨_, rfl, World.ownsRow_nil _ _ _ _, Hb2.out.setCell (Nat.le_refl _) _⟩
      · obtain rfl : i = n := by omega
        have hiN' : ¬ (i : Int) < (i : Int) := by omega
        obtain ⟨hx0, hev⟩ := Hgood.out (fun j hj => Hpre.out j hj (by omega))
        have Hx0 := Lib.hid hx0
        have Hev := Lib.hid hev
        obtain ⟨ws, hws⟩ : ∃ ws, wallsL (rgPts l) = ws := ⟨_, rfl⟩
        rw [hws] at Hx0 Hev Ht
        have HW1 := Lib.hid (HWa.out _ (HA0.out.below Hbr.out))
        rw [hws] at HW1
        clear hx0 hev hws HWa Hbad Hgood HRg
        go_upto_region 11 with (first
          | (go_at_call 50
             refine HW1.out.mono ?_
             rintro e w1 ⟨v1, rfl, hown1, hb1⟩
             obtain ⟨WA, wc, rfl, hsw⟩ := SlW.of_own hown1
             obtain ⟨nw, hnw⟩ : ∃ nw, ws.length = nw := ⟨_, rfl⟩
             rw [hnw] at hsw
             rw [hnw]
             have hnw2 : nw ≤ 2000 := by have := Ht.out; omega
             have HS1 := Lib.hid hsw
             have Hb1 : Hid (Below w.heap.size w w1) := Lib.hid (Hb0.out.trans ((Hbr.out.trans (hb1.mono hsr)).mono (by omega)))
             have hr1 : w1.heap[w.heap.size]? = some (.cells #[.slice none 0 0] 25 (0, 0)) := (hb1.block _ (by omega)).trans hrr
             have Hr1 := Lib.hid hr1
             have hs1 : w.heap.size < w1.heap.size := by have := hb1.size; omega
             have Hnw := Lib.hid hnw
             clear hown1 hb1 hr1 hsw hnw)
          | fail)
        obtain ⟨w2, hw2⟩ : ∃ w2 : World, w2 = w1.alloc (.cells #[.slice WA nw wc] 89) := ⟨_, rfl⟩
        rw [← hw2]
        have hr2 : w2.heap[w1.heap.size]? = some (.cells #[.slice WA nw wc] 89 (0, 0)) := by rw [hw2]; exact heap_alloc_new w1 _
        have c2 := cell_of_row w2 w1.heap.size 0 _ _ _ hr2
        have HS2 : Hid (SlW w2 WA nw wc ws) := Lib.hid (by rw [hw2]; exact HS1.out.below (by repeat' (first | with_reducible exact Below.refl _ _ | with_reducible refine below_drewN ?_ _ | with_reducible refine Below.drew ?_ | with_reducible refine Below.alloc ?_ ?_ _ | with_reducible refine Below.setCell ?_ ?_ _ | with_reducible refine Below.trans ?_ (Below.mono (by with_reducible assumption) ?_) | (simp; done) | (simp; omega) | omega)))
        have Hb12 : Hid (Below w1.heap.size w1 w2) := Lib.hid (by rw [hw2]; exact (by repeat' (first | with_reducible exact Below.refl _ _ | with_reducible refine below_drewN ?_ _ | with_reducible refine Below.drew ?_ | with_reducible refine Below.alloc ?_ ?_ _ | with_reducible refine Below.setCell ?_ ?_ _ | with_reducible refine Below.trans ?_ (Below.mono (by with_reducible assumption) ?_) | (simp; done) | (simp; omega) | omega)))
        have hs2 : w1.heap.size < w2.heap.size := by rw [hw2]; simp
        have Hr2 : Hid (w2.heap[w.heap.size]? = some (.cells #[.slice none 0 0] 25 (0, 0))) := Lib.hid ((Hb12.out.block _ hs1).trans Hr1.out)
        have Hb2 : Hid (Below w.heap.size w w2) := Lib.hid (Hb1.out.trans (Hb12.out.mono (by omega)))
        clear hw2 hr2 HS1 hrr
        obtain ⟨X, hX⟩ : ∃ X, w1.heap.size = X := ⟨_, rfl⟩
        rw [hX] at c2 hs2 hs1 ⊢
        clear Hb12 hX Hr1 Hb1 HW1
        have hs2w := Hb2.out.size
        go_wp2
        go_loopw [8, 32] (fun cv iv wr => ∃ k : Nat, k ≤ nw ∧ iv = .int .i64 (k : Int) ∧ wr.ownsRow w2.heap.size 3 1 cv (yWs (ws.take k)).length ((yWs (ws.take k)).map (.int .i64)) ∧ Below w2.heap.size w2 wr) (fun _ iv _ => nw - (intOf iv).toNat)
        case atStart => exact ⟨0, Nat.zero_le _, rfl, World.ownsRow_nil _ _ _ _, Below.refl _ _⟩
        case round =>
          obtain ⟨k, hk, rfl, hown, hbk⟩ := hrel
          have Hown := Lib.hid hown
          have Hbk := Lib.hid hbk
          have hsk := hbk.size
          clear hown hbk
          by_cases hkn : k < nw
          · have hkn' : (k : Int) < (nw : Int) := by omega
            have hkl : k < ws.length := by have := Hnw.out; omega
            obtain ⟨b, off, rfl, hb, d0, d1, d2⟩ := (HS2.out.below Hbk.out).at k hkl
            have hlen : (yWs (ws.take k)).length ≤ 100000 := by rw [yWs_len, List.length_take]; omega
            have Hn2 : Hid (ws.take (k + 1) = ws.take k ++ [ws[k]]) := Lib.hid (List.take_succ_eq_append_getElem hkl)
            generalize ws[k] = q at *
            generalize ws.take k = dn at *
            obtain ⟨qx, ql, qh⟩ := q
            dsimp only at *
            go_wp2_with (first
              | (at_builtin
                 go_loud (refine wpList_append_any _ rfl (.tmp 36) (.tmp 41) _ rfl w2.heap.size 3 i1 _ 1 8 Tryz.underlying22 hj hy0 hy1 hy2 rfl (by omega) _ (yWs dn).length ((yWs dn).map (.int .i64)) rfl ((Hown.out.alloc _).alloc _) _ _ 2 2 [.int .i64 ql, .int .i64 qh] rfl ⟨rfl, fun _ => ⟨_, rfl, Nat.lt_succ_self _, fun j u hu => (by exact World.news_of_block (heap_alloc2_new wr _ (.cells #[.int .i64 ql, .int .i64 qh] 3)) j u hu)⟩⟩ (by simp [Value.oneCell']) (by simp only [maxLen]; omega) (by omega) (by simp; omega) ?_)
                 intro v5 w5 hown5 hg5 hat5)
              | fail)
            go_roundw
            case rel =>
              refine ⟨k + 1, by omega, by go_num, ?_, ?_⟩
              · rw [Hn2.out, yWs_snoc, List.length_append, List.map_append]
                exact hown5
              · exact Below.grown (((Hbk.out.alloc hsk _).alloc (by simp; omega) _)) hg5 (by simp; omega) (own_base Hown.out)
            case measure => simp [intOf]; omega
          · obtain rfl : k = nw := by omega
            have hkn' : ¬ (k : Int) < (k : Int) := by omega
            have Hown1 : Hid (wr.ownsRow w2.heap.size 3 1 u8 (yWs ws).length ((yWs ws).map (.int .i64))) := Lib.hid (by have := Hown.out; rw [List.take_of_length_le (by have := Hnw.out; omega)] at this; exact this)
            have hyl := yWs_len ws
            rw [Hnw.out] at hyl
            have hub := Lib.hid (own_base Hown1.out)
            have Hasc : Hid (asc (yWs ws) = Lib.compact (srt (yWs ws))) := Lib.hid rfl
            have hascl := (asc_all (yWs ws)).2.2
            have hsrl := srt_len (yWs ws)
            have Hfr : Hid (buildP (fun y => crossP (srt (xsAt ws y))) (asc (yWs ws)) = fillR ws) := Lib.hid rfl
            have Hcl : Hid (∀ y, (crossP (srt (xsAt ws y))).length ≤ k) := Lib.hid fun y => by
              have h1 := cross_len (srt (xsAt ws y))
              have h2 := (srt_perm (xsAt ws y)).length_eq
              have h3 := xsAt_len ws y
              have h4 := Hnw.out
              omega
            have c3 := (Hbk.out.cell (p := ⟨X, 0, none⟩) hs2).trans c2
            have Hr3 := Lib.hid ((Hbk.out.block _ (by omega)).trans Hr2.out)
            have HS3 := Lib.hid (HS2.out.below Hbk.out)
            have HSo := Lib.hid (sort_own wr Hown1.out (by omega))
            rw [← hsrl] at HSo
            have eg : ∀ args w, (callFunc 55 args).run Tryz.prog w = .ok (.enter 55 args) w := enters_of Tryz.func55 (by kernel_rfl) rfl
            have Eg := Lib.hid eg
            have Hb3 : Hid (Below w.heap.size w wr) := Lib.hid (Hb2.out.trans (Hbk.out.mono hs2w))
            have hX2 : X < wr.heap.size := by omega
            clear eg Hown
            obtain ⟨cl, hcl⟩ : ∃ cl, fillR ws = cl := ⟨_, rfl⟩
            rw [hcl] at Hx0
            have Hcle := Lib.hid hcl
            clear hcl
            by_cases hbg : 120 < cl.length
            · rw [if_pos hbg] at Hx0
              go_wp2_with (first
                | (go_at_call 51
                   refine HSo.out.mono ?_
                   rintro e w3 ⟨rfl, hown3, hg3⟩
                   have HB3 : Hid (Below w2.heap.size w2 w3) := Lib.hid (Hbk.out.grown hg3 hsk hub.out)
                   have Hown3 := Lib.hid hown3
                   clear hown3 hg3)
                | (go_at_call 54
                   refine (compact_own _ Hown3.out).mono ?_
                   rintro e w4 ⟨v4, rfl, hown4, hg4, hv4⟩
                   rw [← Hasc.out] at hown4
                   obtain ⟨C, cc, rfl, hC⟩ := SlI.of_own hown4
                   have HC := Lib.hid hC
                   have HB4 : Hid (Below w2.heap.size w2 w4) := Lib.hid (HB3.out.grown hg4 HB3.out.size hub.out)
                   have c4 := (HB4.out.cell (p := ⟨X, 0, none⟩) hs2).trans c2
                   have HS4 := Lib.hid (HS2.out.below HB4.out)
                   have hs4 := HB4.out.size
                   have Hr4 := Lib.hid ((HB4.out.block _ (by omega)).trans Hr2.out)
                   have Hb4 : Hid (Below w.heap.size w w4) := Lib.hid (Hb2.out.trans (HB4.out.mono hs2w))
                   have hX4 : X < w4.heap.size := by omega
                   clear hown4 hg4 hv4 hC)
                | (go_at_call 53
                   refine (build_any 55 #[.pointer (some ⟨X, 0, none⟩)] (fun y => crossP (srt (xsAt ws y))) k C (asc (yWs ws)).length cc (asc (yWs ws)) w4 HC.out (by omega) Hcl.out (by omega) (by have h1 := Nat.mul_le_mul (show (asc (yWs ws)).length ≤ 4000 by omega) hnw2; omega) Eg.out (fun W y hW => fillRow_any X WA k wc ws y W ((hW.cell (p := ⟨X, 0, none⟩) hX4).trans c4) (HS4.out.below hW) (by omega) (Hev.out y))).mono ?_
                   rintro e w5 ⟨v5, rfl, hown5, hb5⟩
                   rw [Hfr.out, Hcle.out] at hown5
                   obtain ⟨R, rc, rfl, hR⟩ := SlR.of_own hown5
                   have Hown5 := Lib.hid hown5
                   have Hb5 : Hid (Below w.heap.size w w5) := Lib.hid (Hb4.out.trans (hb5.mono (by omega)))
                   have hs5 := hb5.size
                   have Hr5 := Lib.hid ((hb5.block _ (by omega)).trans Hr4.out)
                   clear hown5 hb5 hR)
                | (go_at_call 52; refine (limited_big R cl.length rc _ hbg).mono ?_; rintro e w6 ⟨rfl, hb6⟩; have hr6 : w6.heap[w.heap.size]? = some (.cells #[.slice none 0 0] 25 (0, 0)) := (hb6.block _ (by omega)).trans Hr5.out; have cr6 := cell_of_row w6 w.heap.size 0 _ _ _ hr6; have fr6 := frozen_of_row w6 w.heap.size 0 _ _ hr6; have csame : (w6.setCell ⟨w.heap.size, 0, none⟩ (.slice none 0 0)).cell? ⟨w.heap.size, 0, none⟩ = some (.slice none 0 0) := (by rw [cell_of_row _ w.heap.size 0 _ _ _ (heap_setCell_same w6 w.heap.size 0 _ _ _ hr6)]; simp); have Hb6 : Hid (Below w.heap.size w w6) := Lib.hid (Hb5.out.trans (hb6.mono (by omega))); clear hb6 hr6)
                | fail)
              refine bodyPost_ret (v := .tuple #[.agg #[.slice none 0 0], .int .i64 1]) (by simp [results, Tryz.results18, go_sem, *]) rfl ?_
              rw [Hx0.out]
              exact ⟨_, rfl, World.ownsRow_nil _ _ _ _, Hb6.out.setCell (Nat.le_refl _) _⟩
            · rw [if_neg hbg] at Hx0
              have hbg' : cl.length ≤ 120 := by omega
              go_wp2_with (first
                | (go_at_call 51
                   refine HSo.out.mono ?_
                   rintro e w3 ⟨rfl, hown3, hg3⟩
                   have HB3 : Hid (Below w2.heap.size w2 w3) := Lib.hid (Hbk.out.grown hg3 hsk hub.out)
                   have Hown3 := Lib.hid hown3
                   clear hown3 hg3)
                | (go_at_call 54
                   refine (compact_own _ Hown3.out).mono ?_
                   rintro e w4 ⟨v4, rfl, hown4, hg4, hv4⟩
                   rw [← Hasc.out] at hown4
                   obtain ⟨C, cc, rfl, hC⟩ := SlI.of_own hown4
                   have HC := Lib.hid hC
                   have HB4 : Hid (Below w2.heap.size w2 w4) := Lib.hid (HB3.out.grown hg4 HB3.out.size hub.out)
                   have c4 := (HB4.out.cell (p := ⟨X, 0, none⟩) hs2).trans c2
                   have HS4 := Lib.hid (HS2.out.below HB4.out)
                   have hs4 := HB4.out.size
                   have Hr4 := Lib.hid ((HB4.out.block _ (by omega)).trans Hr2.out)
                   have Hb4 : Hid (Below w.heap.size w w4) := Lib.hid (Hb2.out.trans (HB4.out.mono hs2w))
                   have hX4 : X < w4.heap.size := by omega
                   clear hown4 hg4 hv4 hC)
                | (go_at_call 53
                   refine (build_any 55 #[.pointer (some ⟨X, 0, none⟩)] (fun y => crossP (srt (xsAt ws y))) k C (asc (yWs ws)).length cc (asc (yWs ws)) w4 HC.out (by omega) Hcl.out (by omega) (by have h1 := Nat.mul_le_mul (show (asc (yWs ws)).length ≤ 4000 by omega) hnw2; omega) Eg.out (fun W y hW => fillRow_any X WA k wc ws y W ((hW.cell (p := ⟨X, 0, none⟩) hX4).trans c4) (HS4.out.below hW) (by omega) (Hev.out y))).mono ?_
                   rintro e w5 ⟨v5, rfl, hown5, hb5⟩
                   rw [Hfr.out, Hcle.out] at hown5
                   obtain ⟨R, rc, rfl, hR⟩ := SlR.of_own hown5
                   have Hown5 := Lib.hid hown5
                   have Hb5 : Hid (Below w.heap.size w w5) := Lib.hid (Hb4.out.trans (hb5.mono (by omega)))
                   have hs5 := hb5.size
                   have Hr5 := Lib.hid ((hb5.block _ (by omega)).trans Hr4.out)
                   clear hown5 hb5 hR)
                | (go_at_call 52; refine (limited_ok R cl.length rc _ hbg').mono ?_; rintro e w6 ⟨rfl, hb6⟩; have hr6 : w6.heap[w.heap.size]? = some (.cells #[.slice none 0 0] 25 (0, 0)) := (hb6.block _ (by omega)).trans Hr5.out; have cr6 := cell_of_row w6 w.heap.size 0 _ _ _ hr6; have fr6 := frozen_of_row w6 w.heap.size 0 _ _ hr6; have csame : (w6.setCell ⟨w.heap.size, 0, none⟩ (.slice R cl.length rc)).cell? ⟨w.heap.size, 0, none⟩ = some (.slice R cl.length rc) := (by rw [cell_of_row _ w.heap.size 0 _ _ _ (heap_setCell_same w6 w.heap.size 0 _ _ _ hr6)]; simp); have Hown6 := Lib.hid (ownsRow_below Hown5.out hb6); have Hb6 : Hid (Below w.heap.size w w6) := Lib.hid (Hb5.out.trans (hb6.mono (by omega))); clear hb6 hr6)
                | fail)
              refine bodyPost_ret (v := .tuple #[.agg #[.slice R cl.length rc], .int .i64 0]) (by simp [results, Tryz.results18, go_sem, *]) rfl ?_
              rw [Hx0.out]
              have hlow := own_base Hown6.out
              refine ⟨_, rfl, ?_, Hb6.out.setCell (Nat.le_refl _) _⟩
              exact own_other (own_rebase Hown6.out (by omega)) (only_setCell (g := w.heap.size) (World.grownBy.refl _ _) (.inl rfl) _) (fun j hj e => by injection e with e; have := hlow j hj; omega)
end Go.Proofs.YtpcfhcdbibklcaaGreat

namespace Go.Proofs.YtpcfhcdbibklcaaGreat
open Go.RowKit Go.Shelf
set_option linter.unusedVariables false
set_option linter.unusedSimpArgs false

theorem wallsO_len (r : List Pt) : (wallsO r).length ≤ r.length := wallsTo_len r r.length
theorem wallsL_len (rs : List (List Pt)) : (wallsL rs).length ≤ (rs.map List.length).sum := by
  induction rs with
  | nil => simp [wallsL]
  | cons r t ih =>
    have := wallsO_len r
    show (wallsO r ++ wallsL t).length ≤ _
    rw [List.length_append, List.map_cons, List.sum_cons]
    omega
theorem rings_total {P : Sq} {es : List R4} (h : ESet P es) {cs : List (R4 × List R4)} (hr : Rings P es cs) : ((cs.map ringOf).map List.length).sum ≤ es.length := by
  rw [← (rings_perm h hr).length_eq]
  have hn := hr.ring
  clear hr
  induction cs with
  | nil => simp
  | cons c t ih =>
    have h1 := ih fun k hk => hn k (List.mem_cons_of_mem _ hk)
    have h2 := (cor_from (hn c (by simp)).lk).length_le
    have h3 : (ringOf c).length = (crn c).length := by rw [ringOf_eq, List.length_map, (begD_perm _).length_eq]
    rw [List.map_cons, List.map_cons, List.sum_cons, List.flatMap_cons, List.length_append, h3]
    have h4 : (crn c).length ≤ c.2.length + 1 := by simpa [crn] using h2
    rw [List.length_cons]
    omega
theorem sumN_perm {l m : List Nat} (h : l.Perm m) : l.sum = m.sum := by
  induction h with
  | nil => rfl
  | cons x _ ih => simp [ih]
  | swap x y l => simp; omega
  | trans _ _ i1 i2 => rw [i1, i2]
/-- All that OutlineBack says. -/
structure BackR (l : List R4) (rs : List (List Pt)) : Prop where
  walls : (wallsL rs).length ≤ 220
  fill : fillV rs = (l, 0)
  sgn : ∀ r ∈ rs, signedV r = (cycP phA r, 0) ∧ cycP phA r ≠ 0
  area : sumL (cycP phA) rs = areaP l
  len : sumL (cycP phL) rs = bordP l
theorem reg_back {l : List R4} {s m : Nat} (h : Reg s m l) (hs : s ≤ 10) (hm : m ≤ 120) {rs : List (List Pt)} {err : Int} (hr : RgRes l rs err) : BackR l rs := by
  have hg := (reg_good h hs hm hr).2
  obtain ⟨h1, cs, h2, h3, h4, h5, h6⟩ := reg_rings h hs hm hr
  have hset := edges_set l (ins_pos h.ins)
  have hsd := ins_sd h.ins
  have hw : (wallsL rs).length ≤ 220 := by
    have a1 := wallsL_len rs
    have a2 := rings_total hset h2
    have a3 := sumN_perm (h3.map List.length)
    have a4 := reg_len h.ins hs
    omega
  have hodd : oddP rs = inL l := by
    funext X Y
    have := rings_odd hset hsd h2 X Y
    rw [← sumL_perm _ h3] at this
    unfold oddP
    rw [this]
    cases inL l X Y <;> rfl
  refine ⟨hw, ?_, fun r hrm => ?_, ?_, ?_⟩
  · have hc := fill_canon hg.ok
    rw [hodd] at hc
    have e1 : fillR (wallsL rs) = l := by
      have := hc.uniq (canonP_canon l (ins_pos h.ins))
      rw [this, h.canon]
    have hl := h.len
    unfold fillV
    rw [if_neg (by have := hg.few; omega), if_neg (by rw [fErr_zero.2 hg.ok]; simp), e1, if_neg (by omega)]
  · obtain ⟨c, hc, rfl⟩ := List.mem_map.1 (h3.mem_iff.1 hrm)
    have hc1 := h2.ring c hc
    have e1 := ring_twice hset hc1
    have e2 := ring_sum hset phA_add hc1
    have e3 := ring_area hset hsd hc1
    refine ⟨?_, by rw [e2]; exact e3⟩
    unfold signedV
    rw [if_pos (hg.ok _ hrm), e1, Int.mul_tdiv_cancel_left _ (by decide)]
  · rw [sumL_perm _ h3, rings_area hset hsd h2]
    have hv : areaP l = sizeP l := by unfold areaP; rw [h.valid (by omega) (by omega)]; rfl
    rw [hv, ← canon_size (P := inL l) (R := l) (by have := canonP_canon l (ins_pos h.ins); rw [h.canon] at this; exact this) s (fun x y hx => by have := hsd x y hx; omega)]
  · rw [sumL_perm _ h3, rings_sum hset phL_add h2]
    unfold bordP
    refine sumL_congr fun e he => ?_
    unfold edS phL len1
    simp only [frOf, toOf]
    omega
end Go.Proofs.YtpcfhcdbibklcaaGreat

namespace Go.Proofs.YtpcfhcdbibklcaaGreat
open Go.RowKit Go.Shelf
set_option linter.unusedVariables false
set_option linter.unusedSimpArgs false

theorem sumL_take (g : List Pt → Int) {rs : List (List Pt)} {i : Nat} (h : i < rs.length) : sumL g (rs.take (i + 1)) = sumL g (rs.take i) + g rs[i] := by
  rw [List.take_succ_eq_append_getElem h, sumL_app, sumL_cons, sumL_nil]
  omega
theorem phL_bd {p q : Pt} (hp : 0 ≤ p.1 ∧ p.1 ≤ 16384 ∧ 0 ≤ p.2 ∧ p.2 ≤ 16384) (hq : 0 ≤ q.1 ∧ q.1 ≤ 16384 ∧ 0 ≤ q.2 ∧ q.2 ≤ 16384) : 0 ≤ phL p q ∧ phL p q ≤ 32768 := by
  unfold phL
  omega
theorem sumTo_bdL {r : List Pt} (h : ∀ p ∈ r, 0 ≤ p.1 ∧ p.1 ≤ 16384 ∧ 0 ≤ p.2 ∧ p.2 ≤ 16384) (hr : 0 < r.length) : ∀ k : Nat, 0 ≤ sumTo phL r k ∧ sumTo phL r k ≤ 32768 * (k : Int)
  | 0 => by simp [sumTo, sumL]
  | k + 1 => by
    have ih := sumTo_bdL h hr k
    have h1 := phL_bd (h _ (at0_mem hr k)) (h _ (at0_mem hr (k + 1)))
    rw [sumTo_succ]
    omega
theorem cyc_bdL {r : List Pt} (h : ringP r = 0) : 0 ≤ cycP phL r ∧ cycP phL r ≤ 13107200 := by
  obtain ⟨h1, h2, h3, _⟩ := ringP_zero h
  have := sumTo_bdL h3 (by omega) r.length
  unfold sumTo at this
  rw [cyc_range] at this
  omega
theorem cyc_bdA {r : List Pt} (h : ringP r = 0) (hs : signedV r = (cycP phA r, 0)) : -(53687091200 : Int) ≤ cycP phA r ∧ cycP phA r ≤ 53687091200 := by
  obtain ⟨h1, h2, h3, _⟩ := ringP_zero h
  have hb := sumTo_bd h3 (by omega) r.length
  unfold sumTo at hb
  rw [cyc_range] at hb
  unfold signedV at hs
  rw [if_pos h] at hs
  have he := (Prod.mk.inj hs).1
  have g1 := Int.tmod_add_mul_tdiv (cycP phS r) 2
  have g2 := Int.lt_tmod_of_pos (cycP phS r) (show (0 : Int) < 2 by omega)
  have g3 := Int.tmod_lt_of_pos (cycP phS r) (show (0 : Int) < 2 by omega)
  rw [he] at g1
  omega
/-- Two boxes filled, one after the other. -/
theorem fill2_at {w : World} {b1 b2 : Nat} {t : TypeId} {x x' y y' z : Value} (h12 : b1 ≠ b2) (p1 : w.heap[b1]? = some (.cells #[z, z] t (0, 0))) (p2 : w.heap[b2]? = some (.cells #[z, z] t (0, 0))) :
    ((((w.setCell ⟨b1, 0, none⟩ x).setCell ⟨b1, 1, none⟩ y).setCell ⟨b2, 0, none⟩ x').setCell ⟨b2, 1, none⟩ y').heap[b1]? = some (.cells #[x, y] t (0, 0)) ∧ ((((w.setCell ⟨b1, 0, none⟩ x).setCell ⟨b1, 1, none⟩ y).setCell ⟨b2, 0, none⟩ x').setCell ⟨b2, 1, none⟩ y').heap[b2]? = some (.cells #[x', y'] t (0, 0)) := by
  refine ⟨?_, ?_⟩
  · rw [box2o h12.symm]; exact box2p p1
  · exact box2p ((box2o h12).trans p2)
set_option maxHeartbeats 0 in
set_option maxRecDepth 100000 in
theorem backLaw (A0 : Option Addr) (n0 c0 : Nat) (zs : List Int) (w : World) (hn : zs.length = n0) (hc : n0 ≤ c0) (hm : c0 ≤ maxLen) (hw : ∀ z ∈ zs, (Lit.int .i64 z).wf = true) (hA : Lies w A0 n0 (zs.map (.int .i64))) :
    Calls Tryz.prog 6 #[.slice A0 n0 c0] w fun e w' => e = .returned (.bool true) ∧ Below w.heap.size w w' := by
  have HN := Lib.hid (new_any A0 n0 c0 zs w hn hc hm hw hA)
  have HAw := Lib.hid (fun W => awake05_any W)
  clear hn hw hA
  go_enter Tryz.func6, Tryz.ntmps6
  go_upto_region 2 with (first
    | (go_at_call 8
       refine HN.out.mono ?_
       rintro e w0 ⟨g, rfl, hg, ht, hb0⟩
       have HT0 := Lib.hid ht
       have Hb0 := Lib.hid hb0
       clear ht hb0)
    | (go_at_call 9
       refine (region_any g _ 9 5 _ HT0.out (by omega) (by omega)).mono ?_
       rintro e w1 ⟨v1, rfl, hown1, -, hg1⟩
       obtain ⟨hreg⟩ : Nonempty (Reg (9 : Nat) 45 (mkReg (zs.take 400) 9 5).1) := ⟨by have := mkReg_reg (zs.take 400) 9 5 (by omega) (by omega) (by omega) (by omega); exact this⟩
       obtain ⟨C, cc, rfl, hC⟩ := SlR.of_own hown1
       obtain ⟨l, hl⟩ : ∃ l, (mkReg (zs.take 400) 9 5).1 = l := ⟨_, rfl⟩
       rw [hl] at hC hreg
       rw [hl]
       obtain ⟨m, hm2⟩ : ∃ m, l.length = m := ⟨_, rfl⟩
       rw [hm2] at hC
       rw [hm2]
       have HC := Lib.hid hC
       have Hb1 : Hid (Below w.heap.size w w1) := Lib.hid (below_only Hb0.out hg1 hg Hb0.out.size)
       have hs1 := Hb1.out.size
       have HR := Lib.hid (fun W (h : SlR W C m cc l) => rings_any C m cc l W h (by have := reg_len hreg.ins (by omega); omega))
       have Hgood : Hid (∀ rs err, RgRes l rs err → err = 0 ∧ GoodR rs ∧ BackR l rs) := Lib.hid (fun rs err h => ⟨(reg_good hreg (by omega) (by omega) h).1, (reg_good hreg (by omega) (by omega) h).2, reg_back hreg (by omega) (by omega) h⟩)
       have HBo : Hid (∀ W, SlR W C m cc l → Calls Tryz.prog 11 #[.agg #[.slice C m cc]] W fun e w' => e = .returned (.tuple #[.int .i64 (bordP l), .int .i64 0]) ∧ Below W.heap.size W w') := Lib.hid (fun W h => by
         have := bordO_any C m cc l W h
         have e : bordV l = (bordP l, 0) := by unfold bordV; rw [hreg.valid (by omega) (by omega)]; rfl
         rw [e] at this
         exact this)
       have HAr := Lib.hid (fun W (h : SlR W C m cc l) => areaR_any C m cc l W h)
       have Hml := Lib.hid hm2
       clear hown1 hg1 hl hC hreg hm2)
    | fail)
  obtain ⟨w2, hw2⟩ : ∃ w2 : World, w2 = w1.alloc (.cells #[.slice C m cc] 25) := ⟨_, rfl⟩
  rw [← hw2]
  have hr2 : w2.heap[w1.heap.size]? = some (.cells #[.slice C m cc] 25 (0, 0)) := by rw [hw2]; exact heap_alloc_new w1 _
  have c2 := cell_of_row w2 w1.heap.size 0 _ _ _ hr2
  have HC2 : Hid (SlR w2 C m cc l) := Lib.hid (by rw [hw2]; exact HC.out.below (by repeat' (first | with_reducible exact Below.refl _ _ | with_reducible refine below_drewN ?_ _ | with_reducible refine Below.drew ?_ | with_reducible refine Below.alloc ?_ ?_ _ | with_reducible refine Below.setCell ?_ ?_ _ | with_reducible refine Below.trans ?_ (Below.mono (by with_reducible assumption) ?_) | (simp; done) | (simp; omega) | omega)))
  have Hb2 : Hid (Below w.heap.size w w2) := Lib.hid (by rw [hw2]; exact Hb1.out.alloc hs1 _)
  have hs2 : w1.heap.size < w2.heap.size := by rw [hw2]; simp
  clear hw2 hr2 HC Hb1 HN Hb0 HT0
  generalize w1.heap.size = G at *
  go_upto_region 3 with (first
    | (go_at_call 13
       refine (HR.out _ HC2.out).mono ?_
       rintro e w3 ⟨v, rs, err, rfl, hrg, hb3, hres⟩
       obtain ⟨rfl, hgood, hback⟩ := Hgood.out _ _ hres
       obtain ⟨RA, rc, rl, rfl, hsl, hrp⟩ := hrg.sl
       rw [← hrp] at hgood hback
       obtain ⟨N, hN⟩ : ∃ N, rs.length = N := ⟨_, rfl⟩
       rw [hN] at hsl
       rw [hN]
       have Hsl := Lib.hid hsl
       have Hgd := Lib.hid hgood
       have Hbk := Lib.hid hback
       have hN55 : N ≤ 55 := by have h1 := hgood.few; have h2 := hsl.len; rw [rgPts_len] at h1; omega
       have Hb3 : Hid (Below w2.heap.size w2 w3) := Lib.hid hb3
       have hs3 := hb3.size
       have c3 := (hb3.cell (p := ⟨G, 0, none⟩) hs2).trans c2
       have HFi : Hid (Calls Tryz.prog 18 #[.slice RA N rc] w3 (RegPost w3 (l, 0))) := Lib.hid (by
         have := fill_any RA N rc rl w3 hsl (fun r hr => by have := hgood.short r hr; omega) (by have := hback.walls; omega)
         rw [hback.fill] at this
         exact this)
       clear hrg hb3 hres hrp hgood hback hsl hN c2)
    | fail)
  have hlen := Hsl.out.len
  clear HR Hgood
  go_upto_region 4 with (first
    | (go_at_call 18
       refine HFi.out.mono ?_
       rintro e w4 ⟨v4, rfl, hown4, hb4⟩
       obtain ⟨F, fc, rfl, hF⟩ := SlR.of_own hown4
       dsimp only at hF ⊢
       rw [Hml.out] at hF
       rw [Hml.out]
       have HF := Lib.hid hF
       have Hb4 : Hid (Below w2.heap.size w2 w4) := Lib.hid (Hb3.out.trans (hb4.mono hs3))
       have Hsl4 := Lib.hid (Hsl.out.below hb4)
       have hs4 := Hb4.out.size
       have c4 := (Hb4.out.cell (p := ⟨G, 0, none⟩) hs2).trans (show w2.cell? ⟨G, 0, none⟩ = some (.slice C m cc) from (Hb3.out.cell (p := ⟨G, 0, none⟩) hs2).symm.trans c3)
       clear hown4 hb4 hF c3)
    | fail)
  obtain ⟨w5, hw5⟩ : ∃ w5 : World, w5 = w4.alloc (.cells #[.slice F m fc] 25) := ⟨_, rfl⟩
  rw [← hw5]
  have hr5 : w5.heap[w4.heap.size]? = some (.cells #[.slice F m fc] 25 (0, 0)) := by rw [hw5]; exact heap_alloc_new w4 _
  have f5 := cell_of_row w5 w4.heap.size 0 _ _ _ hr5
  have Hb5 : Hid (Below w2.heap.size w2 w5) := Lib.hid (by rw [hw5]; exact Hb4.out.alloc hs4 _)
  have HF5 : Hid (SlR w5 F m fc l) := Lib.hid (by rw [hw5]; exact HF.out.below (by repeat' (first | with_reducible exact Below.refl _ _ | with_reducible refine below_drewN ?_ _ | with_reducible refine Below.drew ?_ | with_reducible refine Below.alloc ?_ ?_ _ | with_reducible refine Below.setCell ?_ ?_ _ | with_reducible refine Below.trans ?_ (Below.mono (by with_reducible assumption) ?_) | (simp; done) | (simp; omega) | omega)))
  have hk5 : w4.heap.size < w5.heap.size := by rw [hw5]; simp
  have Hsl5 : Hid (SlRg w5 RA N rc rl) := Lib.hid (by rw [hw5]; exact Hsl4.out.below (by repeat' (first | with_reducible exact Below.refl _ _ | with_reducible refine below_drewN ?_ _ | with_reducible refine Below.drew ?_ | with_reducible refine Below.alloc ?_ ?_ _ | with_reducible refine Below.setCell ?_ ?_ _ | with_reducible refine Below.trans ?_ (Below.mono (by with_reducible assumption) ?_) | (simp; done) | (simp; omega) | omega)))
  clear hw5 hr5 HF
  obtain ⟨K, hK⟩ : ∃ K, w4.heap.size = K := ⟨_, rfl⟩
  rw [hK] at f5 hk5 ⊢
  clear hK
  have c5 := (Hb5.out.cell (p := ⟨G, 0, none⟩) hs2).trans ((Hb4.out.cell (p := ⟨G, 0, none⟩) hs2).symm.trans c4)
  have hs5 := Hb5.out.size
  clear c4 HFi
  go_upto_region 5 with (first
    | (go_at_call 11
       refine (HBo.out _ (HC2.out.below Hb5.out)).mono ?_
       rintro e w6 ⟨rfl, hb6⟩
       have Hb6 : Hid (Below w2.heap.size w2 w6) := Lib.hid (Hb5.out.trans (hb6.mono hs5))
       have f6 := (hb6.cell (p := ⟨K, 0, none⟩) hk5).trans f5
       have HF6 := Lib.hid (HF5.out.below hb6)
       have Hsl6 := Lib.hid (Hsl5.out.below hb6)
       have hs6 := Hb6.out.size
       have c6 := (hb6.cell (p := ⟨G, 0, none⟩) (by show G < _; omega)).trans c5
       have hG6 : G < w6.heap.size := by omega
       clear hb6 f5 c5)
    | fail)
  have HSm : Hid (∀ W, SlR W C m cc l → SlR W F m fc l → Calls Tryz.prog 20 #[.agg #[.slice C m cc], .agg #[.slice F m fc]] W fun e w' => e = .returned (.bool true) ∧ Below W.heap.size W w') := Lib.hid (fun W h1 h2 => by have := sameRef_any C F m cc m fc l l W h1 h2; simpa using this)
  go_upto_region 7 with (first
    | (go_at_call 20
       refine (HSm.out _ (HC2.out.below Hb6.out) HF6.out).mono ?_
       rintro e w7 ⟨rfl, hb7⟩
       have Hb7 : Hid (Below w2.heap.size w2 w7) := Lib.hid (Hb6.out.trans (hb7.mono hs6))
       have c7 := (hb7.cell (p := ⟨G, 0, none⟩) hG6).trans c6
       have Hsl7 := Lib.hid (Hsl6.out.below hb7)
       have hG7 : G < w7.heap.size := by have := hb7.size; omega
       clear hb7 c6 f6)
    | fail)
  have hs7 := Hb7.out.size
  have HC7 := Lib.hid (HC2.out.below Hb7.out)
  have Hsg : Hid (∀ i (h : i < rl.length), signedV rl[i].1 = (cycP phA rl[i].1, 0) ∧ cycP phA rl[i].1 ≠ 0 ∧ ringP rl[i].1 = 0) := Lib.hid fun i h => by
    have hm : rl[i].1 ∈ rgPts rl := List.mem_map.2 ⟨rl[i], List.getElem_mem _, rfl⟩
    exact ⟨(Hbk.out.sgn _ hm).1, (Hbk.out.sgn _ hm).2, Hgd.out.ok _ hm⟩
  obtain ⟨TA, hTA⟩ : ∃ TA : Nat → Int, TA = fun i => sumL (cycP phA) ((rgPts rl).take i) := ⟨_, rfl⟩
  obtain ⟨TL, hTL⟩ : ∃ TL : Nat → Int, TL = fun i => sumL (cycP phL) ((rgPts rl).take i) := ⟨_, rfl⟩
  have HTA : Hid (∀ i (h : i < rl.length), TA (i + 1) = TA i + cycP phA rl[i].1) := Lib.hid fun i h => by
    rw [hTA]
    have := sumL_take (cycP phA) (rs := rgPts rl) (i := i) (by rw [rgPts_len]; exact h)
    simpa [rgPts] using this
  have HTL : Hid (∀ i (h : i < rl.length), TL (i + 1) = TL i + cycP phL rl[i].1) := Lib.hid fun i h => by
    rw [hTL]
    have := sumL_take (cycP phL) (rs := rgPts rl) (i := i) (by rw [rgPts_len]; exact h)
    simpa [rgPts] using this
  have HT0 : Hid (TA 0 = 0 ∧ TL 0 = 0) := Lib.hid (by rw [hTA, hTL]; exact ⟨rfl, rfl⟩)
  have HTN : Hid (TA N = areaP l ∧ TL N = bordP l) := Lib.hid (by
    rw [hTA, hTL]
    have e : (rgPts rl).take N = rgPts rl := List.take_of_length_le (by rw [rgPts_len]; omega)
    dsimp only
    rw [e]
    exact ⟨Hbk.out.area, Hbk.out.len⟩)
  clear hTA hTL Hbk Hgd
  generalize bordP l = BL at *
  generalize areaP l = AL at *
  go_wp2
  go_loopw [10, 11, 55] (fun av lv iv wr => ∃ (i : Nat) (S L : Int), i ≤ N ∧ iv = .int .i64 (i : Int) ∧ av = .int .i64 S ∧ lv = .int .i64 L ∧ Hid (S = TA i ∧ L = TL i) ∧ (-(53687091200 * (i : Int)) ≤ S ∧ S ≤ 53687091200 * (i : Int)) ∧ (0 ≤ L ∧ L ≤ 13107200 * (i : Int)) ∧ Below w7.heap.size w7 wr) (fun _ _ iv _ => N - (intOf iv).toNat)
  case atStart => exact ⟨0, 0, 0, Nat.zero_le _, rfl, rfl, rfl, Lib.hid ⟨HT0.out.1.symm, HT0.out.2.symm⟩, by simp, by simp, Below.refl _ _⟩
  case round =>
    obtain ⟨i, S, L, hi, rfl, rfl, rfl, HSL, hSb, hLb, hbr⟩ := hrel
    have Hbr := Lib.hid hbr
    have hsr := hbr.size
    clear hbr
    by_cases hiN : i < N
    · have hiN' : (i : Int) < (N : Int) := by omega
      have hil : i < rl.length := by omega
      obtain ⟨b, off, rfl, hb, r0, hpt⟩ := (Hsl7.out.below Hbr.out).at i hil
      obtain ⟨hsg, hsn, hrz⟩ := Hsg.out i hil
      have Hta := Lib.hid (HTA.out i hil)
      have Htl := Lib.hid (HTL.out i hil)
      have hab := cyc_bdA hrz hsg
      have hlb := cyc_bdL hrz
      obtain ⟨p4, p400, ppt, _⟩ := ringP_zero hrz
      have hcr := cyc_range phL rl[i].1
      generalize rl[i] = x at *
      obtain ⟨p, hv⟩ := x
      dsimp only at *
      obtain ⟨M, hM⟩ : ∃ M, p.length = M := ⟨_, rfl⟩
      have HM := Lib.hid hM
      have Hpt := Lib.hid hpt
      rw [hM] at r0 Hpt p4 p400
      have HSi := Lib.hid (fun W (h : SlPt W hv.a M hv.c p) => signedO_any hv.a M hv.c p W h)
      rw [hsg] at HSi
      have Hppt := Lib.hid ppt
      have Hcr : Hid (sumTo phL p M = cycP phL p) := Lib.hid (by rw [← hM]; exact hcr)
      generalize cycP phA p = sg at *
      generalize cycP phL p = lg at *
      obtain ⟨S2, hS2⟩ : ∃ S2, S + sg = S2 := ⟨_, rfl⟩
      have hwS : IntKind.i64.wrap (S + sg) = S2 := by rw [← hS2]; exact IntWalk.i64_in _ (by omega)
      have HS2 : Hid (S2 = TA (i + 1)) := Lib.hid (by rw [Hta.out, ← HSL.out.1, hS2])
      have hS2b : -(53687091200 * ((i + 1 : Nat) : Int)) ≤ S2 ∧ S2 ≤ 53687091200 * ((i + 1 : Nat) : Int) := by omega
      obtain ⟨wo, hwo⟩ : ∃ wo : World, wo = wr := ⟨_, rfl⟩
      rw [← hwo] at Hbr hsr hb r0 Hpt ⊢
      clear hM hpt hsg hrz ppt hcr hwo hS2 Hta hab
      go_upto_region 15 with (first
        | (go_at_call 21
           refine (HSi.out _ Hpt.out).mono ?_
           rintro e w8 ⟨rfl, hb8⟩
           have Hb8 : Hid (Below wo.heap.size wo w8) := Lib.hid hb8
           clear hb8 r0)
        | fail)
      have hs8 := Hb8.out.size
      go_wp2
      have hsg0 : (sg == 0) = false := by simpa using hsn
      simp only [hsg0]
      go_loopw [11, 75] (fun lv kv wr => ∃ (k : Nat) (L2 : Int), k ≤ M ∧ kv = .int .i64 (k : Int) ∧ lv = .int .i64 L2 ∧ Hid (L2 = L + sumTo phL p k) ∧ (0 ≤ L2 ∧ L2 ≤ L + 32768 * (k : Int)) ∧ Below wo.heap.size wo wr) (fun _ kv _ => M - (intOf kv).toNat)
      case atStart => exact ⟨0, L, Nat.zero_le _, rfl, rfl, Lib.hid (by simp [sumTo, sumL]), ⟨hLb.1, by simp⟩, Hb8.out⟩
      case round =>
        obtain ⟨k, L2, hk, rfl, rfl, HL2, hL2b, hbk⟩ := hrel
        have Hbk := Lib.hid hbk
        have hsk := hbk.size
        clear hbk
        by_cases hkM : k < M
        · have hkM' : (k : Int) < (M : Int) := by omega
          have hkl : k < p.length := by have := HM.out; omega
          have hM0 : 0 < M := by omega
          obtain ⟨x, hx⟩ : ∃ x, (k + 1) % M = x := ⟨_, rfl⟩
          have hxM : x < M := by rw [← hx]; exact Nat.mod_lt _ hM0
          have hxl : x < p.length := by have := HM.out; omega
          have hrem := rem_succ k M
          rw [hx] at hrem
          have hw1 : IntKind.i64.wrap ((k : Int) + 1) = (k : Int) + 1 := IntWalk.i64_in _ (by omega)
          have hxM' : (x : Int) < (M : Int) := by omega
          have hnz : ¬ (M : Int) = 0 := by omega
          have hnz' : ¬ M = 0 := by omega
          have hwx : IntKind.i64.wrap (x : Int) = (x : Int) := IntWalk.i64_in _ (by omega)
          have hwr : IntKind.i64.wrap (((k : Int) + 1).tmod (M : Int)) = (x : Int) := by rw [hrem]; exact hwx
          have hx0 : (0 : Int) ≤ (x : Int) := by omega
          have hk0 : (0 : Int) ≤ (k : Int) := by omega
          obtain ⟨pb, po, e1, hb0, p0, p1⟩ := (Hpt.out.below Hbk.out).at k hkl
          obtain ⟨_, _, e2, -, q0, q1⟩ := (Hpt.out.below Hbk.out).at x hxl
          have He1 := Lib.hid e1
          rw [e1]
          rw [e1] at e2
          injection e2 with e2
          injection e2 with e2 e2'
          subst e2 e2'
          have hpb := Hppt.out _ (List.getElem_mem hkl)
          have hqb := Hppt.out _ (List.getElem_mem hxl)
          have Hst : Hid (sumTo phL p (k + 1) = sumTo phL p k + phL p[k] p[x]) := Lib.hid (by
            have g1 : at0 p k = p[k] := at0_lt p hkl
            have g2 : at0 p (k + 1) = p[x] := by rw [← at0_mod, HM.out, hx, at0_lt p hxl]
            rw [sumTo_succ, g1, g2])
          generalize p[k] = pk at *
          generalize p[x] = px at *
          obtain ⟨ax, ay⟩ := pk
          obtain ⟨bx, by'⟩ := px
          dsimp only at *
          have hph : phL (ax, ay) (bx, by') = max (ax - bx) (bx - ax) + max (ay - by') (by' - ay) := rfl
          rw [hph] at Hst
          clear e1 hx hph
          have hbr : pb < wr.heap.size := by omega
          have hst : wr.heap.size = wr.heap.size := rfl
          go_upto_region 18 with fail
          go_cut [17, 18] (fun s17 s18 wx => ∃ b1 b2 : Nat, s17 = .pointer (some ⟨b1, 0, none⟩) ∧ s18 = .pointer (some ⟨b2, 0, none⟩) ∧ wx.heap[b1]? = some (.cells #[.int .i64 ax, .int .i64 ay] 43 (0, 0)) ∧ wx.heap[b2]? = some (.cells #[.int .i64 bx, .int .i64 by'] 43 (0, 0)) ∧ Below wr.heap.size wr wx)
          case first =>
            have HSb : Hid (∀ wy, Below wr.heap.size wr wy → (fun wy => wy.cell? ⟨pb, po + k * 2, none⟩ = some (.int .i64 ax) ∧ wy.cell? ⟨pb, po + k * 2 + 1, none⟩ = some (.int .i64 ay) ∧ wy.cell? ⟨pb, po + x * 2, none⟩ = some (.int .i64 bx) ∧ wy.cell? ⟨pb, po + x * 2 + 1, none⟩ = some (.int .i64 by')) wy) := Lib.hid (fun wy hy => ⟨(hy.cell (p := ⟨pb, po + k * 2, none⟩) hbr).trans p0, (hy.cell (p := ⟨pb, po + k * 2 + 1, none⟩) hbr).trans p1, (hy.cell (p := ⟨pb, po + x * 2, none⟩) hbr).trans q0, (hy.cell (p := ⟨pb, po + x * 2 + 1, none⟩) hbr).trans q1⟩)
            clear p0 p1 q0 q1
            refine wp_region_noPanic ?_
            refine wp_region_held_drew (S := fun wy => wy.cell? ⟨pb, po + k * 2, none⟩ = some (.int .i64 ax) ∧ wy.cell? ⟨pb, po + k * 2 + 1, none⟩ = some (.int .i64 ay) ∧ wy.cell? ⟨pb, po + x * 2, none⟩ = some (.int .i64 bx) ∧ wy.cell? ⟨pb, po + x * 2 + 1, none⟩ = some (.int .i64 by')) (by kernel_rfl) (HSb.out _ (by repeat' (first | with_reducible exact Below.refl _ _ | with_reducible refine below_drewN ?_ _ | with_reducible refine Below.drew ?_ | with_reducible refine Below.alloc ?_ ?_ _ | with_reducible refine Below.setCell ?_ ?_ _ | with_reducible refine Below.trans ?_ (Below.mono (by with_reducible assumption) ?_) | (simp; done) | (simp; omega) | omega))) (fun hHeld => ?_)
            refine wpAnyH_take (i := 0) (v := ?vva0) rfl (by kernel_rfl) (by kernel_rfl) (by kernel_rfl) (fun _ _ _ h => h) (Or.inl ⟨by rfl, ?hya0⟩) hHeld ?resta0; (case hya0 => (intro w hSw; (try dsimp only at hSw); go_simp; all_goals (with_reducible rfl))); simp only [Act.put, List.setIfInBounds_toArray, List.set_cons_zero, List.set_cons_succ]
            refine wpAnyH_take (i := 1) (v := ?vva1) rfl (by kernel_rfl) (by kernel_rfl) (by kernel_rfl) (fun _ _ _ h => h) (Or.inl ⟨by rfl, ?hya1⟩) hHeld ?resta1; (case hya1 => (intro w hSw; (try dsimp only at hSw); go_simp; all_goals (with_reducible rfl))); simp only [Act.put, List.setIfInBounds_toArray, List.set_cons_zero, List.set_cons_succ]
            refine wpAnyH_take (i := 2) (v := ?vva2) rfl (by kernel_rfl) (by kernel_rfl) (by kernel_rfl) (fun _ _ _ h => h) (Or.inl ⟨by rfl, ?hya2⟩) hHeld ?resta2; (case hya2 => (intro w hSw; (try dsimp only at hSw); go_simp; all_goals (with_reducible rfl))); simp only [Act.put, List.setIfInBounds_toArray, List.set_cons_zero, List.set_cons_succ]
            refine wpAnyH_take (i := 3) (v := ?vva3) rfl (by kernel_rfl) (by kernel_rfl) (by kernel_rfl) (fun _ _ _ h => h) (Or.inl ⟨by rfl, ?hya3⟩) hHeld ?resta3; (case hya3 => (intro w hSw; (try dsimp only at hSw); go_simp; all_goals (with_reducible rfl))); simp only [Act.put, List.setIfInBounds_toArray, List.set_cons_zero, List.set_cons_succ]
            refine wpAnyH_take (i := 4) (v := ?vva4) rfl (by kernel_rfl) (by kernel_rfl) (by kernel_rfl) (fun _ _ _ h => h) (Or.inl ⟨by rfl, ?hya4⟩) hHeld ?resta4; (case hya4 => (intro w hSw; (try dsimp only at hSw); go_simp; all_goals (with_reducible rfl))); simp only [Act.put, List.setIfInBounds_toArray, List.set_cons_zero, List.set_cons_succ]
            refine wpAnyH_take (i := 5) (v := ?vva5) rfl (by kernel_rfl) (by kernel_rfl) (by kernel_rfl) (fun _ _ _ h => h) (Or.inl ⟨by rfl, ?hya5⟩) hHeld ?resta5; (case hya5 => (intro w hSw; (try dsimp only at hSw); go_simp; all_goals (with_reducible rfl))); simp only [Act.put, List.setIfInBounds_toArray, List.set_cons_zero, List.set_cons_succ]
            refine wpAnyH_take (i := 6) (v := ?vva6) rfl (by kernel_rfl) (by kernel_rfl) (by kernel_rfl) (fun _ _ _ h => h) (Or.inl ⟨by rfl, ?hya6⟩) hHeld ?resta6; (case hya6 => (intro w hSw; (try dsimp only at hSw); go_simp; all_goals (with_reducible rfl))); simp only [Act.put, List.setIfInBounds_toArray, List.set_cons_zero, List.set_cons_succ]
            refine wpAnyH_take (i := 7) (v := ?vva7) rfl (by kernel_rfl) (by kernel_rfl) (by kernel_rfl) (fun _ _ _ h => h) (Or.inl ⟨by rfl, ?hya7⟩) hHeld ?resta7; (case hya7 => (intro w hSw; (try dsimp only at hSw); go_simp; all_goals (with_reducible rfl))); simp only [Act.put, List.setIfInBounds_toArray, List.set_cons_zero, List.set_cons_succ]
            refine wpAnyH_take (i := 8) (v := ?vva8) rfl (by kernel_rfl) (by kernel_rfl) (by kernel_rfl) (fun _ _ _ h => h) (Or.inl ⟨by rfl, ?hya8⟩) hHeld ?resta8; (case hya8 => (intro w hSw; (try dsimp only at hSw); go_simp; all_goals (with_reducible rfl))); simp only [Act.put, List.setIfInBounds_toArray, List.set_cons_zero, List.set_cons_succ]
            refine wpAnyH_take (i := 9) (v := ?vva9) rfl (by kernel_rfl) (by kernel_rfl) (by kernel_rfl) (fun _ _ _ h => h) (Or.inl ⟨by rfl, ?hya9⟩) hHeld ?resta9; (case hya9 => (intro w hSw; (try dsimp only at hSw); go_simp; all_goals (with_reducible rfl))); simp only [Act.put, List.setIfInBounds_toArray, List.set_cons_zero, List.set_cons_succ]
            refine wpAnyH_take (i := 10) (v := ?vva10) rfl (by kernel_rfl) (by kernel_rfl) (by kernel_rfl) (fun _ _ _ h => h) (Or.inl ⟨by rfl, ?hya10⟩) hHeld ?resta10; (case hya10 => (intro w hSw; (try dsimp only at hSw); go_simp; all_goals (with_reducible rfl))); simp only [Act.put, List.setIfInBounds_toArray, List.set_cons_zero, List.set_cons_succ]
            refine wpAnyH_take (i := 11) (v := ?vva11) rfl (by kernel_rfl) (by kernel_rfl) (by kernel_rfl) (fun _ _ _ h => h) (Or.inl ⟨by rfl, ?hya11⟩) hHeld ?resta11; (case hya11 => (intro w hSw; (try dsimp only at hSw); go_simp; all_goals (with_reducible rfl))); simp only [Act.put, List.setIfInBounds_toArray, List.set_cons_zero, List.set_cons_succ]
            refine allocs_any2 (.cells #[.int .i64 0, .int .i64 0] 43) wr.drew [(12, 17), (13, 18)] 2 _ _ (by decide) (by decide) ?hop (by kernel_rfl) (fun wy hy => ?hsk) hHeld ?hrest
            case hop =>
              intro it hit K a0 wy hK
              simp only [List.mem_cons, List.not_mem_nil, or_false] at hit
              rcases hit with rfl | rfl
              all_goals
                refine wpOp_step rfl (fun K' hK' => ?_)
                go_simp
                exact hK' _ _ hK
            case hsk =>
              obtain ⟨h1, h2, h3, h4⟩ := hy
              exact ⟨(World.cell?_alloc_some _ _ _ (by rw [h1]; rfl)).trans h1, (World.cell?_alloc_some _ _ _ (by rw [h2]; rfl)).trans h2, (World.cell?_alloc_some _ _ _ (by rw [h3]; rfl)).trans h3, (World.cell?_alloc_some _ _ _ (by rw [h4]; rfl)).trans h4⟩
            case hrest =>
              intro β wy hby hβ hinj hHeld
              have f1 : wr.heap.size ≤ β 12 ∧ _ := hβ (12, 17) (by simp)
              have f2 : wr.heap.size ≤ β 13 ∧ _ := hβ (13, 18) (by simp)
              obtain ⟨f1, p1⟩ := f1
              obtain ⟨f2, p2⟩ := f2
              have n12 : β 12 ≠ β 13 := fun e => by have := hinj (12, 17) (by simp) (13, 18) (by simp) e; simp at this
              have Hbx : Hid (Below wr.heap.size wr wy) := Lib.hid ((Below.refl _ wr).drew.trans hby)
              clear hβ hinj hby
              simp only [List.map_cons, List.map_nil, setAll, putAll, List.foldl_cons, List.foldl_nil, Act.put, List.setIfInBounds_toArray, List.set_cons_zero, List.set_cons_succ]
              simp only at p1 p2
              have P1 := Lib.hid p1
              have P2 := Lib.hid p2
              have m12 := n12.symm
              have a10 := cell_of_row wy (β 12) 0 _ _ _ p1
              have z10 := frozen_of_row wy (β 12) 0 _ _ p1
              have a11 := cell_of_row wy (β 12) 1 _ _ _ p1
              have z11 := frozen_of_row wy (β 12) 1 _ _ p1
              have a20 := cell_of_row wy (β 13) 0 _ _ _ p2
              have z20 := frozen_of_row wy (β 13) 0 _ _ p2
              have a21 := cell_of_row wy (β 13) 1 _ _ _ p2
              have z21 := frozen_of_row wy (β 13) 1 _ _ p2
              clear p1 p2
              refine wpAnyH_ready (rs := [14]) (by kernel_rfl) (by simp) ?_; refine AllReadyH.cons rfl (fun K hK => ?_) AllReadyH.nil
              go_simp
              refine hK.out _ _ (HSb.out _ (by have hbx := Hbx.out; repeat' (first | with_reducible exact hbx | with_reducible refine Below.setCell ?_ ?_ _ | with_reducible assumption))) (fun hHeld => ?_)
              clear hK K
              (try simp only [Act.put, List.setIfInBounds_toArray, List.set_cons_zero, List.set_cons_succ])
              refine wpAnyH_ready (rs := [15]) (by kernel_rfl) (by simp) ?_; refine AllReadyH.cons rfl (fun K hK => ?_) AllReadyH.nil
              go_simp
              refine hK.out _ _ (HSb.out _ (by have hbx := Hbx.out; repeat' (first | with_reducible exact hbx | with_reducible refine Below.setCell ?_ ?_ _ | with_reducible assumption))) (fun hHeld => ?_)
              clear hK K
              (try simp only [Act.put, List.setIfInBounds_toArray, List.set_cons_zero, List.set_cons_succ])
              refine wpAnyH_done (by kernel_rfl) ?_ _
              refine NoPanic.normal ?_
              go_wp2
              go_meet
              case rel =>
                obtain ⟨q1, q2⟩ := fill2_at (x := .int .i64 ax) (x' := .int .i64 bx) (y := .int .i64 ay) (y' := .int .i64 by') n12 P1.out P2.out
                exact ⟨β 12, β 13, rfl, rfl, q1, q2, ((((Hbx.out.setCell f1 _).setCell f1 _).setCell f2 _).setCell f2 _)⟩
          case rest =>
            obtain ⟨wx, rfl⟩ : ∃ wx : World, wx = wc := ⟨_, rfl⟩
            obtain ⟨b1, b2, rfl, rfl, g1, g2, hbx⟩ := hcut
            have Hbx : Hid (Below wo.heap.size wo wx) := Lib.hid (Hbk.out.trans (hbx.mono hsk))
            have a10 := cell_of_row wx b1 0 _ _ _ g1
            have a11 := cell_of_row wx b1 1 _ _ _ g1
            have a20 := cell_of_row wx b2 0 _ _ _ g2
            have a21 := cell_of_row wx b2 1 _ _ _ g2
            clear g1 g2 hbx p0 p1 q0 q1
            have wd1 : IntKind.i64.wrap (ax - bx) = ax - bx := IntWalk.i64_in _ (by omega)
            have wd2 : IntKind.i64.wrap (bx - ax) = bx - ax := IntWalk.i64_in _ (by omega)
            have wd3 : IntKind.i64.wrap (ay - by') = ay - by' := IntWalk.i64_in _ (by omega)
            have wd4 : IntKind.i64.wrap (by' - ay) = by' - ay := IntWalk.i64_in _ (by omega)
            obtain ⟨mx, hmx⟩ : ∃ mx, max (ax - bx) (bx - ax) = mx := ⟨_, rfl⟩
            obtain ⟨my, hmy⟩ : ∃ my, max (ay - by') (by' - ay) = my := ⟨_, rfl⟩
            have hmb : 0 ≤ mx ∧ mx ≤ 16384 ∧ 0 ≤ my ∧ my ≤ 16384 := by omega
            rw [hmx, hmy] at Hst
            have wm : IntKind.i64.wrap (mx + my) = mx + my := IntWalk.i64_in _ (by omega)
            obtain ⟨L3, hL3⟩ : ∃ L3, L2 + (mx + my) = L3 := ⟨_, rfl⟩
            have ws : IntKind.i64.wrap (L2 + (mx + my)) = L3 := by rw [hL3]; exact IntWalk.i64_in _ (by omega)
            have HL3 : Hid (L3 = L + sumTo phL p (k + 1)) := Lib.hid (by rw [Hst.out, ← hL3, HL2.out]; omega)
            have hL3b : 0 ≤ L3 ∧ L3 ≤ L + 32768 * ((k + 1 : Nat) : Int) := by omega
            clear hL3
            have hwk : IntKind.i64.wrap ((k : Int) + 1) = (k : Int) + 1 := hw1
            go_upto_region 20 with fail
            go_wp2
            go_roundw
            case rel => exact ⟨k + 1, L3, by omega, by go_num, rfl, HL3, hL3b, Hbx.out⟩
            case measure => simp [intOf]; omega
        · obtain rfl : k = M := by omega
          have hkM' : ¬ (k : Int) < (k : Int) := by omega
          have hwi : IntKind.i64.wrap ((i : Int) + 1) = (i : Int) + 1 := IntWalk.i64_in _ (by omega)
          have HL4 : Hid (L2 = TL (i + 1)) := Lib.hid (by rw [HL2.out, Hcr.out, Htl.out, HSL.out.2])
          have hL4b : 0 ≤ L2 ∧ L2 ≤ 13107200 * ((i + 1 : Nat) : Int) := by omega
          go_wp2
          go_roundw
          case rel => exact ⟨i + 1, S2, L2, by omega, by go_num, rfl, rfl, Lib.hid ⟨HS2.out, HL4.out⟩, hS2b, hL4b, Hbr.out.trans (Hbk.out.mono hsr)⟩
          case measure => simp [intOf]; omega
    · obtain rfl : i = N := by omega
      have hiN' : ¬ (i : Int) < (i : Int) := by omega
      have hSA : S = AL := HSL.out.1.trans HTN.out.1
      have hLB : L = BL := HSL.out.2.trans HTN.out.2
      subst hSA hLB
      have c8 := (Hbr.out.cell (p := ⟨G, 0, none⟩) hG7).trans c7
      have HC8 := Lib.hid (HC7.out.below Hbr.out)
      go_wp2_with (first
        | (go_at_call 26
           refine (HAr.out _ HC8.out).mono ?_
           rintro e w8 ⟨rfl, hb8⟩
           have Hb8 : Hid (Below w.heap.size w w8) := Lib.hid (Hb2.out.trans ((Hb7.out.trans ((Hbr.out.trans (hb8.mono hsr)).mono hs7)).mono Hb2.out.size))
           clear hb8 c8)
        | (go_at_call 12
           refine (HAw.out _).mono ?_
           rintro e w9 ⟨rfl, hb9⟩
           have Hb9 : Hid (Below w.heap.size w w9) := Lib.hid (Hb8.out.trans (hb9.mono Hb8.out.size))
           clear hb9)
        | fail)
      go_ret
      exact ⟨rfl, Hb9.out⟩
end Go.Proofs.YtpcfhcdbibklcaaGreat
