/- Contract: Signed (outline). -/
import Derived.Test.YtpcfhcdbibklcaaGreatAA
import Derived.Test.YtpcfhcdbibklcaaGreatAB
import Derived.Test.YtpcfhcdbibklcaaGreatAC
import Derived.Test.YtpcfhcdbibklcaaGreatAG
import Derived.Test.YtpcfhcdbibklcaaGreatAH
namespace Go.Proofs.YtpcfhcdbibklcaaGreat
open Go.RowKit Go.Shelf
set_option linter.unusedVariables false
set_option linter.unusedSimpArgs false

/-- A sum around a ring, corner by corner. -/
theorem cyc_range (φ : Pt → Pt → Int) (r : List Pt) : sumL (fun i => φ (at0 r i) (at0 r (i + 1))) (List.range r.length) = cycP φ r := by
  cases r with
  | nil => rfl
  | cons a t =>
    have key : ∀ (t : List Pt) (a z : Pt), sumL (fun i => φ ((a :: t).getD i (0, 0)) ((t ++ [z]).getD i (0, 0))) (List.range (t.length + 1)) = sumP φ a t z := fun t => by
      induction t with
      | nil => intro a z; simp [sumL, sumP, List.range_succ]
      | cons b t ih =>
        intro a z
        rw [List.length_cons, List.range_succ_eq_map, sumL_cons, sumL_map]
        have h := ih b z
        show φ a b + _ = φ a b + sumP φ b t z
        rw [← h]
        rfl
    show _ = sumP φ a t a
    rw [← key t a a, List.length_cons]
    refine sumL_congr fun i hi => ?_
    have hi : i < t.length + 1 := List.mem_range.1 hi
    have e1 : at0 (a :: t) i = (a :: t).getD i (0, 0) := by unfold at0 atC; rw [List.length_cons, Nat.mod_eq_of_lt hi]
    have e2 : at0 (a :: t) (i + 1) = (t ++ [a]).getD i (0, 0) := by
      unfold at0 atC
      rw [List.length_cons]
      rcases Nat.lt_or_ge i t.length with h2 | h2
      · rw [Nat.mod_eq_of_lt (by omega)]
        simp [List.getD_eq_getElem?_getD, List.getElem?_append_left h2]
      · have : i = t.length := by omega
        subst this
        rw [Nat.mod_self]
        simp [List.getD_eq_getElem?_getD]
    rw [e1, e2]
def sumTo (φ : Pt → Pt → Int) (r : List Pt) (k : Nat) : Int := sumL (fun i => φ (at0 r i) (at0 r (i + 1))) (List.range k)
theorem sumTo_succ (φ : Pt → Pt → Int) (r : List Pt) (k : Nat) : sumTo φ r (k + 1) = sumTo φ r k + φ (at0 r k) (at0 r (k + 1)) := sumL_range_succ _ k
theorem ringP_zero {r : List Pt} (h : ringP r = 0) : 4 ≤ r.length ∧ r.length ≤ 400 ∧ (∀ p ∈ r, 0 ≤ p.1 ∧ p.1 ≤ 16384 ∧ 0 ≤ p.2 ∧ p.2 ≤ 16384) ∧ ∀ i, i < r.length → fineAt r i = true := by
  unfold ringP at h
  split at h
  · cases h
  · split at h
    · cases h
    · split at h
      · cases h
      · next h3 =>
        split at h
        · next h4 =>
          refine ⟨by omega, by omega, fun p hp => ?_, fun i hi => List.all_eq_true.1 h4 i (List.mem_range.2 hi)⟩
          have := List.all_eq_true.1 (by simpa using h3) p hp
          simp only [ptOk, Bool.and_eq_true, decide_eq_true_eq] at this
          omega
        · cases h
theorem at0_mem {r : List Pt} (h : 0 < r.length) (i : Nat) : at0 r i ∈ r := by
  have hm := Nat.mod_lt i h
  unfold at0 atC
  rw [List.getD_eq_getElem?_getD, List.getElem?_eq_getElem hm]
  exact List.getElem_mem hm
theorem prod_bd {a b : Int} (ha : 0 ≤ a ∧ a ≤ 16384) (hb : 0 ≤ b ∧ b ≤ 16384) : 0 ≤ a * b ∧ a * b ≤ 268435456 := by
  refine ⟨Int.mul_nonneg ha.1 hb.1, ?_⟩
  have h1 := Int.mul_le_mul_of_nonneg_left hb.2 ha.1
  have h2 : a * 16384 ≤ 16384 * 16384 := Int.mul_le_mul_of_nonneg_right ha.2 (by omega)
  omega
theorem sumTo_bd {r : List Pt} (h : ∀ p ∈ r, 0 ≤ p.1 ∧ p.1 ≤ 16384 ∧ 0 ≤ p.2 ∧ p.2 ≤ 16384) (hr : 0 < r.length) : ∀ k : Nat, -(268435456 * (k : Int)) ≤ sumTo phS r k ∧ sumTo phS r k ≤ 268435456 * (k : Int)
  | 0 => by simp [sumTo, sumL]
  | k + 1 => by
    have ih := sumTo_bd h hr k
    have h1 := h _ (at0_mem hr k)
    have h2 := h _ (at0_mem hr (k + 1))
    have b1 := prod_bd ⟨h1.1, h1.2.1⟩ ⟨h2.2.2.1, h2.2.2.2⟩
    have b2 := prod_bd ⟨h1.2.2.1, h1.2.2.2⟩ ⟨h2.1, h2.2.1⟩
    rw [sumTo_succ, show phS (at0 r k) (at0 r (k + 1)) = (at0 r k).1 * (at0 r (k + 1)).2 - (at0 r k).2 * (at0 r (k + 1)).1 from rfl]
    omega
/-- outline.Signed. -/
def signedV (r : List Pt) : Int × Int := if ringP r = 0 then ((cycP phS r).tdiv 2, 0) else (0, ringP r)
theorem ringP_cases (r : List Pt) : ringP r = 0 ∨ ringP r = 1 ∨ ringP r = 2 ∨ ringP r = 8 := by
  unfold ringP
  split
  · simp
  · split
    · simp
    · split
      · simp
      · split <;> simp
set_option maxHeartbeats 4000000 in
set_option maxRecDepth 100000 in
theorem signedO_any (A : Option Addr) (n c : Nat) (r : List Pt) (w : World) (hA : SlPt w A n c r) :
    Calls Tryz.prog 21 #[.slice A n c] w fun e w' => e = .returned (.tuple #[.int .i64 (signedV r).1, .int .i64 (signedV r).2]) ∧ Below w.heap.size w w' := by
  have hn := hA.len
  have HA := Lib.hid hA
  have HR := Lib.hid (fun W (h : SlPt W A n c r) => ring_any A n c r W h)
  clear hA
  by_cases h0 : ringP r = 0
  · have Hv : Hid (signedV r = ((cycP phS r).tdiv 2, 0)) := Lib.hid (if_pos h0)
    obtain ⟨g4, g400, gpt, _⟩ := ringP_zero h0
    rw [h0] at HR
    have Hbd := Lib.hid (fun k => sumTo_bd gpt (by omega) k)
    have Hpt := Lib.hid (fun i (hi : i < r.length) => gpt _ (List.getElem_mem hi))
    have Hend : Hid (sumTo phS r n = cycP phS r) := Lib.hid (by rw [← hn]; exact cyc_range phS r)
    have Hn := Lib.hid hn
    have hn4 : 4 ≤ n := by omega
    have hn400 : n ≤ 400 := by omega
    rw [Hv.out]
    clear h0 gpt g4 g400 hn Hv
    generalize cycP phS r = S at *
    have hSb : -(268435456 * (n : Int)) ≤ S ∧ S ≤ 268435456 * (n : Int) := by have := Hbd.out n; rw [Hend.out] at this; exact this
    obtain ⟨V, hV⟩ : ∃ V, S.tdiv 2 = V := ⟨_, rfl⟩
    have Hq : Hid (wrap64 (S.tdiv 2) = V) := Lib.hid (by
      rw [← hV]
      have h1 := Int.tmod_add_mul_tdiv S 2
      have h2 := Int.lt_tmod_of_pos S (show (0 : Int) < 2 by omega)
      have h3 := Int.tmod_lt_of_pos S (show (0 : Int) < 2 by omega)
      unfold wrap64
      omega)
    rw [hV]
    have HV := Lib.hid hV
    clear hV
    go_enter Tryz.func21, Tryz.ntmps21
    go_upto_region 5 with (first
      | (go_at_call 14
         refine (HR.out _ (HA.out.below (by repeat' (first | with_reducible exact Below.refl _ _ | with_reducible refine below_drewN ?_ _ | with_reducible refine Below.drew ?_ | with_reducible refine Below.alloc ?_ ?_ _ | with_reducible refine Below.setCell ?_ ?_ _ | with_reducible refine Below.trans ?_ (Below.mono (by with_reducible assumption) ?_) | (simp; done) | (simp; omega) | omega)))).mono ?_
         rintro e w1 ⟨rfl, hb1⟩
         have Hb1 : Hid (Below w.heap.size w w1) := Lib.hid (by have hbq := hb1; exact (by repeat' (first | with_reducible exact Below.refl _ _ | with_reducible assumption | with_reducible refine below_drewN ?_ _ | with_reducible refine Below.drew ?_ | with_reducible refine Below.alloc ?_ ?_ _ | with_reducible refine Below.setCell ?_ ?_ _ | with_reducible refine Below.trans ?_ (Below.mono (by with_reducible assumption) ?_) | with_reducible refine below_only ?_ (by with_reducible assumption) ?_ ?_ | (simp; done) | (simp; omega) | omega)))
         clear hb1)
      | fail)
    have HA1 := Lib.hid (HA.out.below Hb1.out)
    have hs1 := Hb1.out.size
    clear HR
    go_wp2
    go_loopw [5, 16] (fun sv iv wr => ∃ (k : Nat) (Z : Int), k ≤ n ∧ iv = .int .i64 (k : Int) ∧ sv = .int .i64 Z ∧ Hid (Z = sumTo phS r k) ∧ Below w.heap.size w wr) (fun _ iv _ => n - (intOf iv).toNat)
    case atStart => exact ⟨0, 0, Nat.zero_le _, rfl, rfl, Lib.hid rfl, Hb1.out⟩
    case round =>
      obtain ⟨k, Z, hk, rfl, rfl, HZ, hbw⟩ := hrel
      have Hbw := Lib.hid hbw
      have hsw := hbw.size
      clear hbw
      by_cases hkn : k < n
      · have hkn' : (k : Int) < (n : Int) := by omega
        have hkl : k < r.length := by have := Hn.out; omega
        have hn0 : 0 < n := by omega
        obtain ⟨x, hx⟩ : ∃ x, (k + 1) % n = x := ⟨_, rfl⟩
        have hxn : x < n := by rw [← hx]; exact Nat.mod_lt _ hn0
        have hxl : x < r.length := by have := Hn.out; omega
        have hrem := rem_succ k n
        rw [hx] at hrem
        have hw1 : IntKind.i64.wrap ((k : Int) + 1) = (k : Int) + 1 := IntWalk.i64_in _ (by omega)
        have hxn' : (x : Int) < (n : Int) := by omega
        have hnz : ¬ (n : Int) = 0 := by omega
        obtain ⟨b, off, e1, hb0, p0, p1⟩ := (HA.out.below Hbw.out).at k hkl
        obtain ⟨_, _, e2, -, q0, q1⟩ := (HA.out.below Hbw.out).at x hxl
        subst e1
        injection e2 with e2
        injection e2 with e2 e2'
        subst e2 e2'
        have hpb := Hpt.out k hkl
        have hqb := Hpt.out x hxl
        have Hst : Hid (sumTo phS r (k + 1) = Z + (r[k].1 * r[x].2 - r[k].2 * r[x].1)) := Lib.hid (by
          have e1 : at0 r k = r[k] := at0_lt r hkl
          have e2 : at0 r (k + 1) = r[x] := by rw [← at0_mod, Hn.out, hx, at0_lt r hxl]
          rw [sumTo_succ, HZ.out, e1, e2]
          rfl)
        have hZb := Hbd.out k
        rw [← HZ.out] at hZb
        generalize r[k] = p at *
        generalize r[x] = q at *
        obtain ⟨px, py⟩ := p
        obtain ⟨qx, qy⟩ := q
        dsimp only at *
        have b1 := prod_bd ⟨hpb.1, hpb.2.1⟩ ⟨hqb.2.2.1, hqb.2.2.2⟩
        have b2 := prod_bd ⟨hpb.2.2.1, hpb.2.2.2⟩ ⟨hqb.1, hqb.2.1⟩
        obtain ⟨u, hu⟩ : ∃ u, px * qy = u := ⟨_, rfl⟩
        obtain ⟨v, hv⟩ : ∃ v, py * qx = v := ⟨_, rfl⟩
        have wu : IntKind.i64.wrap (px * qy) = u := by rw [hu]; rw [hu] at b1; exact IntWalk.i64_in _ (by omega)
        have wv : IntKind.i64.wrap (py * qx) = v := by rw [hv]; rw [hv] at b2; exact IntWalk.i64_in _ (by omega)
        rw [hu, hv] at Hst
        rw [hu] at b1
        rw [hv] at b2
        clear hu hv hpb hqb hx
        have wd : IntKind.i64.wrap (u - v) = u - v := IntWalk.i64_in _ (by omega)
        obtain ⟨Z2, hZ2⟩ : ∃ Z2, Z + (u - v) = Z2 := ⟨_, rfl⟩
        have ws : IntKind.i64.wrap (Z + (u - v)) = Z2 := by rw [← hZ2]; exact IntWalk.i64_in _ (by omega)
        rw [hZ2] at Hst
        clear hZ2 hZb b1 b2
        have hbr : b < wr.heap.size := by omega
        have WD := Lib.hid wd
        clear wd
        go_upto_region 9 with fail
        have wd := WD.out
        go_wp2
        go_roundw
        case rel => exact ⟨k + 1, Z2, by omega, by go_num, rfl, Lib.hid Hst.out.symm, (Hbw.out.alloc hsw _).alloc (by simp; omega) _⟩
        case measure => simp [intOf]; omega
      · obtain rfl : k = n := by omega
        have hkn' : ¬ (k : Int) < (k : Int) := by omega
        have hZS : Z = S := HZ.out.trans Hend.out
        subst hZS
        have hq := Hq.out
        go_wp2
        have hv2 := HV.out
        refine bodyPost_ret (v := .tuple #[.int .i64 V, .int .i64 0]) (by simp [results, Tryz.results21, go_sem, *]) rfl ?_
        exact ⟨rfl, Hbw.out⟩
  · have Hv : Hid (signedV r = (0, ringP r)) := Lib.hid (if_neg h0)
    rw [Hv.out]
    obtain ⟨e0, he0⟩ : ∃ e0, ringP r = e0 := ⟨_, rfl⟩
    rw [he0] at HR h0 ⊢
    clear he0 Hv
    go_enter Tryz.func21, Tryz.ntmps21
    go_wp2_with (first
      | (go_at_call 14
         refine (HR.out _ (HA.out.below (by repeat' (first | with_reducible exact Below.refl _ _ | with_reducible refine below_drewN ?_ _ | with_reducible refine Below.drew ?_ | with_reducible refine Below.alloc ?_ ?_ _ | with_reducible refine Below.setCell ?_ ?_ _ | with_reducible refine Below.trans ?_ (Below.mono (by with_reducible assumption) ?_) | (simp; done) | (simp; omega) | omega)))).mono ?_
         rintro e w1 ⟨rfl, hb1⟩
         have Hb1 : Hid (Below w.heap.size w w1) := Lib.hid (by have hbq := hb1; exact (by repeat' (first | with_reducible exact Below.refl _ _ | with_reducible assumption | with_reducible refine below_drewN ?_ _ | with_reducible refine Below.drew ?_ | with_reducible refine Below.alloc ?_ ?_ _ | with_reducible refine Below.setCell ?_ ?_ _ | with_reducible refine Below.trans ?_ (Below.mono (by with_reducible assumption) ?_) | with_reducible refine below_only ?_ (by with_reducible assumption) ?_ ?_ | (simp; done) | (simp; omega) | omega)))
         clear hb1)
      | fail)
    refine bodyPost_ret (v := .tuple #[.int .i64 0, .int .i64 e0]) (by simp [results, Tryz.results21, go_sem, *]) rfl ?_
    exact ⟨rfl, Hb1.out⟩
end Go.Proofs.YtpcfhcdbibklcaaGreat

namespace Go.Proofs.YtpcfhcdbibklcaaGreat
open Go.RowKit Go.Shelf
set_option linter.unusedVariables false
set_option linter.unusedSimpArgs false

/-- Neighbours in pairs, those that are not equal. -/
def pairsF : List Int → List (Sg Unit)
  | x :: y :: t => if x = y then pairsF t else (x, y, ()) :: pairsF t
  | _ => []
def crossP (xs : List Int) : List (Sg Unit) := (pairsF xs).foldl sweep []
def cntLe (X : Int) (xs : List Int) : Nat := xs.countP fun k => decide (k ≤ X)
theorem pairs_odd (X : Int) : ∀ (xs : List Int), xs.Pairwise (· ≤ ·) → xs.length % 2 = 0 → (pairsF xs).any (inS · X) = decide (cntLe X xs % 2 = 1)
  | [], _, _ => rfl
  | [x], _, h => by simp at h
  | x :: y :: t, hp, hl => by
    obtain ⟨h1, h2⟩ := List.pairwise_cons.1 hp
    obtain ⟨h3, h4⟩ := List.pairwise_cons.1 h2
    have ih := pairs_odd X t h4 (by simp only [List.length_cons] at hl; omega)
    have hxy := h1 y (by simp)
    have hgt : X < y → cntLe X t = 0 := fun h => by
      unfold cntLe
      rw [List.countP_eq_zero]
      intro k hk
      have := h3 k hk
      simp; omega
    have hc : cntLe X (x :: y :: t) = cntLe X t + (if y ≤ X then 1 else 0) + (if x ≤ X then 1 else 0) := by
      unfold cntLe
      rw [List.countP_cons, List.countP_cons]
      simp
    rw [hc, pairsF]
    by_cases hyX : y ≤ X
    · rw [if_pos hyX, if_pos (show x ≤ X by omega)]
      have e : decide ((cntLe X t + 1 + 1) % 2 = 1) = decide (cntLe X t % 2 = 1) := decide_eq_decide.2 (by omega)
      rw [e, ← ih]
      split
      · rfl
      · rw [List.any_cons]
        have : inS (x, y, ()) X = false := by simp [inS]; omega
        rw [this]
        rfl
    · have h0 := hgt (by omega)
      rw [h0] at ih ⊢
      rw [if_neg hyX]
      by_cases hxX : x ≤ X
      · rw [if_pos hxX, if_neg (by omega), List.any_cons]
        have : inS (x, y, ()) X = true := by simp [inS]; omega
        rw [this]
        rfl
      · rw [if_neg hxX]
        split
        · rw [ih]
        · rw [List.any_cons, ih]
          have : inS (x, y, ()) X = false := by simp [inS]; omega
          rw [this]
          rfl
theorem pairs_ok : ∀ (xs : List Int), xs.Pairwise (· ≤ ·) → (∀ s ∈ pairsF xs, s.1 < s.2.1 ∧ s.1 ∈ xs ∧ s.2.1 ∈ xs) ∧ (pairsF xs).Pairwise (fun a b => a.1 ≤ b.1)
  | [], _ => ⟨by simp [pairsF], List.Pairwise.nil⟩
  | [x], _ => ⟨by simp [pairsF], List.Pairwise.nil⟩
  | x :: y :: t, hp => by
    obtain ⟨h1, h2⟩ := List.pairwise_cons.1 hp
    obtain ⟨h3, h4⟩ := List.pairwise_cons.1 h2
    obtain ⟨i1, i2⟩ := pairs_ok t h4
    have hxy := h1 y (by simp)
    have hup : ∀ s ∈ pairsF t, s.1 < s.2.1 ∧ s.1 ∈ x :: y :: t ∧ s.2.1 ∈ x :: y :: t := fun s hs => by
      obtain ⟨a, b, c⟩ := i1 s hs
      exact ⟨a, by simp [b], by simp [c]⟩
    rw [pairsF]
    split
    · exact ⟨hup, i2⟩
    · next hne =>
      refine ⟨fun s hs => ?_, List.pairwise_cons.2 ⟨fun s hs => h1 s.1 (by have := (i1 s hs).2.1; simp [this]), i2⟩⟩
      rcases List.mem_cons.1 hs with rfl | hs
      · exact ⟨by show x < y; omega, by simp, by simp⟩
      · exact hup s hs
theorem cross_segs (xs : List Int) (hp : xs.Pairwise (· ≤ ·)) (hl : xs.length % 2 = 0) : Segs (fun X => opt (decide (cntLe X xs % 2 = 1))) (crossP xs) := by
  obtain ⟨h1, h2⟩ := pairs_ok xs hp
  have h := sweep_segs (pairsF xs) [] (fun _ => false) (fun s hs => (h1 s hs).1) h2 ⟨0, fun x _ => rfl, fun x _ => rfl⟩ (by simp)
  have e : (fun x => opt (false || (pairsF xs).any (inS · x))) = fun X => opt (decide (cntLe X xs % 2 = 1)) := funext fun X => by rw [Bool.false_or, pairs_odd X xs hp hl]
  rw [← e]
  exact h
theorem pairs_len : ∀ (xs : List Int), (pairsF xs).length ≤ xs.length
  | [] => by simp [pairsF]
  | [x] => by simp [pairsF]
  | x :: y :: t => by
    have := pairs_len t
    rw [pairsF]
    split <;> simp <;> omega
theorem cross_len (xs : List Int) : (crossP xs).length ≤ xs.length := by
  have h1 := sweeps_len (pairsF xs) []
  have h2 := pairs_len xs
  unfold crossP
  simp at h1
  omega
/-- The upright borders of rings: where, from, before. -/
abbrev Wl := Int × Int × Int
def wallAt (r : List Pt) (i : Nat) : List Wl := if (at0 r i).1 = (at0 r (i + 1)).1 then [((at0 r i).1, min (at0 r i).2 (at0 r (i + 1)).2, max (at0 r i).2 (at0 r (i + 1)).2)] else []
def wallsO (r : List Pt) : List Wl := (List.range r.length).flatMap (wallAt r)
def wallsL (rs : List (List Pt)) : List Wl := rs.flatMap wallsO
def covW (y : Int) (q : Wl) : Bool := decide (q.2.1 ≤ y) && decide (y < q.2.2)
def xsAt (ws : List Wl) (y : Int) : List Int := (ws.filter (covW y)).map (·.1)
def yWs (ws : List Wl) : List Int := ws.flatMap fun q => [q.2.1, q.2.2]
def fillR (ws : List Wl) : List R4 := buildP (fun y => crossP (srt (xsAt ws y))) (asc (yWs ws))
/-- The squares that are behind an odd number of borders. -/
def oddP (rs : List (List Pt)) (X Y : Int) : Bool := decide (sumL (cycP (phC X Y)) rs % 2 = 1)
theorem cnt_app (X : Int) (a b : List Int) : cntLe X (a ++ b) = cntLe X a + cntLe X b := by unfold cntLe; rw [List.countP_append]
theorem xs_app (a b : List Wl) (y : Int) : xsAt (a ++ b) y = xsAt a y ++ xsAt b y := by unfold xsAt; rw [List.filter_append, List.map_append]
theorem cnt_walls (X Y : Int) (r : List Pt) : (cntLe X (xsAt (wallsO r) Y) : Int) = cycP (phC X Y) r := by
  rw [← cyc_range]
  unfold wallsO
  generalize List.range r.length = l
  induction l with
  | nil => rfl
  | cons i t ih =>
    rw [List.flatMap_cons, xs_app, cnt_app, sumL_cons, ← ih]
    have : (cntLe X (xsAt (wallAt r i) Y) : Int) = phC X Y (at0 r i) (at0 r (i + 1)) := by
      unfold wallAt phC i1
      by_cases h1 : (at0 r i).1 = (at0 r (i + 1)).1
      · rw [if_pos h1]
        by_cases h2 : min (at0 r i).2 (at0 r (i + 1)).2 ≤ Y ∧ Y < max (at0 r i).2 (at0 r (i + 1)).2
        · have hc : covW Y ((at0 r i).1, min (at0 r i).2 (at0 r (i + 1)).2, max (at0 r i).2 (at0 r (i + 1)).2) = true := by simp only [covW, Bool.and_eq_true, decide_eq_true_eq]; exact h2
          unfold xsAt cntLe
          rw [List.filter_cons_of_pos hc]
          by_cases h3 : (at0 r i).1 ≤ X
          · rw [if_pos ⟨h1, h3, h2⟩]; simp [h3]
          · rw [if_neg (fun h => h3 h.2.1)]; simp [h3]
        · have hc : ¬ covW Y ((at0 r i).1, min (at0 r i).2 (at0 r (i + 1)).2, max (at0 r i).2 (at0 r (i + 1)).2) = true := by simp only [covW, Bool.and_eq_true, decide_eq_true_eq]; exact h2
          unfold xsAt cntLe
          rw [List.filter_cons_of_neg hc, if_neg (fun h => h2 h.2.2)]
          simp
      · rw [if_neg h1, if_neg (fun h => h1 h.1)]
        simp [xsAt, cntLe]
    omega
theorem cnt_all (X Y : Int) : ∀ (rs : List (List Pt)), (cntLe X (xsAt (wallsL rs) Y) : Int) = sumL (cycP (phC X Y)) rs
  | [] => rfl
  | r :: rs => by
    have ih := cnt_all X Y rs
    show (cntLe X (xsAt (wallsO r ++ wallsL rs) Y) : Int) = _
    rw [xs_app, cnt_app, sumL_cons, ← cnt_walls, ← ih]
    omega
/-- A closed line crosses each row an even number of times. -/
def phV (Y : Int) (p q : Pt) : Int := i1 (p.1 = q.1 ∧ min p.2 q.2 ≤ Y ∧ Y < max p.2 q.2)
theorem len_walls (Y : Int) (r : List Pt) : ((xsAt (wallsO r) Y).length : Int) = cycP (phV Y) r := by
  rw [← cyc_range]
  unfold wallsO
  generalize List.range r.length = l
  induction l with
  | nil => rfl
  | cons i t ih =>
    rw [List.flatMap_cons, xs_app, List.length_append, sumL_cons, ← ih]
    have : ((xsAt (wallAt r i) Y).length : Int) = phV Y (at0 r i) (at0 r (i + 1)) := by
      unfold wallAt phV i1
      by_cases h1 : (at0 r i).1 = (at0 r (i + 1)).1
      · rw [if_pos h1]
        by_cases h2 : min (at0 r i).2 (at0 r (i + 1)).2 ≤ Y ∧ Y < max (at0 r i).2 (at0 r (i + 1)).2
        · have hc : covW Y ((at0 r i).1, min (at0 r i).2 (at0 r (i + 1)).2, max (at0 r i).2 (at0 r (i + 1)).2) = true := by simp only [covW, Bool.and_eq_true, decide_eq_true_eq]; exact h2
          unfold xsAt
          rw [List.filter_cons_of_pos hc, if_pos ⟨h1, h2⟩]
          simp
        · have hc : ¬ covW Y ((at0 r i).1, min (at0 r i).2 (at0 r (i + 1)).2, max (at0 r i).2 (at0 r (i + 1)).2) = true := by simp only [covW, Bool.and_eq_true, decide_eq_true_eq]; exact h2
          unfold xsAt
          rw [List.filter_cons_of_neg hc, if_neg (fun h => h2 h.2)]
          simp
      · rw [if_neg h1, if_neg (fun h => h1 h.1)]
        simp [xsAt]
    omega
def upP (Y : Int) (p : Pt) : Int := i1 (Y < p.2)
theorem sumP_even (Y : Int) : ∀ (l : List Pt) (a z : Pt), (∀ i, i < l.length + 1 → ((a :: l).getD i (0, 0)).1 = ((l ++ [z]).getD i (0, 0)).1 ∨ ((a :: l).getD i (0, 0)).2 = ((l ++ [z]).getD i (0, 0)).2) → (sumP (phV Y) a l z + upP Y a + upP Y z) % 2 = 0
  | [], a, z, h => by
    have h0 := h 0 (by simp)
    simp only [List.getD_cons_zero, List.nil_append] at h0
    show (phV Y a z + upP Y a + upP Y z) % 2 = 0
    unfold phV upP i1
    rcases h0 with h0 | h0
    · by_cases h1 : Y < a.2 <;> by_cases h2 : Y < z.2
      · rw [if_neg (by omega), if_pos h1, if_pos h2]; decide
      · rw [if_pos ⟨h0, by omega, by omega⟩, if_pos h1, if_neg h2]; decide
      · rw [if_pos ⟨h0, by omega, by omega⟩, if_neg h1, if_pos h2]; decide
      · rw [if_neg (by omega), if_neg h1, if_neg h2]; decide
    · rw [← h0, if_neg (by omega)]
      split <;> decide
  | b :: l, a, z, h => by
    have ih := sumP_even Y l b z (fun i hi => h (i + 1) (by simp; omega))
    have h0 := h 0 (by simp)
    simp only [List.getD_cons_zero, List.cons_append] at h0
    have h1 : (phV Y a b + upP Y a + upP Y b) % 2 = 0 := by
      unfold phV upP i1
      rcases h0 with h0 | h0
      · by_cases h1 : Y < a.2 <;> by_cases h2 : Y < b.2
        · rw [if_neg (by omega), if_pos h1, if_pos h2]; decide
        · rw [if_pos ⟨h0, by omega, by omega⟩, if_pos h1, if_neg h2]; decide
        · rw [if_pos ⟨h0, by omega, by omega⟩, if_neg h1, if_pos h2]; decide
        · rw [if_neg (by omega), if_neg h1, if_neg h2]; decide
      · rw [← h0, if_neg (by omega)]
        split <;> decide
    show (phV Y a b + sumP (phV Y) b l z + upP Y a + upP Y z) % 2 = 0
    omega
theorem fine_or {r : List Pt} {i : Nat} (h : fineAt r i = true) : (at0 r i).1 = (at0 r (i + 1)).1 ∨ (at0 r i).2 = (at0 r (i + 1)).2 := by
  unfold fineAt rightP at h
  simp only [Bool.and_eq_true] at h
  have h1 := h.1
  by_cases a : (at0 r i).1 = (at0 r (i + 1)).1
  · exact .inl a
  · by_cases b : (at0 r i).2 = (at0 r (i + 1)).2
    · exact .inr b
    · simp [a, b] at h1
theorem ring_even {r : List Pt} (h : ringP r = 0) (Y : Int) : (xsAt (wallsO r) Y).length % 2 = 0 := by
  obtain ⟨h4, _, _, hf⟩ := ringP_zero h
  have h1 : (cycP (phV Y) r) % 2 = 0 := by
    cases r with
    | nil => rfl
    | cons a t =>
      have := sumP_even Y t a a (fun i hi => by
        have h2 := fine_or (hf i (by simpa using hi))
        have e1 : at0 (a :: t) i = (a :: t).getD i (0, 0) := by unfold at0 atC; rw [List.length_cons, Nat.mod_eq_of_lt hi]
        have e2 : at0 (a :: t) (i + 1) = (t ++ [a]).getD i (0, 0) := by
          unfold at0 atC
          rw [List.length_cons]
          rcases Nat.lt_or_ge i t.length with h2 | h2
          · rw [Nat.mod_eq_of_lt (by omega)]
            simp [List.getD_eq_getElem?_getD, List.getElem?_append_left h2]
          · have : i = t.length := by omega
            subst this
            rw [Nat.mod_self]
            simp [List.getD_eq_getElem?_getD]
        rw [e1, e2] at h2
        exact h2)
      show sumP (phV Y) a t a % 2 = 0
      have hu : upP Y a = 0 ∨ upP Y a = 1 := by unfold upP i1; split <;> simp
      omega
  have h2 := len_walls Y r
  omega
theorem rings_even : ∀ {rs : List (List Pt)}, (∀ r ∈ rs, ringP r = 0) → ∀ Y, (xsAt (wallsL rs) Y).length % 2 = 0
  | [], _, Y => rfl
  | r :: rs, h, Y => by
    have h1 := ring_even (h r (by simp)) Y
    have h2 := rings_even (fun q hq => h q (List.mem_cons_of_mem _ hq)) Y
    show (xsAt (wallsO r ++ wallsL rs) Y).length % 2 = 0
    rw [xs_app, List.length_append]
    omega
theorem srt_perm (l : List Int) : (srt l).Perm l := List.mergeSort_perm _ _
theorem srt_sorted (l : List Int) : (srt l).Pairwise (· ≤ ·) := by
  have := List.pairwise_mergeSort (le := fun p q : Int => decide (p ≤ q)) (by intro a b c h1 h2; simp at *; omega) (by intro a b; simp; omega) l
  exact this.imp fun h => by simpa using h
theorem cnt_perm (X : Int) {a b : List Int} (h : a.Perm b) : cntLe X a = cntLe X b := h.countP_eq _
/-- Fill's rectangles are the canonical ones of these squares. -/
theorem fill_canon {rs : List (List Pt)} (h : ∀ r ∈ rs, ringP r = 0) : Canon (oddP rs) (fillR (wallsL rs)) := by
  have hP : ∀ X Y, oddP rs X Y = decide (cntLe X (xsAt (wallsL rs) Y) % 2 = 1) := fun X Y => by
    unfold oddP
    rw [← cnt_all]
    exact decide_eq_decide.2 (by omega)
  have hev := rings_even h
  generalize wallsL rs = ws at *
  have hmem : ∀ q ∈ ws, q.2.1 ∈ asc (yWs ws) ∧ q.2.2 ∈ asc (yWs ws) := fun q hq => ⟨((asc_all _).2.1 _).2 (List.mem_flatMap.2 ⟨q, hq, by simp⟩), ((asc_all _).2.1 _).2 (List.mem_flatMap.2 ⟨q, hq, by simp⟩)⟩
  refine build_canon (oddP rs) (fun y => crossP (srt (xsAt ws y))) (asc (yWs ws)) (fun y => ?_) (asc_all _).1 (fun X y z hy hyz hk => ?_) (fun X z hz => ?_)
  · have := cross_segs (srt (xsAt ws y)) (srt_sorted _) (by rw [(srt_perm _).length_eq]; exact hev y)
    have e : (fun X => opt (decide (cntLe X (srt (xsAt ws y)) % 2 = 1))) = fun X => opt (oddP rs X y) := funext fun X => by rw [hP, cnt_perm X (srt_perm _)]
    rw [e] at this
    exact this
  · show oddP rs X z = oddP rs X y
    rw [hP, hP]
    have e : xsAt ws z = xsAt ws y := by
      unfold xsAt
      congr 1
      refine List.filter_congr fun q hq => ?_
      obtain ⟨h1, h2⟩ := hmem q hq
      have k1 := hk _ h1
      have k2 := hk _ h2
      unfold covW
      rw [show decide (q.2.1 ≤ z) = decide (q.2.1 ≤ y) from decide_eq_decide.2 (by omega), show decide (z < q.2.2) = decide (y < q.2.2) from decide_eq_decide.2 (by omega)]
    rw [e]
  · rw [hP]
    have e : xsAt ws z = [] := by
      unfold xsAt
      rw [List.map_eq_nil_iff, List.filter_eq_nil_iff]
      intro q hq
      obtain ⟨h1, h2⟩ := hmem q hq
      simp only [covW, Bool.and_eq_true, decide_eq_true_eq]
      rcases hz with hz | hz
      · have := hz _ h1; omega
      · have := hz _ h2; omega
    rw [e]
    rfl
end Go.Proofs.YtpcfhcdbibklcaaGreat

namespace Go.Proofs.YtpcfhcdbibklcaaGreat
open Go.RowKit Go.Shelf
set_option linter.unusedVariables false
set_option linter.unusedSimpArgs false

theorem Tryz.infoWall : (Tryz.prog.info? 92).map (fun i => (i.zero, i.size, i.bytes)) = some (some (.agg #[.int .i64 0, .int .i64 0, .int .i64 0]), 3, 24) := by kernel_rfl
def encW (q : Wl) : List Value := [.int .i64 q.1, .int .i64 q.2.1, .int .i64 q.2.2]
def wCells (l : List Wl) : List Value := l.flatMap encW
theorem wCells_snoc (l : List Wl) (q : Wl) : wCells (l ++ [q]) = wCells l ++ [.int .i64 q.1, .int .i64 q.2.1, .int .i64 q.2.2] := by simp [wCells, encW]
theorem wCells_at (l : List Wl) (i : Nat) (h : i < l.length) : (wCells l)[i * 3]? = some (.int .i64 l[i].1) ∧ (wCells l)[i * 3 + 1]? = some (.int .i64 l[i].2.1) ∧ (wCells l)[i * 3 + 2]? = some (.int .i64 l[i].2.2) := by
  induction l generalizing i with
  | nil => simp at h
  | cons o r ih =>
    have hc : wCells (o :: r) = [.int .i64 o.1, .int .i64 o.2.1, .int .i64 o.2.2] ++ wCells r := by simp [wCells, encW]
    rw [hc]
    rcases i with _ | i
    · simp
    · have := ih i (by simpa using h)
      refine ⟨?_, ?_, ?_⟩ <;> rw [List.getElem?_append_right (by simp; omega)]
      · rw [show (i + 1) * 3 - ([Value.int .i64 o.1, .int .i64 o.2.1, .int .i64 o.2.2] : List Value).length = i * 3 from by simp; omega]; exact this.1
      · rw [show (i + 1) * 3 + 1 - ([Value.int .i64 o.1, .int .i64 o.2.1, .int .i64 o.2.2] : List Value).length = i * 3 + 1 from by simp; omega]; exact this.2.1
      · rw [show (i + 1) * 3 + 2 - ([Value.int .i64 o.1, .int .i64 o.2.1, .int .i64 o.2.2] : List Value).length = i * 3 + 2 from by simp; omega]; exact this.2.2
/-- The walls of a ring up to a corner. -/
def wallsTo (r : List Pt) (k : Nat) : List Wl := (List.range k).flatMap (wallAt r)
theorem wallsTo_succ (r : List Pt) (k : Nat) : wallsTo r (k + 1) = wallsTo r k ++ wallAt r k := by unfold wallsTo; rw [List.range_succ, List.flatMap_append]; simp
theorem wallAt_len (r : List Pt) (i : Nat) : (wallAt r i).length ≤ 1 := by unfold wallAt; split <;> simp
theorem wallsTo_len (r : List Pt) : ∀ k, (wallsTo r k).length ≤ k
  | 0 => by simp [wallsTo]
  | k + 1 => by
    have h1 := wallsTo_len r k
    have h2 := wallAt_len r k
    rw [wallsTo_succ, List.length_append]
    omega
theorem wallsL_take {rs : List (List Pt)} {i : Nat} (h : i < rs.length) : wallsL (rs.take (i + 1)) = wallsL (rs.take i) ++ wallsO rs[i] := by
  unfold wallsL
  rw [List.take_succ_eq_append_getElem h, List.flatMap_append]
  simp
theorem wallsL_le {rs : List (List Pt)} (i : Nat) : (wallsL (rs.take i)).length ≤ (wallsL rs).length := by
  conv => rhs; rw [← List.take_append_drop i rs]
  unfold wallsL
  rw [List.flatMap_append, List.length_append]
  omega
set_option maxHeartbeats 4000000 in
set_option maxRecDepth 100000 in
theorem walls_any (A : Option Addr) (n c : Nat) (l : RgL) (w : World) (hA : SlRg w A n c l) (hs : ∀ r ∈ rgPts l, r.length ≤ 100000) (ht : (wallsL (rgPts l)).length ≤ 100000) :
    Calls Tryz.prog 50 #[.slice A n c] w fun e w' => ∃ v, e = .returned v ∧ w'.ownsRow w.heap.size 92 3 v (wallsL (rgPts l)).length (wCells (wallsL (rgPts l))) ∧ Below w.heap.size w w' := by
  obtain ⟨i0, hi, hz0, hz1, hz2⟩ := info_parts Tryz.infoWall
  have hn := hA.len
  have hcap := hA.cap
  have htop := hA.top
  unfold maxLen at htop
  have HA := Lib.hid hA
  have Hs := Lib.hid hs
  have Hle := Lib.hid (fun i => Nat.le_trans (wallsL_le (rs := rgPts l) i) ht)
  have Hend : Hid (wallsL ((rgPts l).take n) = wallsL (rgPts l)) := Lib.hid (by rw [List.take_of_length_le (by rw [rgPts_len]; omega)])
  have Hn := Lib.hid hn
  have Hstep : Hid (∀ i (h : i < l.length), wallsL ((rgPts l).take (i + 1)) = wallsL ((rgPts l).take i) ++ wallsO l[i].1) := Lib.hid fun i h => by
    rw [wallsL_take (by rw [rgPts_len]; exact h)]
    simp [rgPts]
  clear hA hs ht hn
  go_enter Tryz.func50, Tryz.ntmps50
  go_wp2
  go_loopw [3, 11] (fun ov iv wr => ∃ i : Nat, i ≤ n ∧ iv = .int .i64 (i : Int) ∧ wr.ownsRow w.heap.size 92 3 ov (wallsL ((rgPts l).take i)).length (wCells (wallsL ((rgPts l).take i))) ∧ Below w.heap.size w wr) (fun _ iv _ => n - (intOf iv).toNat)
  case atStart => exact ⟨0, Nat.zero_le _, rfl, World.ownsRow_nil _ _ _ _, Below.refl _ _⟩
  case round =>
    obtain ⟨i, hin, rfl, hown, hbw⟩ := hrel
    have Hown := Lib.hid hown
    have Hbw := Lib.hid hbw
    have hsw := hbw.size
    clear hown hbw
    by_cases hiN : i < n
    · have hiN' : (i : Int) < (n : Int) := by omega
      have hil : i < l.length := by have := Hn.out; omega
      obtain ⟨b, off, rfl, hb, r0, -⟩ := (HA.out.below Hbw.out).at i hil
      have hpt := HA.out.fits _ (List.getElem_mem hil)
      have Hst := Lib.hid (Hstep.out i hil)
      have Hl1 := Lib.hid (Hle.out (i + 1))
      rw [Hst.out] at Hl1
      have hshort := Hs.out l[i].1 (List.mem_map.2 ⟨l[i], List.getElem_mem _, rfl⟩)
      generalize l[i] = x at *
      obtain ⟨p, hv⟩ := x
      dsimp only at *
      generalize wallsL ((rgPts l).take i) = acc at *
      obtain ⟨M, hM⟩ : ∃ M, p.length = M := ⟨_, rfl⟩
      have HM := Lib.hid hM
      have Hpt := Lib.hid hpt
      rw [hM] at r0 Hpt hshort
      clear hM hpt
      obtain ⟨wo, hwo⟩ : ∃ wo : World, wo = wr := ⟨_, rfl⟩
      rw [← hwo] at Hbw Hown hsw hb r0 ⊢
      clear hwo
      have Htot : Hid (acc.length + (wallsTo p M).length ≤ 100000) := Lib.hid (by have := Hl1.out; rw [List.length_append] at this; unfold wallsO at this; rw [HM.out] at this; exact this)
      have Hpre : Hid (∀ k, k ≤ M → (wallsTo p k).length ≤ (wallsTo p M).length) := Lib.hid fun k hk => by
        obtain ⟨d, rfl⟩ : ∃ d, M = k + d := ⟨M - k, by omega⟩
        clear Htot HM Hpt r0 hshort hk
        induction d with
        | zero => exact Nat.le_refl _
        | succ d ih => rw [← Nat.add_assoc, wallsTo_succ, List.length_append]; omega
      go_wp2
      go_loopw [3, 17] (fun ov kv wr => ∃ k : Nat, k ≤ M ∧ kv = .int .i64 (k : Int) ∧ wr.ownsRow w.heap.size 92 3 ov (acc ++ wallsTo p k).length (wCells (acc ++ wallsTo p k)) ∧ Below w.heap.size w wr) (fun _ kv _ => M - (intOf kv).toNat)
      case atStart => exact ⟨0, Nat.zero_le _, rfl, by simpa [wallsTo] using Hown.out, Hbw.out⟩
      case round =>
        obtain ⟨k, hk, rfl, hown2, hbw2⟩ := hrel
        have Hp2 := Lib.hid (Hpt.out.below hbw2)
        have Hown2 := Lib.hid hown2
        have Hbw2 := Lib.hid hbw2
        have hsw2 := hbw2.size
        clear hown2 hbw2
        by_cases hkM : k < M
        · have hkM' : (k : Int) < (M : Int) := by omega
          have hkl : k < p.length := by have := HM.out; omega
          have hM0 : 0 < M := by omega
          obtain ⟨x, hx⟩ : ∃ x, (k + 1) % M = x := ⟨_, rfl⟩
          have hxM : x < M := by rw [← hx]; exact Nat.mod_lt _ hM0
          have hxl : x < p.length := by have := HM.out; omega
          have hrem := rem_succ k M
          rw [hx] at hrem
          have hw1 : IntKind.i64.wrap ((k : Int) + 1) = (k : Int) + 1 := IntWalk.i64_in _ (by omega)
          have hxM' : (x : Int) < (M : Int) := by omega
          have hnz : ¬ (M : Int) = 0 := by omega
          obtain ⟨pb, po, e1, hb0, p0, p1⟩ := Hp2.out.at k hkl
          obtain ⟨_, _, e2, -, q0, q1⟩ := Hp2.out.at x hxl
          have He1 := Lib.hid e1
          rw [e1]
          rw [e1] at e2
          injection e2 with e2
          injection e2 with e2 e2'
          subst e2 e2'
          have Hst2 : Hid (wallsTo p (k + 1) = wallsTo p k ++ (if p[k].1 = p[x].1 then [(p[k].1, min p[k].2 p[x].2, max p[k].2 p[x].2)] else [])) := Lib.hid (by
            have g1 : at0 p k = p[k] := at0_lt p hkl
            have g2 : at0 p (k + 1) = p[x] := by rw [← at0_mod, HM.out, hx, at0_lt p hxl]
            rw [wallsTo_succ]
            unfold wallAt
            rw [g1, g2])
          have hbound : (acc ++ wallsTo p k).length ≤ 100000 := by have h1 := Htot.out; have h2 := Hpre.out k hk; rw [List.length_append]; omega
          generalize p[k] = pk at *
          generalize p[x] = px at *
          obtain ⟨ax, ay⟩ := pk
          obtain ⟨bx, by'⟩ := px
          dsimp only at *
          obtain ⟨ac, hac⟩ : ∃ ac, acc ++ wallsTo p k = ac := ⟨_, rfl⟩
          rw [hac] at Hown2 hbound
          have Hac := Lib.hid hac
          clear e1 hac hx
          have hbr : pb < wr.heap.size := by omega
          by_cases hv1 : ax = bx
          · subst hv1
            have Hst3 : Hid (acc ++ wallsTo p (k + 1) = ac ++ [(ax, min ay by', max ay by')]) := Lib.hid (by rw [Hst2.out, if_pos rfl, ← List.append_assoc, Hac.out])
            go_upto_region 9 with fail
            obtain ⟨wa, hwa⟩ : ∃ wa : World, wa = (wr.alloc (.cells #[.int .i64 ax, .int .i64 ay] 43)).alloc (.cells #[.int .i64 ax, .int .i64 by'] 43) := ⟨_, rfl⟩
            rw [← hwa]
            have HX1 : Hid (wa.heap[wr.heap.size]? = some (.cells #[.int .i64 ax, .int .i64 ay] 43 (0, 0))) := Lib.hid (by rw [hwa]; exact (Below.heap_alloc _ _ _ (by simp)).trans (heap_alloc_new wr _))
            have HX2 : Hid (wa.heap[wr.heap.size + 1]? = some (.cells #[.int .i64 ax, .int .i64 by'] 43 (0, 0))) := Lib.hid (by rw [hwa]; have hzz := heap_alloc_new (wr.alloc (.cells #[.int .i64 ax, .int .i64 ay] 43)) (.cells #[.int .i64 ax, .int .i64 by'] 43); rw [World.size_alloc] at hzz; exact hzz)
            have Hra : Hid (Below wr.heap.size wr wa) := Lib.hid (by rw [hwa]; exact (by repeat' (first | with_reducible exact Below.refl _ _ | with_reducible refine below_drewN ?_ _ | with_reducible refine Below.drew ?_ | with_reducible refine Below.alloc ?_ ?_ _ | with_reducible refine Below.setCell ?_ ?_ _ | with_reducible refine Below.trans ?_ (Below.mono (by with_reducible assumption) ?_) | (simp; done) | (simp; omega) | omega)))
            have hlX : wr.heap.size + 1 < wa.heap.size := by rw [hwa]; simp
            clear hwa
            have Howna := Lib.hid (ownsRow_below Hown2.out Hra.out)
            have Hbwa : Hid (Below w.heap.size w wa) := Lib.hid (Hbw2.out.trans (Hra.out.mono hsw2))
            have s0 := cell_of_row _ _ 0 _ _ _ HX1.out
            have s1 := cell_of_row _ _ 1 _ _ _ HX1.out
            have u1 := cell_of_row _ _ 1 _ _ _ HX2.out
            have u0 := cell_of_row _ _ 0 _ _ _ HX2.out
            have hsa := Hbwa.out.size
            obtain ⟨T, hT⟩ : ∃ T, wr.heap.size = T := ⟨_, rfl⟩
            rw [hT] at s0 s1 u0 u1 hlX ⊢
            clear p0 p1 q0 q1 HX1 HX2 Hra hT
            go_wp2_with (first
              | (at_builtin
                 go_loud (refine wpList_append_any _ rfl (.tmp 35) (.tmp 49) _ rfl w.heap.size 92 i0 _ 3 24 Tryz.underlying89 hi hz0 hz1 hz2 rfl (by omega) _ ac.length (wCells ac) rfl (Howna.out.alloc _) (wa.heap.size + 1) _ 1 1 [.int .i64 ax, .int .i64 (min ay by'), .int .i64 (max ay by')] rfl ⟨rfl, fun _ => ⟨_, rfl, Nat.lt_succ_self _, fun j u hu => (by exact World.news_of_block (heap_alloc_new wa (.cells #[.int .i64 ax, .int .i64 (min ay by'), .int .i64 (max ay by')] 92)) j u hu)⟩⟩ (by simp [Value.oneCell']) (by simp only [maxLen]; omega) (by omega) (by simp; omega) ?_)
                 intro v1 w1 hown1 hg1 hat1
                 have hob := own_base Howna.out
                 have Hown3 : Hid (w1.ownsRow w.heap.size 92 3 v1 (acc ++ wallsTo p (k + 1)).length (wCells (acc ++ wallsTo p (k + 1)))) := Lib.hid (by rw [Hst3.out, List.length_append, wCells_snoc]; exact hown1)
                 have Hb1 : Hid (Below w.heap.size w w1) := Lib.hid ((Hbwa.out.alloc hsa _).grown hg1 (by simp; omega) hob)
                 clear hown1 hg1 hat1 hob)
              | fail)
            go_roundw
            case rel => exact ⟨k + 1, by omega, by go_num, Hown3.out, Hb1.out⟩
            case measure => simp [intOf]; omega
          · have Hst3 : Hid (acc ++ wallsTo p (k + 1) = ac) := Lib.hid (by rw [Hst2.out, if_neg hv1, List.append_nil, Hac.out])
            go_wp2
            go_roundw
            case rel => exact ⟨k + 1, by omega, by go_num, by rw [Hst3.out]; exact (Hown2.out.alloc _).alloc _, (Hbw2.out.alloc hsw2 _).alloc (by simp; omega) _⟩
            case measure => simp [intOf]; omega
        · obtain rfl : k = M := by omega
          have hkM' : ¬ (k : Int) < (k : Int) := by omega
          have Hst3 : Hid (wallsL ((rgPts l).take (i + 1)) = acc ++ wallsTo p k) := Lib.hid (by rw [Hst.out]; unfold wallsO; rw [HM.out]; rfl)
          go_wp2
          go_roundw
          case rel => exact ⟨i + 1, by omega, by go_num, by rw [Hst3.out]; exact Hown2.out, Hbw2.out⟩
          case measure => simp [intOf]; omega
    · obtain rfl : i = n := by omega
      have hiN' : ¬ (i : Int) < (i : Int) := by omega
      rw [Hend.out] at Hown
      go_wp2
      go_ret
      exact ⟨_, rfl, Hown.out, Hbw.out⟩
end Go.Proofs.YtpcfhcdbibklcaaGreat

namespace Go.Proofs.YtpcfhcdbibklcaaGreat
open Go.RowKit Go.Shelf
set_option linter.unusedVariables false
set_option linter.unusedSimpArgs false

/-- A slice of walls. -/
structure SlW (w : World) (A : Option Addr) (n c : Nat) (l : List Wl) : Prop where
  len : l.length = n
  cap : n ≤ c
  top : c ≤ maxLen
  lies : Lies w A n (wCells l)
theorem SlW.below {w w' : World} {A : Option Addr} {n c : Nat} {l : List Wl} (h : SlW w A n c l) (hb : Below w.heap.size w w') : SlW w' A n c l := ⟨h.len, h.cap, h.top, h.lies.below hb⟩
theorem SlW.of_own {w : World} {base : Nat} {v : Value} {l : List Wl} (h : w.ownsRow base 92 3 v l.length (wCells l)) : ∃ A c, v = .slice A l.length c ∧ SlW w A l.length c l := by
  obtain ⟨A, c, rfl, h1, h2, h3⟩ := own_slice h
  exact ⟨A, c, rfl, rfl, h2, h3, h1⟩
theorem SlW.at {w : World} {A : Option Addr} {n c : Nat} {l : List Wl} (h : SlW w A n c l) (i : Nat) (hi : i < l.length) :
    ∃ b off, A = some ⟨b, off, none⟩ ∧ b < w.heap.size ∧ w.cell? ⟨b, off + i * 3, none⟩ = some (.int .i64 l[i].1) ∧ w.cell? ⟨b, off + i * 3 + 1, none⟩ = some (.int .i64 l[i].2.1) ∧ w.cell? ⟨b, off + i * 3 + 2, none⟩ = some (.int .i64 l[i].2.2) := by
  obtain ⟨b, off, e, hb, hc⟩ := h.lies.resolve_left (by have := h.len; omega)
  obtain ⟨h0, h1, h2⟩ := wCells_at l i hi
  exact ⟨b, off, e, hb, hc _ _ h0, hc _ _ h1, hc _ _ h2⟩
theorem xsAt_succ (ws : List Wl) (y : Int) (k : Nat) (h : k < ws.length) : xsAt (ws.take (k + 1)) y = if covW y ws[k] then xsAt (ws.take k) y ++ [ws[k].1] else xsAt (ws.take k) y := by
  rw [List.take_succ_eq_append_getElem h, xs_app]
  unfold xsAt
  split
  · next hc => simp [List.filter_cons, hc]
  · next hc => simp [List.filter_cons, hc]
theorem xsAt_len (ws : List Wl) (y : Int) : (xsAt ws y).length ≤ ws.length := by
  unfold xsAt; rw [List.length_map]; exact List.length_filter_le _ _
theorem pairs_snoc (a b : Int) : ∀ (l : List Int), l.length % 2 = 0 → pairsF (l ++ [a, b]) = pairsF l ++ (if a = b then [] else [(a, b, ())])
  | [], _ => by
    simp only [List.nil_append, pairsF]
  | [x], h => by simp at h
  | x :: y :: t, h => by
    have ih := pairs_snoc a b t (by simp only [List.length_cons] at h; omega)
    simp only [List.cons_append, pairsF, ih]
    split
    · rfl
    · rfl
theorem take_two {ss : List Int} {k : Nat} (h : k + 1 < ss.length) : ss.take (k + 2) = ss.take k ++ [ss[k], ss[k + 1]] := by
  rw [show k + 2 = (k + 1) + 1 from rfl, List.take_succ_eq_append_getElem h, List.take_succ_eq_append_getElem (by omega : k < ss.length), List.append_assoc]
  rfl
theorem sweep_rights : ∀ (ss l : List (Sg Unit)), ∀ q ∈ ss.foldl sweep l, (∃ s ∈ ss, q.2.1 = s.2.1) ∨ ∃ p ∈ l, q.2.1 = p.2.1
  | [], l, q, hq => .inr ⟨q, hq, rfl⟩
  | s :: ss, l, q, hq => by
    rcases sweep_rights ss (sweep l s) q hq with ⟨z, hz, e⟩ | ⟨z, hz, e⟩
    · exact .inl ⟨z, List.mem_cons_of_mem _ hz, e⟩
    · rcases list_snoc l with rfl | ⟨l0, a, rfl⟩
      · rw [sweep_new [] s (by simp)] at hz
        simp at hz
        exact .inl ⟨s, by simp, by rw [e, hz]⟩
      · by_cases h : s.1 ≤ a.2.1
        · rw [sweep_ext l0 a s h] at hz
          rcases List.mem_append.1 hz with hz | hz
          · exact .inr ⟨z, by simp [hz], e⟩
          · simp at hz
            rw [hz] at e
            simp only at e
            rcases Int.le_total a.2.1 s.2.1 with h1 | h1
            · exact .inl ⟨s, by simp, by rw [e]; omega⟩
            · exact .inr ⟨a, by simp, by rw [e]; omega⟩
        · rw [sweep_new (l0 ++ [a]) s (by simp; omega)] at hz
          rcases List.mem_append.1 hz with hz | hz
          · exact .inr ⟨z, hz, e⟩
          · simp at hz
            exact .inl ⟨s, by simp, by rw [e, hz]⟩
/-- The last span does not end behind the next one's begin. -/
theorem cross_low {ss : List Int} (hs : ss.Pairwise (· ≤ ·)) {k : Nat} (hk : k < ss.length) : ∀ q ∈ crossP (ss.take k), q.2.1 ≤ ss[k] := by
  intro q hq
  rcases sweep_rights (pairsF (ss.take k)) [] q hq with ⟨s, hsm, e⟩ | ⟨p, hp, _⟩
  · have h1 := ((pairs_ok (ss.take k) (hs.sublist (List.take_sublist _ _))).1 s hsm).2.2
    obtain ⟨i, hi, e2⟩ := List.getElem_of_mem h1
    rw [List.length_take] at hi
    rw [List.getElem_take] at e2
    have := List.pairwise_iff_getElem.1 hs i k (by omega) hk (by omega)
    rw [e, ← e2]
    exact this
  · cases hp
theorem cross_step {ss : List Int} (k : Nat) (hk : k + 1 < ss.length) (hk2 : k % 2 = 0) : crossP (ss.take (k + 2)) = if ss[k] = ss[k + 1] then crossP (ss.take k) else sweep (crossP (ss.take k)) (ss[k], ss[k + 1], ()) := by
  unfold crossP
  rw [take_two hk, pairs_snoc _ _ _ (by rw [List.length_take]; omega)]
  split
  · rw [List.append_nil]
  · rw [List.foldl_append]; rfl
set_option maxHeartbeats 16000000 in
set_option maxRecDepth 100000 in
theorem crossed_any (A : Option Addr) (n c : Nat) (ws : List Wl) (y : Int) (w : World) (hA : SlW w A n c ws) (hn1 : n ≤ 100000) (hev : (xsAt ws y).length % 2 = 0) :
    Calls Tryz.prog 56 #[.slice A n c, .int .i64 y] w fun e w' => ∃ v, e = .returned v ∧ w'.ownsRow w.heap.size 111 2 v (crossP (srt (xsAt ws y))).length (sCells (crossP (srt (xsAt ws y)))) ∧ Below w.heap.size w w' := by
  obtain ⟨i0, hi, hz0, hz1, hz2⟩ := info_parts Tryz.infoSpan
  obtain ⟨i1, hj, hy0, hy1, hy2⟩ := info_parts Tryz.infoInt
  have hn := hA.len
  have HA := Lib.hid hA
  clear hA
  go_enter Tryz.func56, Tryz.ntmps56
  go_wp2
  go_loopw [5, 14] (fun o i wr => ∃ k : Nat, k ≤ n ∧ i = .int .i64 (k : Int) ∧ wr.ownsRow w.heap.size 3 1 o (xsAt (ws.take k) y).length ((xsAt (ws.take k) y).map (.int .i64)) ∧ Below w.heap.size w wr) (fun _ i _ => n - (intOf i).toNat)
  case atStart => exact ⟨0, Nat.zero_le _, rfl, World.ownsRow_nil _ _ _ _, Below.refl _ _⟩
  case round =>
    obtain ⟨k, hk, rfl, hown, hbw⟩ := hrel
    have hsw := hbw.size
    have Hown := Lib.hid hown
    have Hbw := Lib.hid hbw
    clear hown
    by_cases hkn : k < n
    · have hkl : k < ws.length := by omega
      obtain ⟨b, off, rfl, hb, c0, c1, c2⟩ := (HA.out.below hbw).at k hkl
      have hlen : (xsAt (ws.take k) y).length ≤ 100000 := by have := xsAt_len (ws.take k) y; rw [List.length_take] at this; omega
      have Hstep := Lib.hid (xsAt_succ ws y k hkl)
      have hkn' : (k : Int) < (n : Int) := by omega
      have Hcov : Hid (covW y ws[k] = (decide (ws[k].2.1 ≤ y) && decide (y < ws[k].2.2))) := Lib.hid rfl
      generalize ws[k] = q at *
      generalize xsAt (ws.take k) y = sp at *
      obtain ⟨qx, ql, qh⟩ := q
      dsimp only at *
      clear hbw
      by_cases hc : ql ≤ y ∧ y < qh
      · obtain ⟨hc1, hc2⟩ := hc
        have Hcv : Hid (covW y (qx, ql, qh) = true) := Lib.hid (by rw [Hcov.out]; simp; omega)
        go_wp2_with (first
          | (at_builtin
             go_loud (refine wpList_append_any _ rfl (.tmp 28) (.tmp 31) _ rfl w.heap.size 3 i1 _ 1 8 Tryz.underlying22 hj hy0 hy1 hy2 rfl (by omega) _ sp.length (sp.map (.int .i64)) rfl ((Hown.out.alloc _).alloc _) _ _ 1 1 [.int .i64 qx] rfl ⟨rfl, fun _ => ⟨_, rfl, Nat.lt_succ_self _, fun j u hu => (by exact World.news_of_block (heap_alloc2_new wr _ (.cells #[.int .i64 qx] 3)) j u hu)⟩⟩ (by simp [Value.oneCell']) (by simp only [maxLen]; omega) (by omega) (by simp; omega) ?_)
             intro v5 w5 hown5 hg5 hat5)
          | fail)
        go_roundw
        case rel =>
          refine ⟨k + 1, by omega, by go_num, ?_, ?_⟩
          · rw [Hstep.out, if_pos Hcv.out, List.length_append, List.map_append]
            exact hown5
          · exact Below.grown (((Hbw.out.alloc hsw _).alloc (by simp; omega) _)) hg5 (by simp; omega) (own_base Hown.out)
        case measure => simp [intOf]; omega
      · have Hcv : Hid (¬ covW y (qx, ql, qh) = true) := Lib.hid (by rw [Hcov.out]; simp; omega)
        by_cases hc1 : ql ≤ y
        · have hc2 : ¬ y < qh := fun h => hc ⟨hc1, h⟩
          clear hc
          go_wp2
          go_roundw
          case rel => exact ⟨k + 1, by omega, by go_num, by rw [Hstep.out, if_neg Hcv.out]; exact Hown.out.alloc _, Hbw.out.alloc hsw _⟩
          case measure => simp [intOf]; omega
        · clear hc
          go_wp2
          go_roundw
          case rel => exact ⟨k + 1, by omega, by go_num, by rw [Hstep.out, if_neg Hcv.out]; exact Hown.out.alloc _, Hbw.out.alloc hsw _⟩
          case measure => simp [intOf]; omega
    · have Hown1 : Hid (wr.ownsRow w.heap.size 3 1 u5 (xsAt ws y).length ((xsAt ws y).map (.int .i64))) := Lib.hid (by have := Hown.out; rw [List.take_of_length_le (by omega)] at this; exact this)
      have hsl := xsAt_len ws y
      have hkn' : ¬ (k : Int) < (n : Int) := by omega
      have hub := Lib.hid (own_base Hown1.out)
      have Hsort := Lib.hid (srt_sorted (xsAt ws y))
      have hsrl := (srt_perm (xsAt ws y)).length_eq
      obtain ⟨sp, hsp⟩ : ∃ sp, xsAt ws y = sp := ⟨_, rfl⟩
      rw [hsp] at Hown1 hsl Hsort hsrl hev
      have Hsp := Lib.hid hsp
      clear hbw Hown hsp
      have HSo := Lib.hid (sort_own wr Hown1.out (by omega))
      rw [← hsrl] at HSo hev
      obtain ⟨ss, hss⟩ : ∃ ss, srt sp = ss := ⟨_, rfl⟩
      rw [hss] at HSo hev Hsort hsrl
      have hss1 : ss.length ≤ 100000 := by omega
      have Hss := Lib.hid hss
      clear hss
      go_wp2_with (first
        | (go_at_call 51
           refine HSo.out.mono ?_
           rintro e w1 ⟨rfl, hown1, hg1⟩
           have Hb1 : Hid (Below w.heap.size w w1) := Lib.hid (Hbw.out.grown hg1 hsw hub.out)
           obtain ⟨Sd, sc, rfl, hSl, hSc, hSm⟩ := own_slice hown1
           have HSl := Lib.hid hSl
           clear hown1 hg1 hSl)
        | fail)
      have hs1 : w.heap.size ≤ w1.heap.size := Hb1.out.size
      have hnl : ss.length = ss.length := rfl
      go_wp2
      go_loopw [8, 9] (fun o i wr => ∃ k : Nat, k ≤ ss.length ∧ k % 2 = 0 ∧ i = .int .i64 (k : Int) ∧ wr.ownsRow w1.heap.size 111 2 o (crossP (ss.take k)).length (sCells (crossP (ss.take k))) ∧ Below w1.heap.size w1 wr) (fun _ i _ => ss.length - (intOf i).toNat)
      case atStart => exact ⟨0, Nat.zero_le _, rfl, rfl, World.ownsRow_nil _ _ _ _, Below.refl _ _⟩
      case round =>
        obtain ⟨k, hk, hk2, rfl, hown, hbr⟩ := hrel
        have hsr := hbr.size
        have Hown := Lib.hid hown
        have Hbr := Lib.hid hbr
        clear hown
        obtain ⟨k1, hk1⟩ : ∃ k1, k + 1 = k1 := ⟨_, rfl⟩
        have hw1k : IntKind.i64.wrap ((k : Int) + 1) = (k1 : Int) := by rw [IntWalk.i64_in _ (by omega)]; omega
        by_cases hkn : k < ss.length
        · have hkl : k + 1 < ss.length := by omega
          obtain ⟨b, off, rfl, hb, hcs⟩ := (HSl.out.below hbr).resolve_left (by omega)
          have c0 := hcs k (.int .i64 ss[k]) (by simp [hkn])
          have c1 := hcs (k + 1) (.int .i64 ss[k + 1]) (by simp [hkl])
          have Hnext := Lib.hid (cross_step k hkl hk2)
          have Hlow := Lib.hid (cross_low Hsort.out hkn)
          have hle : ss[k] ≤ ss[k + 1] := List.pairwise_iff_getElem.1 Hsort.out k (k + 1) hkn hkl (by omega)
          have hal : (crossP (ss.take k)).length ≤ 100000 := by have := cross_len (ss.take k); rw [List.length_take] at this; omega
          have hkn' : (k1 : Int) < (sp.length : Int) := by omega
          have hk10 : (0 : Int) ≤ (k1 : Int) := by omega
          have hkn2 : (k : Int) < (sp.length : Int) := by omega
          have c1' : wr.cell? ⟨b, off + k1, none⟩ = some (.int .i64 ss[k + 1]) := by rw [← hk1]; exact c1
          have Hk1 := Lib.hid hk1
          generalize ss[k] = x at *
          generalize ss[k + 1] = z at *
          generalize crossP (ss.take k) = acc at *
          clear hbr hcs c1 hk1
          go_upto_region 13 with fail
          go_region_held3 (fun w' => w'.cell? ⟨b, off + k, none⟩ = some (.int .i64 x) ∧ w'.cell? ⟨b, off + k1, none⟩ = some (.int .i64 z))
            (first | exact ⟨c0, c1'⟩ | go_keep)
            (fail)
          obtain ⟨wb, hwb⟩ : ∃ wb : World, wb = (wr.alloc (.cells #[.int .i64 x, .int .i64 z] 111)).drew := ⟨_, rfl⟩
          rw [← hwb]
          have hq : wb.heap[wr.heap.size]? = some (.cells #[.int .i64 x, .int .i64 z] 111 (0, 0)) := by rw [hwb]; exact heap_alloc_new wr _
          have q0 := cell_of_row wb wr.heap.size 0 _ _ _ hq
          have q1 := cell_of_row wb wr.heap.size 1 _ _ _ hq
          have hsb2 : wr.heap.size < wb.heap.size := by rw [hwb]; simp
          have Hbb : Hid (Below wr.heap.size wr wb) := Lib.hid (by rw [hwb]; exact (by repeat' (first | with_reducible exact Below.refl _ _ | with_reducible refine below_drewN ?_ _ | with_reducible refine Below.drew ?_ | with_reducible refine Below.alloc ?_ ?_ _ | with_reducible refine Below.setCell ?_ ?_ _ | with_reducible refine Below.trans ?_ (Below.mono (by with_reducible assumption) ?_) | (simp; done) | (simp; omega) | omega)))
          have hkm : Hid (k + 2 ≤ ss.length ∧ (k + 2) % 2 = 0 ∧ ss.length - (k + 2) < ss.length - k) := Lib.hid ⟨by omega, by omega, by omega⟩
          have hsb := Hbb.out.size
          have hw2k : IntKind.i64.wrap ((k : Int) + 2) = ((k + 2 : Nat) : Int) := by rw [IntWalk.i64_in _ (by omega)]; omega
          clear hwb hq c0 c1'
          by_cases hxz : x = z
          · rw [if_pos hxz] at Hnext
            subst hxz
            have Hownb := Lib.hid (ownsRow_below Hown.out Hbb.out)
            go_wp2
            go_roundw
            case rel => exact ⟨k + 2, hkm.out.1, hkm.out.2.1, by go_num, by rw [Hnext.out]; exact Hownb.out, Hbr.out.trans (Hbb.out.mono hsr)⟩
            case measure => simp [intOf]; omega
          · rw [if_neg hxz] at Hnext
            have hlt : x < z := by omega
            rcases list_snoc acc with hsn | ⟨a0, q, hsn⟩
            · have Hnew : Hid (sweep acc (x, z, ()) = acc ++ [(x, z, ())]) := Lib.hid (sweep_new acc _ (by rw [hsn]; simp))
              have hl0 : acc.length = 0 := by rw [hsn]; rfl
              have Hlen := Lib.hid hl0
              rw [hl0] at Hown hal
              obtain ⟨Bd, bc, rfl, _, _, _⟩ := own_slice Hown.out
              have Hownb := Lib.hid (ownsRow_below Hown.out Hbb.out)
              clear hsn hl0 hle hlt
              go_upto_region 16 with fail
              go_quiet (fail)
              rename_i nq
              have q04 : (wb.drewN nq).cell? ⟨wr.heap.size, 0, none⟩ = some (.int .i64 x) := q0
              have q14 : (wb.drewN nq).cell? ⟨wr.heap.size, 1, none⟩ = some (.int .i64 z) := q1
              have Hb4 : Hid (Below wr.heap.size wr (wb.drewN nq)) := Lib.hid (below_drewN Hbb.out nq)
              have Hown4 : Hid ((wb.drewN nq).ownsRow w1.heap.size 111 2 (.slice Bd 0 bc) 0 (sCells acc)) := Hownb
              have hs4 := Hb4.out.size
              generalize wb.drewN nq = w4 at *
              clear q0 q1
              go_wp2_with (first
                | (at_builtin
                   go_loud (refine wpList_append_any _ rfl (.tmp 80) (.tmp 82) _ rfl w1.heap.size 111 i0 _ 2 16 Tryz.underlying96 hi hz0 hz1 hz2 rfl (by omega) _ 0 (sCells acc) rfl (Hown4.out.alloc _) _ _ 1 1 [.int .i64 x, .int .i64 z] rfl ⟨rfl, fun _ => ⟨_, rfl, Nat.lt_succ_self _, fun j u hu => (by exact news_any _ _ _ j u hu)⟩⟩ (by simp [Value.oneCell']) (by simp only [maxLen]; omega) (by omega) (by simp; omega) ?_)
                   intro v5 w5 hown5 hg5 hat5)
                | fail)
              go_roundw
              case rel =>
                refine ⟨k + 2, hkm.out.1, hkm.out.2.1, by go_num, ?_, ?_⟩
                · rw [Hnext.out, Hnew.out, List.length_append, sCells_snoc, Hlen.out]
                  exact hown5
                · exact Below.grown ((Hbr.out.trans (Hb4.out.mono hsr)).alloc (by omega) _) hg5 (by simp; omega) (own_base Hown4.out)
              case measure => simp [intOf]; omega
            · have hl0 : acc.length = a0.length + 1 := by rw [hsn]; simp
              obtain ⟨nb, hnb⟩ : ∃ nb, acc.length = nb := ⟨_, rfl⟩
              obtain ⟨p, hp⟩ : ∃ p, a0.length = p := ⟨_, rfl⟩
              have hn1' : nb = p + 1 := by omega
              have hpl : p < acc.length := by omega
              have hblp : acc[p] = q := by
                have h1 : acc[p]? = some q := by rw [hsn, List.getElem?_append_right (by omega), hp]; simp
                rw [List.getElem?_eq_getElem hpl] at h1
                exact Option.some.inj h1
              have hqx : q.2.1 ≤ x := Hlow.out q (by rw [hsn]; simp)
              have Hlen := Lib.hid hnb
              have Hn1 := Lib.hid hn1'
              have Hsn := Lib.hid hsn
              have Hp := Lib.hid hp
              rw [hnb] at Hown hal
              obtain ⟨g, bc, rfl, hgb, hgl, hnc, hcm, hcells, hfr⟩ := own_at Hown.out (by omega)
              have cr := hcells (p * 2 + 1) _ (sCells_at acc p hpl).2
              rw [hblp] at cr
              have Hset : Hid (∀ z : Int, sCells (a0 ++ [(q.1, z, ())]) = (sCells acc).set (p * 2 + 1) (.int .i64 z)) := Lib.hid (fun z => by
                rw [← sCells_setR acc p hpl z, hblp, hsn]
                congr 1
                rw [List.set_append_right _ _ (by omega), hp, Nat.sub_self]
                rfl)
              have hwn : IntKind.i64.wrap ((nb : Int) - 1) = (p : Int) := by rw [IntWalk.i64_in _ (by omega)]; omega
              have hnp : (p : Int) < (nb : Int) := by omega
              have hn00 : (0 : Int) < (nb : Int) := by omega
              have hp00 : (0 : Int) ≤ (p : Int) := by omega
              have hn0N : 0 < nb := by omega
              have hnpN : p < nb := by omega
              have hdn : decide (0 < nb) = true := decide_eq_true hn0N
              have hfg := hfr (p * 2 + 1)
              have crb := (Hbb.out.cell (p := ⟨g, p * 2 + 1, none⟩) hgl).trans cr
              have frb := (Hbb.out.frozen (p := ⟨g, p * 2 + 1, none⟩) hgl).trans hfg
              have Hownb := Lib.hid (ownsRow_below Hown.out Hbb.out)
              clear hsn hl0 hnb hp hn1' hpl hblp hcells hfr cr hfg hle
              by_cases hsq : q.2.1 = x
              · have Hext : Hid (sweep acc (x, z, ()) = a0 ++ [(q.1, z, ())]) := Lib.hid (by
                  rw [Hsn.out, sweep_ext a0 q (x, z, ()) (by show x ≤ q.2.1; omega)]
                  have : max q.2.1 z = z := by omega
                  simp only [this])
                rw [hsq] at crb
                have Hsq := Lib.hid hsq
                clear hsq hlt hqx
                go_upto_region 16 with fail
                go_quiet (fail)
                rename_i nq
                have q14 : (wb.drewN nq).cell? ⟨wr.heap.size, 1, none⟩ = some (.int .i64 z) := q1
                have cr4 : (wb.drewN nq).cell? ⟨g, p * 2 + 1, none⟩ = some (.int .i64 x) := crb
                have fr4 : (wb.drewN nq).frozen? ⟨g, p * 2 + 1, none⟩ = false := frb
                have Hb4 : Hid (Below wr.heap.size wr (wb.drewN nq)) := Lib.hid (below_drewN Hbb.out nq)
                have Hown4 : Hid ((wb.drewN nq).ownsRow w1.heap.size 111 2 (.slice (some ⟨g, 0, none⟩) nb bc) nb (sCells acc)) := Hownb
                generalize wb.drewN nq = w4 at *
                clear q0 q1 crb frb
                go_wp2
                go_roundw
                case rel =>
                  refine ⟨k + 2, hkm.out.1, hkm.out.2.1, by go_num, ?_, ?_⟩
                  · have e1 : (a0 ++ [(q.1, z, ())]).length = nb := by rw [List.length_append, Hp.out, Hn1.out]; rfl
                    rw [Hnext.out, Hext.out, e1, Hset.out]
                    exact own_setN Hown4.out _ _
                  · exact (Hbr.out.trans (Hb4.out.mono hsr)).setCell hgb _
                case measure => simp [intOf]; omega
              · have Hnew : Hid (sweep acc (x, z, ()) = acc ++ [(x, z, ())]) := Lib.hid (sweep_new acc _ (by rw [Hsn.out]; simp; omega))
                clear hlt hqx
                go_upto_region 16 with fail
                go_quiet (fail)
                rename_i nq
                have q04 : (wb.drewN nq).cell? ⟨wr.heap.size, 0, none⟩ = some (.int .i64 x) := q0
                have q14 : (wb.drewN nq).cell? ⟨wr.heap.size, 1, none⟩ = some (.int .i64 z) := q1
                have Hb4 : Hid (Below wr.heap.size wr (wb.drewN nq)) := Lib.hid (below_drewN Hbb.out nq)
                have Hown4 : Hid ((wb.drewN nq).ownsRow w1.heap.size 111 2 (.slice (some ⟨g, 0, none⟩) nb bc) nb (sCells acc)) := Hownb
                have hs4 := Hb4.out.size
                generalize wb.drewN nq = w4 at *
                clear q0 q1 crb frb
                go_wp2_with (first
                  | (at_builtin
                     go_loud (refine wpList_append_any _ rfl (.tmp 80) (.tmp 82) _ rfl w1.heap.size 111 i0 _ 2 16 Tryz.underlying96 hi hz0 hz1 hz2 rfl (by omega) _ nb (sCells acc) rfl (Hown4.out.alloc _) _ _ 1 1 [.int .i64 x, .int .i64 z] rfl ⟨rfl, fun _ => ⟨_, rfl, Nat.lt_succ_self _, fun j u hu => (by exact news_any _ _ _ j u hu)⟩⟩ (by simp [Value.oneCell']) (by simp only [maxLen]; omega) (by omega) (by simp; omega) ?_)
                     intro v5 w5 hown5 hg5 hat5)
                  | fail)
                go_roundw
                case rel =>
                  refine ⟨k + 2, hkm.out.1, hkm.out.2.1, by go_num, ?_, ?_⟩
                  · rw [Hnext.out, Hnew.out, List.length_append, sCells_snoc, Hlen.out]
                    exact hown5
                  · exact Below.grown ((Hbr.out.trans (Hb4.out.mono hsr)).alloc (by omega) _) hg5 (by simp; omega) (own_base Hown4.out)
                case measure => simp [intOf]; omega
        · obtain rfl : k = ss.length := by omega
          have Hown3 : Hid (wr.ownsRow w1.heap.size 111 2 u8 (crossP ss).length (sCells (crossP ss))) := Lib.hid (by have := Hown.out; rw [List.take_of_length_le (Nat.le_refl _)] at this; exact this)
          have hkn' : ¬ (k1 : Int) < (sp.length : Int) := by omega
          clear hbr
          go_wp2
          go_ret
          exact ⟨_, rfl, by rw [Hsp.out, Hss.out]; exact own_rebase Hown3.out hs1, Hb1.out.trans (Hbr.out.mono hs1)⟩
end Go.Proofs.YtpcfhcdbibklcaaGreat

namespace Go.Proofs.YtpcfhcdbibklcaaGreat
open Go.RowKit Go.Shelf
set_option linter.unusedVariables false
set_option linter.unusedSimpArgs false

/-- The first error of rings. -/
def fErr : List (List Pt) → Int
  | [] => 0
  | r :: t => if ringP r = 0 then fErr t else ringP r
theorem fErr_zero : ∀ {rs : List (List Pt)}, fErr rs = 0 ↔ ∀ r ∈ rs, ringP r = 0
  | [] => by simp [fErr]
  | r :: t => by
    rw [fErr]
    split
    · next h => rw [fErr_zero]; simp [h]
    · next h => simp [h]
theorem fErr_at : ∀ {rs : List (List Pt)} {i : Nat} (h : i < rs.length), (∀ j (hj : j < rs.length), j < i → ringP rs[j] = 0) → ringP rs[i] ≠ 0 → fErr rs = ringP rs[i]
  | [], i, h, _, _ => by simp at h
  | r :: t, 0, h, h1, h2 => by
    have h2' : ringP r ≠ 0 := h2
    rw [fErr, if_neg h2']
    rfl
  | r :: t, i + 1, h, h1, h2 => by
    have h0 : ringP r = 0 := h1 0 (by simp) (by omega)
    rw [fErr, if_pos h0]
    exact fErr_at (by simpa using h) (fun j hj hji => h1 (j + 1) (by simpa using hj) (by omega)) h2
/-- outline.Fill. -/
def fillV (rs : List (List Pt)) : List R4 × Int := if 60 < rs.length then ([], 1) else if fErr rs ≠ 0 then ([], fErr rs) else if 120 < (fillR (wallsL rs)).length then ([], 1) else (fillR (wallsL rs), 0)
theorem yWs_snoc (l : List Wl) (q : Wl) : yWs (l ++ [q]) = yWs l ++ [q.2.1, q.2.2] := by simp [yWs]
theorem yWs_len (l : List Wl) : (yWs l).length = 2 * l.length := by
  induction l with
  | nil => rfl
  | cons a t ih => simp [yWs] at *; omega
set_option maxHeartbeats 400000 in
theorem fillRow_any (g : Nat) (A : Option Addr) (n c : Nat) (ws : List Wl) (y : Int) (w : World) (hg : w.cell? ⟨g, 0, none⟩ = some (.slice A n c)) (hA : SlW w A n c ws) (hn1 : n ≤ 100000) (hev : (xsAt ws y).length % 2 = 0) :
    Calls Tryz.prog 55 #[.int .i64 y, .pointer (some ⟨g, 0, none⟩)] w fun e w' => ∃ v, e = .returned v ∧ w'.ownsRow w.heap.size 111 2 v (crossP (srt (xsAt ws y))).length (sCells (crossP (srt (xsAt ws y)))) ∧ Below w.heap.size w w' := by
  have HA := Lib.hid hA
  have Hev := Lib.hid hev
  clear hA hev
  go_enter Tryz.func55, Tryz.ntmps55
  go_wp2_with (first | (go_at_call 56; refine (crossed_any A n c ws y _ (HA.out.below (by repeat' (first | with_reducible exact Below.refl _ _ | with_reducible refine below_drewN ?_ _ | with_reducible refine Below.drew ?_ | with_reducible refine Below.alloc ?_ ?_ _ | with_reducible refine Below.setCell ?_ ?_ _ | with_reducible refine Below.trans ?_ (Below.mono (by with_reducible assumption) ?_) | (simp; done) | (simp; omega) | omega))) hn1 Hev.out).mono ?_; rintro e w1 ⟨v1, rfl, hown1, hb1⟩; have Hown1 := Lib.hid hown1; have Hb1 := Lib.hid hb1; clear hown1 hb1) | fail)
  go_ret
  exact ⟨v1, rfl, Hown1.out, Hb1.out⟩
end Go.Proofs.YtpcfhcdbibklcaaGreat

namespace Go.Proofs.YtpcfhcdbibklcaaGreat
open Go.RowKit Go.Shelf
set_option linter.unusedVariables false
set_option linter.unusedSimpArgs false

theorem wallsO_len (r : List Pt) : (wallsO r).length ≤ r.length := wallsTo_len r r.length
theorem wallsL_len (rs : List (List Pt)) : (wallsL rs).length ≤ (rs.map List.length).sum := by
  induction rs with
  | nil => simp [wallsL]
  | cons r t ih =>
    have := wallsO_len r
    show (wallsO r ++ wallsL t).length ≤ _
    rw [List.length_append, List.map_cons, List.sum_cons]
    omega
theorem rings_total {P : Sq} {es : List R4} (h : ESet P es) {cs : List (R4 × List R4)} (hr : Rings P es cs) : ((cs.map ringOf).map List.length).sum ≤ es.length := by
  rw [← (rings_perm h hr).length_eq]
  have hn := hr.ring
  clear hr
  induction cs with
  | nil => simp
  | cons c t ih =>
    have h1 := ih fun k hk => hn k (List.mem_cons_of_mem _ hk)
    have h2 := (cor_from (hn c (by simp)).lk).length_le
    have h3 : (ringOf c).length = (crn c).length := by rw [ringOf_eq, List.length_map, (begD_perm _).length_eq]
    rw [List.map_cons, List.map_cons, List.sum_cons, List.flatMap_cons, List.length_append, h3]
    have h4 : (crn c).length ≤ c.2.length + 1 := by simpa [crn] using h2
    rw [List.length_cons]
    omega
theorem sumN_perm {l m : List Nat} (h : l.Perm m) : l.sum = m.sum := by
  induction h with
  | nil => rfl
  | cons x _ ih => simp [ih]
  | swap x y l => simp; omega
  | trans _ _ i1 i2 => rw [i1, i2]
end Go.Proofs.YtpcfhcdbibklcaaGreat

namespace Go.Proofs.YtpcfhcdbibklcaaGreat
open Go.RowKit Go.Shelf
set_option linter.unusedVariables false
set_option linter.unusedSimpArgs false

/-- Two boxes filled, one after the other. -/
theorem fill2_at {w : World} {b1 b2 : Nat} {t : TypeId} {x x' y y' z : Value} (h12 : b1 ≠ b2) (p1 : w.heap[b1]? = some (.cells #[z, z] t (0, 0))) (p2 : w.heap[b2]? = some (.cells #[z, z] t (0, 0))) :
    ((((w.setCell ⟨b1, 0, none⟩ x).setCell ⟨b1, 1, none⟩ y).setCell ⟨b2, 0, none⟩ x').setCell ⟨b2, 1, none⟩ y').heap[b1]? = some (.cells #[x, y] t (0, 0)) ∧ ((((w.setCell ⟨b1, 0, none⟩ x).setCell ⟨b1, 1, none⟩ y).setCell ⟨b2, 0, none⟩ x').setCell ⟨b2, 1, none⟩ y').heap[b2]? = some (.cells #[x', y'] t (0, 0)) := by
  refine ⟨?_, ?_⟩
  · rw [box2o h12.symm]; exact box2p p1
  · exact box2p ((box2o h12).trans p2)
end Go.Proofs.YtpcfhcdbibklcaaGreat
