import Derived.Test.YtfmkmhhghmdakaaGreatDoorRM
import Derived.Test.YtfmkmhhghmdakaaGreatDoorRN
namespace Go.Proofs.YtfmkmhhghmdakaaGreatDoor
open Go.RowKit
set_option linter.unusedVariables false
set_option linter.unusedSimpArgs false
set_option maxHeartbeats 64000000
set_option maxRecDepth 100000
theorem howR2 : howR 2 = andB := by funext x y; rfl
theorem howR3 : howR 3 = notB := by funext x y; rfl
theorem meets_len (a b : List R4) : meetsP a b = (validP a && validP b && decide (0 < (chooseP andB a b).length)) := by
  unfold meetsP
  cases ha : validP a with
  | false => rfl
  | true =>
    cases hb : validP b with
    | false => rfl
    | true =>
      have hin : ∀ l, validP l = true → InS 268435456 l := fun l h q hq => by
        unfold validP at h
        simp only [Bool.and_eq_true, decide_eq_true_eq] at h
        have := List.all_eq_true.1 h.1.2 q hq
        simp [R4.ok] at this
        omega
      have ia := hin a ha
      have ib := hin b hb
      have hn := choose_nil (how := andB) rfl ia ib
      have ho := over_some ia ib
      rw [Bool.true_and, Bool.true_and, Bool.true_and]
      refine bool_eq ?_
      rw [ho, decide_eq_true_eq, List.length_pos_iff]
      constructor
      · rintro ⟨x, y, h⟩ h'
        have := hn.1 h' x y
        unfold andB at this
        rw [h] at this; cases this
      · intro h
        refine Classical.byContradiction fun hc => h (hn.2 fun x y => ?_)
        cases hx : andB (inL a x y) (inL b x y) with
        | false => rfl
        | true => exact absurd ⟨x, y, hx⟩ hc
theorem meetsR_any (A B : Option Addr) (n c m d : Nat) (a b : List R4) (w : World) (hA : SlR w A n c a) (hB : SlR w B m d b) :
    Calls Tryz.prog 121 #[.agg #[.slice A n c], .agg #[.slice B m d]] w fun e w' => e = .returned (.bool (meetsP a b)) ∧ Below w.heap.size w w' := by
  have hna := hA.len
  have hnb := hB.len
  have HA := Lib.hid hA
  have HB := Lib.hid hB
  have HVa := Lib.hid (fun W (hW : Below w.heap.size w W) => validR_any A n c a W (HA.out.below hW))
  have HVb := Lib.hid (fun W (hW : Below w.heap.size w W) => validR_any B m d b W (HB.out.below hW))
  have Hx : Hid (meetsP a b = (validP a && validP b && decide (0 < (chooseP andB a b).length))) := Lib.hid (meets_len a b)
  have Hva : Hid (validP a = true → (n ≤ 750 ∧ ∀ q ∈ a, q.l < q.r)) := Lib.hid (fun h => by
    unfold validP at h
    simp only [Bool.and_eq_true, decide_eq_true_eq] at h
    exact ⟨by omega, ok_pos h.1.2⟩)
  have Hvb : Hid (validP b = true → (m ≤ 750 ∧ ∀ q ∈ b, q.l < q.r)) := Lib.hid (fun h => by
    unfold validP at h
    simp only [Bool.and_eq_true, decide_eq_true_eq] at h
    exact ⟨by omega, ok_pos h.1.2⟩)
  generalize meetsP a b = res at *
  obtain ⟨va, hva⟩ : ∃ va, validP a = va := ⟨_, rfl⟩
  obtain ⟨vb, hvb⟩ : ∃ vb, validP b = vb := ⟨_, rfl⟩
  rw [hva] at HVa Hx Hva
  rw [hvb] at HVb Hx Hvb
  clear hva hvb
  go_enter Tryz.func121, Tryz.ntmps121
  go_upto_region 1 with fail
  obtain ⟨w1, hw1⟩ : ∃ w1 : World, w1 = (w.alloc (.cells #[.slice A n c] 33)).alloc (.cells #[.slice B m d] 33) := ⟨_, rfl⟩
  rw [← hw1]
  have HL1 : Hid (RBs w1 [⟨w.heap.size + 1, B, m, d, b⟩, ⟨w.heap.size, A, n, c, a⟩]) := Lib.hid (by rw [hw1]; exact RBs.two w A B n c m d a b hA hB)
  have Hb1 : Hid (Below w.heap.size w w1) := Lib.hid (by rw [hw1]; exact gBel)
  have hs1 := Hb1.out.size
  have c0 : w1.cell? ⟨w.heap.size, 0, none⟩ = some (.slice A n c) := (HL1.out _ (.tail _ (.head _))).c0
  have c1 : w1.cell? ⟨w.heap.size + 1, 0, none⟩ = some (.slice B m d) := (HL1.out _ (.head _)).c0
  clear hw1 hA hB
  cases va with
  | false =>
    have e0 : res = false := by rw [Hx.out]; rfl
    subst e0
    go_wp2_with (first
      | (go_at_call 120
         refine (HVa.out _ Hb1.out).mono ?_
         rintro e w2 ⟨rfl, hb2⟩
         have Hb2 : Hid (Below w.heap.size w w2) := Lib.hid (Hb1.out.trans (hb2.mono hs1))
         clear hb2)
      | fail)
    go_ret
    exact ⟨rfl, Hb2.out⟩
  | true =>
    obtain ⟨hn7, ha⟩ := Hva.out rfl
    have Ha := Lib.hid ha
    clear ha Hva
    cases vb with
    | false =>
      have e0 : res = false := by rw [Hx.out]; rfl
      subst e0
      go_wp2_with (first
        | (go_at_call_of 120 (Value.slice A n c)
           refine (HVa.out _ Hb1.out).mono ?_
           rintro e w2 ⟨rfl, hb2⟩
           have Hb2 : Hid (Below w.heap.size w w2) := Lib.hid (Hb1.out.trans (hb2.mono hs1))
           have c02 : w2.cell? ⟨w.heap.size, 0, none⟩ = some (.slice A n c) := ((HL1.out.below hb2) _ (.tail _ (.head _))).c0
           have c12 : w2.cell? ⟨w.heap.size + 1, 0, none⟩ = some (.slice B m d) := ((HL1.out.below hb2) _ (.head _)).c0
           clear hb2)
        | (go_at_call_of 120 (Value.slice B m d)
           refine (HVb.out _ Hb2.out).mono ?_
           rintro e w3 ⟨rfl, hb3⟩
           have Hb3 : Hid (Below w.heap.size w w3) := Lib.hid (Hb2.out.trans (hb3.mono Hb2.out.size))
           clear hb3)
        | fail)
      go_ret
      exact ⟨rfl, Hb3.out⟩
    | true =>
      obtain ⟨hm7, hb⟩ := Hvb.out rfl
      have Hbp := Lib.hid hb
      clear hb Hvb
      have HC := Lib.hid (fun W (hW : Below w.heap.size w W) => combineR_any A B n c m d a b 2 W (HA.out.below hW) (HB.out.below hW) (by omega))
      rw [← choose_comb (howR 2) (howR_no 2) a b Ha.out Hbp.out, howR2] at HC
      have Hx2 : Hid (res = decide (0 < (chooseP andB a b).length)) := Lib.hid (by rw [Hx.out]; rfl)
      clear Hx
      generalize chooseP andB a b = cl at *
      obtain ⟨N, hN⟩ : ∃ N, cl.length = N := ⟨_, rfl⟩
      have HN := Lib.hid hN
      rw [hN] at Hx2
      have hN9 : 0 < N ∨ ¬ 0 < N := by omega
      clear hN
      rcases hN9 with hN0 | hN0
      all_goals
        first
          | (have e0 : res = true := by rw [Hx2.out, decide_eq_true hN0])
          | (have e0 : res = false := by rw [Hx2.out, decide_eq_false hN0])
        subst e0
        have hNd : decide ((0 : Int) < (N : Int)) = decide (0 < N) := by rw [Bool.eq_iff_iff]; simp
        try (have hNi : ¬ (0 : Int) < (N : Int) := by omega)
        try (have hNj : (0 : Int) < (N : Int) := by omega)
        go_wp2_with (first
          | (go_at_call_of 120 (Value.slice A n c)
             refine (HVa.out _ Hb1.out).mono ?_
             rintro e w2 ⟨rfl, hb2⟩
             have Hb2 : Hid (Below w.heap.size w w2) := Lib.hid (Hb1.out.trans (hb2.mono hs1))
             have HL2 := Lib.hid (HL1.out.below hb2)
             have c02 : w2.cell? ⟨w.heap.size, 0, none⟩ = some (.slice A n c) := (HL2.out _ (.tail _ (.head _))).c0
             have c12 : w2.cell? ⟨w.heap.size + 1, 0, none⟩ = some (.slice B m d) := (HL2.out _ (.head _)).c0
             clear hb2)
          | (go_at_call_of 120 (Value.slice B m d)
             refine (HVb.out _ Hb2.out).mono ?_
             rintro e w3 ⟨rfl, hb3⟩
             have Hb3 : Hid (Below w.heap.size w w3) := Lib.hid (Hb2.out.trans (hb3.mono Hb2.out.size))
             have HL3 := Lib.hid (HL2.out.below hb3)
             have c03 : w3.cell? ⟨w.heap.size, 0, none⟩ = some (.slice A n c) := (HL3.out _ (.tail _ (.head _))).c0
             have c13 : w3.cell? ⟨w.heap.size + 1, 0, none⟩ = some (.slice B m d) := (HL3.out _ (.head _)).c0
             clear hb3)
          | (go_at_call 46
             refine (HC.out _ Hb3.out).mono ?_
             rintro e w4 ⟨v4, rfl, hown4, hb4⟩
             obtain ⟨E, ec, rfl, _⟩ := SlR.of_own hown4
             rw [HN.out]
             have Hb4 : Hid (Below w.heap.size w w4) := Lib.hid (Hb3.out.trans (hb4.mono Hb3.out.size))
             clear hown4 hb4)
          | fail)
        go_ret
        exact ⟨by simp [hN0], Hb4.out⟩
end Go.Proofs.YtfmkmhhghmdakaaGreatDoor
namespace Go.Proofs.YtfmkmhhghmdakaaGreatDoor
open Go.RowKit Go.Shelf
set_option linter.unusedVariables false
set_option linter.unusedSimpArgs false
set_option maxHeartbeats 64000000
set_option maxRecDepth 100000
def AP (a b : Value) : Prop := ∀ g, a.ownBlock = some g → b.ownBlock ≠ some g
theorem AP.symm {a b : Value} (h : AP a b) : AP b a := fun g h1 h2 => h g h2 h1
theorem AP.grow {a a' b : Value} {n : Nat} (h : AP a b) (hat : a'.ownBlock = a.ownBlock ∨ a'.ownBlock = some n) (hb : ∀ g, b.ownBlock = some g → g < n) : AP a' b := by
  intro g h1 h2
  rcases hat with e | e
  · rw [e] at h1; exact h g h1 h2
  · rw [e] at h1
    injection h1 with h1
    have := hb g h2
    omega
def nums (n : Nat) : List Int := (List.range n).map fun i : Nat => (i : Int) + 1
theorem nums_succ (n : Nat) : nums (n + 1) = nums n ++ [(n : Int) + 1] := by simp [nums, List.range_succ]
theorem PcOk.push {R : List (List R4)} (h : PcOk R) (hl : R.length < 3) {q : List R4} (hq : PclAt R.length q) : PcOk (R ++ [q]) := by
  refine ⟨by simp; omega, fun i hi => ?_⟩
  by_cases hr : i < R.length
  · rw [List.getElem_append_left hr]; exact h.at' i hr
  · have : i = R.length := by simp at hi; omega
    subst this
    rw [List.getElem_append_right (Nat.le_refl _)]
    simpa using hq
theorem shift_len (p : Int) (a : List R4) : (shift p a).length = a.length := by simp [shift]
theorem shift_succ (p : Int) (a : List R4) (t : Nat) (h : t < a.length) : shift p (a.take (t + 1)) = shift p (a.take t) ++ [⟨a[t].l + 10 * p, a[t].b, a[t].r + 10 * p, a[t].t⟩] := by
  unfold shift
  rw [List.take_succ_eq_append_getElem h, List.map_append]
  rfl
theorem rCells_shift (p : Int) (a : List R4) (t : Nat) (h : t < a.length) : ((rCells (shift p (a.take t) ++ a.drop t)).set (t * 4) (.int .i64 (a[t].l + 10 * p))).set (t * 4 + 2) (.int .i64 (a[t].r + 10 * p)) = rCells (shift p (a.take (t + 1)) ++ a.drop (t + 1)) := by
  have hl : (rCells (shift p (a.take t))).length = t * 4 := by rw [rCells_len, shift_len, List.length_take, Nat.min_eq_left (Nat.le_of_lt h)]
  have hd : a.drop t = a[t] :: a.drop (t + 1) := List.drop_eq_getElem_cons h
  have hc : ∀ (o : R4) (m : List R4), rCells (o :: m) = [.int .i64 o.l, .int .i64 o.b, .int .i64 o.r, .int .i64 o.t] ++ rCells m := fun o m => by simp [rCells, R4.cells]
  rw [shift_succ p a t h, hd, rCells_app, hc, List.append_assoc, rCells_app, List.set_append_right _ _ (by omega), List.set_append_right _ _ (by omega), hl, Nat.sub_self, show t * 4 + 2 - t * 4 = 2 by omega, List.singleton_append, hc]
  rfl
def LinesPost (w : World) (g nc most : Nat) (e : Ending) (w' : World) : Prop :=
  ∃ (L : LL) (LA : Option Addr) (lc : Nat) (R : RL) (NA : Option Addr) (kc : Nat) (RA : Option Addr) (rc : Nat) (r : List Int) (k : Nat), e = .returned (.tuple #[.slice LA L.length lc, .slice NA R.length kc, .slice RA R.length rc]) ∧
    LsOwn w' w.heap.size (.slice LA L.length lc) L ∧ w'.ownsRow w.heap.size 3 1 (.slice NA R.length kc) R.length ((nums R.length).map (.int .i64)) ∧ RsOwn w' w.heap.size (.slice RA R.length rc) R ∧ TapeAt w' g r ∧ w.grownBy w' (some g) ∧ PcOk (rgs R) ∧ 1 ≤ R.length ∧ LsOk (rgs R) nc k (lns L) ∧ k ≤ most
theorem lines_any (g : Nat) (r : List Int) (CA : Option Addr) (nc cc most : Nat) (w : World) (ht : TapeAt w g r) (hnc : 1 ≤ nc ∧ nc ≤ 1000) (hmost : most ≤ 4) :
    Calls Tryz.prog 8 #[.pointer (some ⟨g, 0, none⟩), .slice CA nc cc, .int .i64 (most : Int)] w (LinesPost w g nc most) := by
  obtain ⟨i0, hi, hz0, hz1, hz2⟩ := info_parts Tryz.infoInt
  obtain ⟨i1, hj, hj0, hj1, hj2⟩ := info_parts Tryz.infoRegion
  obtain ⟨i2, hl, hi2z, hl1, hl2⟩ := info_parts Tryz.infoLine
  have hlt := ht.lt
  have Ht := Lib.hid ht
  clear ht
  go_enter Tryz.func8, Tryz.ntmps8
  go_upto_region 5 with (first
    | (go_at_call 43
       refine (range_any g r 1 3 _ Ht.out (by omega) (by omega) (by omega)).mono ?_
       rintro e w1 ⟨rfl, ht1, hg1⟩
       have hkb := nx_bd r (3 - 1 + 1) (by omega)
       generalize nx r (3 - 1 + 1) = k0 at *
       obtain ⟨m0, hm0⟩ : ∃ m : Nat, 1 + k0 = (m : Int) := ⟨(1 + k0).toNat, by omega⟩
       have hm03 : 1 ≤ m0 ∧ m0 ≤ 3 := by omega
       rw [hm0]
       have Ht1 := Lib.hid ht1
       have Hg1 := Lib.hid hg1
       have hs1 : w.heap.size ≤ w1.heap.size := hg1.size
       clear ht1 hg1 hkb hm0)
    | fail)
  go_loopw [9, 10, 12, 13] (fun nv rv kv _ wr => ∃ (R : RL) (k : Nat) (r1 : List Int), R.length + k = m0 ∧ kv = .int .i64 (k : Int) ∧ wr.ownsRow w.heap.size 3 1 nv R.length ((nums R.length).map (.int .i64)) ∧ RsOwn wr w.heap.size rv R ∧ PcOk (rgs R) ∧ AP nv rv ∧ (∀ x ∈ R, AP nv (rgC x)) ∧ TapeAt wr g r1 ∧ w.grownBy wr (some g)) (fun _ _ kv _ _ => (intOf kv).toNat)
  case atStart => exact ⟨[], m0, _, by simp, rfl, World.ownsRow_nil _ _ _ _, RsOwn.nil _ _, ⟨by simp [rgs], fun i hi => (by simp [rgs] at hi)⟩, fun g h => (by simp [Value.ownBlock] at h), fun x hx => (by cases hx), Ht1.out, Hg1.out⟩
  case round =>
    obtain ⟨R, k, r1, hRk, rfl, hnum, hR, hpc, hap, hapx, htr, hgr⟩ := hrel
    have Hnum := Lib.hid hnum
    have HR := Lib.hid hR
    have Hpc := Lib.hid hpc
    have Hap := Lib.hid hap
    have Hapx := Lib.hid hapx
    have Htr := Lib.hid htr
    have Hgr := Lib.hid hgr
    have hsr := hgr.size
    have hgw := htr.lt
    obtain ⟨n, hn⟩ : ∃ n, R.length = n := ⟨_, rfl⟩
    have Hn := Lib.hid hn
    rw [hn] at hRk Hnum
    clear hnum hR hpc hap hapx htr hgr hn
    by_cases hk0 : 0 < k
    · have hk0' : (0 : Int) < (k : Int) := by omega
      have hn2 : n ≤ 2 := by omega
      obtain ⟨NA, kc, rfl, _, _, _⟩ := own_slice Hnum.out
      have hwn1 : IntKind.i64.wrap ((n : Int) + 1) = (n : Int) + 1 := IntWalk.i64_in _ (by omega)
      have hwn : IntKind.i64.wrap (10 * (n : Int)) = 10 * (n : Int) := IntWalk.i64_in _ (by omega)
      go_wp2_with (first
        | (at_builtin
           refine wpList_append_any _ rfl (.tmp 29) (.tmp 32) _ rfl w.heap.size 3 i0 _ 1 8 Tryz.underlying22 hi hz0 hz1 hz2 rfl (by omega) _ n ((nums n).map (.int .i64)) rfl
             (Hnum.out.alloc _) _ _ 1 1 [.int .i64 ((n : Int) + 1)] rfl ⟨rfl, fun _ => ⟨_, rfl, Nat.lt_succ_self _, fun j u hu => (by exact news_any _ _ _ j u hu)⟩⟩ (by simp [Value.oneCell']) (by simp only [maxLen]; omega) (by omega) (by simp; omega) ?_
           intro v5 w5 hown5 hg5 hat5
           have Hown5 := Lib.hid hown5
           have HR5 : Hid (RsOwn w5 w.heap.size u10 R) := Lib.hid ((HR.out.below ((Below.refl _ _).alloc (Nat.le_refl _) _)).apart hg5 (fun q hq e => Hap.out q e hq) (fun x hx q hq e => Hapx.out x hx q e hq))
           have hltR := own_ltY HR.out.o
           have hltX := fun x hx => own_ltY (HR.out.fs x hx)
           have Hap5 : Hid (AP v5 u10) := Lib.hid (AP.grow Hap.out hat5 (fun q hq => by have := hltR q hq; simp; omega))
           have Hapx5 : Hid (∀ x ∈ R, AP v5 (rgC x)) := Lib.hid (fun x hx => AP.grow (Hapx.out x hx) hat5 (fun q hq => by have := hltX x hx q hq; simp; omega))
           have Ht5 := Lib.hid ((Htr.out.alloc (.cells #[.int .i64 ((n : Int) + 1)] 3)).grown hg5 (fun q hq => by have := own_base Hnum.out q hq; omega))
           have Hg5 := Lib.hid (only_grown (only_alloc Hgr.out (.cells #[.int .i64 ((n : Int) + 1)] 3)) hg5 (fun q hq => own_base Hnum.out q hq))
           have H5 : Hid True := Lib.hid trivial
           clear hown5 hg5 hat5 hltR hltX)
        | (go_at_call 43
           have hguard := H6.out
           refine (range_any g r1.tail 2 9 _ Ht6.out (by omega) (by omega) (by omega)).mono ?_
           rintro e w7 ⟨rfl, ht7, hg7⟩
           have hq7 := nx_bd r1.tail (9 - 2 + 1) (by omega)
           generalize nx r1.tail (9 - 2 + 1) = q7 at *
           have Ht7 := Lib.hid ht7
           have Hg7 := Lib.hid (only_trans Hg6.out hg7)
           have Hown7 := Lib.hid (ownsRow_only Hown6.out hg7 hlt)
           have HR7 := Lib.hid (HR6.out.only hg7 hlt)
           have hs7 : w.heap.size ≤ w7.heap.size := Hg7.out.size
           have hgw7 : g < w7.heap.size := ht7.lt
           have hcl : PclAt n [⟨10 * (n : Int), 0, 10 * (n : Int) + (2 + q6), 2 + q7⟩] := ⟨2 + q6, 2 + q7, by omega, by omega, rfl⟩
           have hwq : IntKind.i64.wrap (10 * (n : Int) + (2 + q6)) = 10 * (n : Int) + (2 + q6) := IntWalk.i64_in _ (by omega)
           have Hcl := Lib.hid hcl
           clear ht7 hg7 hguard hcl)
        | (go_at_call 43
           have hguard := H5.out
           refine (range_any g r1 2 9 _ Ht5.out (by omega) (by omega) (by omega)).mono ?_
           rintro e w6 ⟨rfl, ht6, hg6⟩
           have hq6 := nx_bd r1 (9 - 2 + 1) (by omega)
           generalize nx r1 (9 - 2 + 1) = q6 at *
           have Ht6 := Lib.hid ht6
           have Hg6 := Lib.hid (only_trans Hg5.out hg6)
           have Hown6 := Lib.hid (ownsRow_only Hown5.out hg6 hlt)
           have HR6 := Lib.hid (HR5.out.only hg6 hlt)
           have hs6 : w.heap.size ≤ w6.heap.size := Hg6.out.size
           have H6 : Hid True := Lib.hid trivial
           have hwq6 : IntKind.i64.wrap (10 * (n : Int) + (2 + q6)) = 10 * (n : Int) + (2 + q6) := IntWalk.i64_in _ (by omega)
           clear ht6 hg6 hguard)
        | (at_builtin
           have hguard := H6.out
           (go_loud (refine wpList_append_any _ rfl (.tmp 34) (.tmp 47) _ rfl w.heap.size 33 i1 _ 1 24 Tryz.underlying26 hj hj0 hj1 hj2 rfl (by omega) _ n (rgCells R) rfl ((by have h := HR7.out.o; rw [Hn.out] at h; exact (h.alloc _).alloc _)) _ _ 1 1 [.slice (some ⟨w7.heap.size, 0, none⟩) 1 1] rfl ⟨rfl, fun _ => ⟨_, rfl, Nat.lt_succ_self _, fun j u hu => (by have hnw := news_any (w7.alloc (.cells #[.int .i64 (10 * (n : Int)), .int .i64 0, .int .i64 (10 * (n : Int) + (2 + q6)), .int .i64 (2 + q7)] 68)) #[.slice (some ⟨w7.heap.size, 0, none⟩) 1 1] 33 j u hu; rw [World.size_alloc] at hnw; exact hnw)⟩⟩ (by simp [Value.oneCell']) (by simp only [maxLen]; omega) (by omega) (by simp; omega) ?_))
           intro v8 w8 hown8 hg8 hat8
           clear hguard)
        | fail)
      go_roundw
      case rel =>
        have hb7 := own_base HR7.out.o
        have hlt7 := own_ltY Hown7.out
        have hlit := (own_lit w7 68 4 1 #[.int .i64 (10 * (n : Int)), .int .i64 0, .int .i64 (10 * (n : Int) + (2 + q6)), .int .i64 (2 + q7)] (rCells [⟨10 * (n : Int), 0, 10 * (n : Int) + (2 + q6), 2 + q7⟩]) rfl rfl (by unfold maxLen; omega)).alloc (.cells #[.slice (some ⟨w7.heap.size, 0, none⟩) 1 1] 33)
        have hnum8 := own_grownY ((Hown7.out.alloc (.cells #[.int .i64 (10 * (n : Int)), .int .i64 0, .int .i64 (10 * (n : Int) + (2 + q6)), .int .i64 (2 + q7)] 68)).alloc (.cells #[.slice (some ⟨w7.heap.size, 0, none⟩) 1 1] 33)) hg8 (fun q hq e => Hap5.out q hq e)
        refine ⟨R ++ [([⟨10 * (n : Int), 0, 10 * (n : Int) + (2 + q6), 2 + q7⟩], ⟨some ⟨w7.heap.size, 0, none⟩, 1⟩)], k - 1, r1.tail.tail, by rw [List.length_append, Hn.out]; simp; omega, by rw [show ((k - 1 : Nat) : Int) = (k : Int) - 1 by omega], ?_, ?_, ?_, ?_, ?_, ?_, ?_⟩
        · rw [List.length_append, Hn.out, List.length_singleton, nums_succ, List.map_append]
          exact hnum8
        · refine RsOwn.push HR7.out ([⟨10 * (n : Int), 0, 10 * (n : Int) + (2 + q6), 2 + q7⟩], ⟨some ⟨w7.heap.size, 0, none⟩, 1⟩) (own_rebase hlit hs7) (fun q hq e => ?_) (((Below.refl _ _).alloc (Nat.le_refl _) _).alloc (by simp) _) hg8 (by rw [Hn.out]; exact hown8) hat8
          have h1 := own_ltY HR7.out.o q hq
          simp [Value.ownBlock] at e
          omega
        · have e : rgs (R ++ [([⟨10 * (n : Int), 0, 10 * (n : Int) + (2 + q6), 2 + q7⟩], ⟨some ⟨w7.heap.size, 0, none⟩, 1⟩)]) = rgs R ++ [[⟨10 * (n : Int), 0, 10 * (n : Int) + (2 + q6), 2 + q7⟩]] := by simp [rgs]
          rw [e]
          exact Hpc.out.push (by rw [rgs_len, Hn.out]; omega) (by rw [rgs_len, Hn.out]; exact Hcl.out)
        · exact (AP.grow Hap5.out.symm hat8 (fun q hq => by have := hlt7 q hq; simp; omega)).symm
        · intro x hx
          rcases List.mem_append.1 hx with hx | hx
          · exact Hapx5.out x hx
          · rw [List.mem_singleton] at hx
            subst hx
            intro q hq e
            have := hlt7 q hq
            simp [rgC, Value.ownBlock] at e
            omega
        · exact ((Ht7.out.alloc _).alloc _).grown hg8 (fun q hq => by have := hb7 q hq; omega)
        · exact only_grown (only_alloc (only_alloc Hg7.out _) _) hg8 (fun q hq => hb7 q hq)
      case measure => simp [intOf]; omega
    · obtain rfl : k = 0 := by omega
      have hk0' : ¬ (0 : Int) < ((0 : Nat) : Int) := by omega
      obtain rfl : n = m0 := by omega
      obtain ⟨w2, hw2⟩ : ∃ w2 : World, w2 = wr := ⟨_, rfl⟩
      subst hw2
      obtain ⟨NA, kc, rfl, _, _, _⟩ := own_slice Hnum.out
      obtain ⟨RA, rc, rfl, _, _, _⟩ := own_slice HR.out.o
      have hwm : IntKind.i64.wrap ((most : Int) + 1) = (most : Int) + 1 := IntWalk.i64_in _ (by omega)
      have hmR : 1 ≤ R.length := by have := Hn.out; omega
      go_upto_region 10 with (first
        | (go_at_call 44
           refine (next_any g r1 ((most : Int) + 1) _ Htr.out (by omega)).mono ?_
           rintro e w3 ⟨rfl, ht3, hg3⟩
           have hkb := nx_bd r1 ((most : Int) + 1) (by omega)
           generalize nx r1 ((most : Int) + 1) = m1 at *
           obtain ⟨m1, rfl⟩ : ∃ m : Nat, m1 = (m : Int) := ⟨m1.toNat, by omega⟩
           have hm14 : m1 ≤ most := by omega
           have hm4 : m1 ≤ 4 := by omega
           have Ht3 := Lib.hid ht3
           have Hg3 := Lib.hid hg3
           have hs3 : w2.heap.size ≤ w3.heap.size := hg3.size
           clear ht3 hg3 hkb)
        | fail)
      go_loopw [11, 14, 15, 17, 18, 66, 108] (fun lv kv _ _ _ _ _ wr => ∃ (L : LL) (k j : Nat) (r2 : List Int), k + j = m1 ∧ kv = .int .i64 (k : Int) ∧ LsOwn wr w2.heap.size lv L ∧ LsOk (rgs R) nc j (lns L) ∧ TapeAt wr g r2 ∧ w2.grownBy wr (some g)) (fun _ kv _ _ _ _ _ _ => (intOf kv).toNat)
      case atStart => exact ⟨[], m1, 0, _, rfl, rfl, LsOwn.nil _ _, LsOk.nil Hpc.out nc, Ht3.out, Hg3.out⟩
      case round =>
        obtain ⟨L, k, j, r2, hkj, rfl, hL, hok, htr2, hgr2⟩ := hrel
        have HL := Lib.hid hL
        have Hok := Lib.hid hok
        have Htr2 := Lib.hid htr2
        have Hgr2 := Lib.hid hgr2
        have hsr2 := hgr2.size
        have hgw2 : g < w2.heap.size := hgw
        clear hL hok htr2 hgr2
        by_cases hk0 : 0 < k
        · have hk0' : (0 : Int) < (k : Int) := by omega
          have hj4 : j < 4 := by omega
          go_upto_region 13 with (first
            | (go_at_call 44
               refine (next_any g r2 (n : Int) _ Htr2.out (by omega)).mono ?_
               rintro e w4 ⟨rfl, ht4, hg4⟩
               have hpb := nx_bd r2 (n : Int) (by omega)
               generalize nx r2 (n : Int) = p at *
               obtain ⟨p, rfl⟩ : ∃ m : Nat, p = (m : Int) := ⟨p.toNat, by omega⟩
               have hpn : p < n := by omega
               have Ht4 := Lib.hid ht4
               have Hg4 := Lib.hid (only_trans Hgr2.out hg4)
               have HL4 := Lib.hid (HL.out.only hg4 hgw2)
               have hs4 : w2.heap.size ≤ w4.heap.size := Hg4.out.size
               clear ht4 hg4 hpb)
            | fail)
          go_upto_region 14 with (first
            | (go_at_call 45
               refine (land_any g r2.tail _ Ht4.out).mono ?_
               rintro e w5 ⟨⟨A, c⟩, a, r5, rfl, hown5, ht5, hg5, hla⟩
               have Hown5 := Lib.hid hown5
               have Ht5 := Lib.hid ht5
               have Hg5 := Lib.hid (only_trans Hg4.out hg5)
               have HL5 := Lib.hid (HL4.out.only hg5 hgw2)
               have Hla := Lib.hid hla
               have hs5 : w4.heap.size ≤ w5.heap.size := hg5.size
               have hg5w := ht5.lt
               clear hown5 ht5 hg5 hla)
            | fail)
          obtain ⟨X, hX⟩ : ∃ X, w5.heap.size = X := ⟨_, rfl⟩
          obtain ⟨wx, hwx⟩ : ∃ wx : World, wx = w5.alloc (.cells #[.slice A a.length c] 33) := ⟨_, rfl⟩
          rw [← hwx]
          have HX : Hid (wx.heap[X]? = some (.cells #[.slice A a.length c] 33 (0, 0))) := Lib.hid (by rw [hwx, ← hX]; exact heap_alloc_new w5 _)
          have hlowA := own_ltY Hown5.out
          have Hownx : Hid (wx.ownsRow w4.heap.size 68 4 (.slice A a.length c) a.length (rCells a)) := Lib.hid (by rw [hwx]; exact Hown5.out.alloc _)
          have HlowA : Hid (∀ q, (Value.slice A a.length c).ownBlock = some q → w4.heap.size ≤ q ∧ q < X) := Lib.hid (fun q hq => ⟨own_base Hownx.out q hq, by have := hlowA q hq; omega⟩)
          have Htx : Hid (TapeAt wx g r5) := Lib.hid (by rw [hwx]; exact Ht5.out.alloc _)
          have Hgx : Hid (w2.grownBy wx (some g)) := Lib.hid (by rw [hwx]; exact only_alloc Hg5.out _)
          have HLx : Hid (LsOwn wx w2.heap.size u11 L) := Lib.hid (by rw [hwx]; exact HL5.out.below ((Below.refl _ _).alloc (Nat.le_refl _) _))
          have HltL : Hid (∀ q, u11.ownBlock = some q → q < w4.heap.size) := Lib.hid (own_ltY HL4.out.o)
          have HltF : Hid (∀ x ∈ L, ∀ q, (Value.slice x.2.a x.1.rg.length x.2.c).ownBlock = some q → q < w4.heap.size) := Lib.hid (fun x hx => own_ltY (HL4.out.fs x hx))
          have hXx : X < wx.heap.size := by rw [hwx, ← hX]; simp
          have h4X : w4.heap.size ≤ X := by omega
          rw [hX]
          clear hwx hX hlowA Ht5 Ht4 Hg5 Hg4 HL5 HL4 Hown5 hg5w hs5
          have x0 := cell_of_row wx X 0 _ _ _ HX.out
          have hw10 : IntKind.i64.wrap (10 * (p : Int)) = 10 * (p : Int) := IntWalk.i64_in _ (by omega)
          go_upto_block 4 with fail
          clear x0
          go_cut [17, 66] (fun _ _ wc => wc.ownsRow w4.heap.size 68 4 (.slice A a.length c) a.length (rCells (shift (p : Int) a)) ∧ wx.grownBy wc (Value.slice A a.length c).ownBlock)
          case first =>
            go_wp2_with fail
            go_loopw [17, 66] (fun _ iv wr => ∃ t : Nat, t ≤ a.length ∧ iv = .int .i64 (t : Int) ∧ wr.ownsRow w4.heap.size 68 4 (.slice A a.length c) a.length (rCells (shift (p : Int) (a.take t) ++ a.drop t)) ∧ wx.grownBy wr (Value.slice A a.length c).ownBlock) (fun _ iv _ => a.length - (intOf iv).toNat)
            case atStart => exact ⟨0, Nat.zero_le _, rfl, by simpa [shift] using Hownx.out, World.grownBy.refl _ _⟩
            case round =>
              obtain ⟨t, ht, rfl, hrow, hgx⟩ := hrel
              have Hrow := Lib.hid hrow
              have Hgy := Lib.hid hgx
              clear hrow hgx
              by_cases hta : t < a.length
              · have hta' : (t : Int) < (a.length : Int) := by omega
                obtain ⟨gA, capA, eA, hgB, hgL, -, -, hcA, hfA⟩ := own_at Hrow.out (by omega)
                injection eA with e1 e2 e3
                subst e1 e3
                have HrA : Hid (wx.grownBy wr (some gA)) := Lib.hid Hgy.out
                have hgAX : gA < X := (HlowA.out gA rfl).2
                have hrX := (HrA.out.block X hXx (by intro e; injection e; omega)).trans HX.out
                have x0 := cell_of_row wr X 0 _ _ _ hrX
                have hMl : (shift (p : Int) (a.take t) ++ a.drop t).length = a.length := by rw [List.length_append, shift_len, List.length_take, List.length_drop]; omega
                have hMt : (shift (p : Int) (a.take t) ++ a.drop t)[t]'(by rw [hMl]; exact hta) = a[t] := by
                  rw [List.getElem_append_right (by rw [shift_len, List.length_take]; omega)]
                  simp only [shift_len, List.length_take, List.getElem_drop]
                  congr 1
                  omega
                obtain ⟨y0, y1, y2, y3⟩ := rCells_at (shift (p : Int) (a.take t) ++ a.drop t) t (by rw [hMl]; exact hta)
                rw [hMt] at y0 y2
                have c0 := hcA _ _ y0
                have c2 := hcA _ _ y2
                have f0 := hfA (t * 4)
                have f2 := hfA (t * 4 + 2)
                have hset := rCells_shift (p : Int) a t hta
                have hyb := Hla.out.ins a[t] (List.getElem_mem hta)
                obtain ⟨y, hy⟩ : ∃ y, a[t] = y := ⟨_, rfl⟩
                rw [hy] at c0 c2 hset hyb
                have Hset := Lib.hid hset
                clear hMt hMl y0 y1 y2 y3 hset hy hcA hfA hrX Hgy
                have hwl : IntKind.i64.wrap (y.l + 10 * (p : Int)) = y.l + 10 * (p : Int) := IntWalk.i64_in _ (by omega)
                have hwr : IntKind.i64.wrap (y.r + 10 * (p : Int)) = y.r + 10 * (p : Int) := IntWalk.i64_in _ (by omega)
                have hal := Hla.out.len
                go_upto_region 17 with fail
                obtain ⟨wd, hwd⟩ : ∃ wd : World, wd = wr.drew := ⟨_, rfl⟩
                have x0 : wd.cell? ⟨X, 0, none⟩ = some (.slice (some ⟨gA, 0, none⟩) a.length c) := by rw [hwd]; exact x0
                have c0 : wd.cell? ⟨gA, t * 4, none⟩ = some (.int .i64 y.l) := by rw [hwd]; exact c0
                have c2 : wd.cell? ⟨gA, t * 4 + 2, none⟩ = some (.int .i64 y.r) := by rw [hwd]; exact c2
                have f0 : wd.frozen? ⟨gA, t * 4, none⟩ = false := by rw [hwd]; exact f0
                have f2 : wd.frozen? ⟨gA, t * 4 + 2, none⟩ = false := by rw [hwd]; exact f2
                have hgL : gA < wd.heap.size := by rw [hwd]; exact hgL
                have Hrow : Hid (wd.ownsRow w4.heap.size 68 4 (.slice (some ⟨gA, 0, none⟩) a.length c) a.length (rCells (shift (p : Int) (a.take t) ++ a.drop t))) := by rw [hwd]; exact Hrow
                have HrA : Hid (wx.grownBy wd (some gA)) := Lib.hid (by rw [hwd]; exact only_drew HrA.out)
                refine wp_region_held (S := fun w' => w'.cell? ⟨X, 0, none⟩ = some (.slice (some ⟨gA, 0, none⟩) a.length c)) (by kernel_rfl) ?_
                change wpAnyH _ _ _ _ _ 30 #[false, false, false, false, false, false, false, false, false, false, false, false, false, false, false, false, false, false, false, false, false, false, false, false, false, false, false, false, false, false] _ wr.drew
                rw [← hwd]
                clear hwd
                have hHeld : (fun w' : World => w'.cell? ⟨X, 0, none⟩ = some (.slice (some ⟨gA, 0, none⟩) a.length c)) wd := x0
                have hXg : X ≠ gA := by omega
                refine wpAnyH_take (i := 0) (v := ?vva0) rfl (by kernel_rfl) (by kernel_rfl) (by kernel_rfl) (fun _ _ _ h => h) (Or.inl ⟨by rfl, ?hya0⟩) hHeld ?resta0; (case hya0 => (intro w hSw; (try dsimp only at hSw); go_simp; all_goals (with_reducible rfl))); simp only [Act.put, List.setIfInBounds_toArray, List.set_cons_zero, List.set_cons_succ]
                refine wpAnyH_take (i := 1) (v := ?vva1) rfl (by kernel_rfl) (by kernel_rfl) (by kernel_rfl) (fun _ _ _ h => h) (Or.inl ⟨by rfl, ?hya1⟩) hHeld ?resta1; (case hya1 => (intro w hSw; (try dsimp only at hSw); go_simp; all_goals (with_reducible rfl))); simp only [Act.put, List.setIfInBounds_toArray, List.set_cons_zero, List.set_cons_succ]
                refine wpAnyH_take (i := 2) (v := ?vva2) rfl (by kernel_rfl) (by kernel_rfl) (by kernel_rfl) (fun _ _ _ h => h) (Or.inl ⟨by rfl, ?hya2⟩) hHeld ?resta2; (case hya2 => (intro w hSw; (try dsimp only at hSw); go_simp; all_goals (with_reducible rfl))); simp only [Act.put, List.setIfInBounds_toArray, List.set_cons_zero, List.set_cons_succ]
                refine wpAnyH_take (i := 3) (v := ?vva3) rfl (by kernel_rfl) (by kernel_rfl) (by kernel_rfl) (fun _ _ _ h => h) (Or.inl ⟨by rfl, ?hya3⟩) hHeld ?resta3; (case hya3 => (intro w hSw; (try dsimp only at hSw); go_simp; all_goals (with_reducible rfl))); simp only [Act.put, List.setIfInBounds_toArray, List.set_cons_zero, List.set_cons_succ]
                refine wpAnyH_take (i := 4) (v := ?vva4) rfl (by kernel_rfl) (by kernel_rfl) (by kernel_rfl) (fun _ _ _ h => h) (Or.inl ⟨by rfl, ?hya4⟩) hHeld ?resta4; (case hya4 => (intro w hSw; (try dsimp only at hSw); go_simp; all_goals (with_reducible rfl))); simp only [Act.put, List.setIfInBounds_toArray, List.set_cons_zero, List.set_cons_succ]
                refine wpAnyH_take (i := 5) (v := ?vva5) rfl (by kernel_rfl) (by kernel_rfl) (by kernel_rfl) (fun _ _ _ h => h) (Or.inl ⟨by rfl, ?hya5⟩) hHeld ?resta5; (case hya5 => (intro w hSw; (try dsimp only at hSw); go_simp; all_goals (with_reducible rfl))); simp only [Act.put, List.setIfInBounds_toArray, List.set_cons_zero, List.set_cons_succ]
                refine wpAnyH_take (i := 6) (v := ?vva6) rfl (by kernel_rfl) (by kernel_rfl) (by kernel_rfl) (fun _ _ _ h => h) (Or.inl ⟨by rfl, ?hya6⟩) hHeld ?resta6; (case hya6 => (intro w hSw; (try dsimp only at hSw); go_simp; all_goals (with_reducible rfl))); simp only [Act.put, List.setIfInBounds_toArray, List.set_cons_zero, List.set_cons_succ]
                refine wpAnyH_take (i := 7) (v := ?vva7) rfl (by kernel_rfl) (by kernel_rfl) (by kernel_rfl) (fun _ _ _ h => h) (Or.inl ⟨by rfl, ?hya7⟩) hHeld ?resta7; (case hya7 => (intro w hSw; (try dsimp only at hSw); go_simp; all_goals (with_reducible rfl))); simp only [Act.put, List.setIfInBounds_toArray, List.set_cons_zero, List.set_cons_succ]
                refine wpAnyH_take (i := 8) (v := ?vva8) rfl (by kernel_rfl) (by kernel_rfl) (by kernel_rfl) (fun _ _ _ h => h) (Or.inl ⟨by rfl, ?hya8⟩) hHeld ?resta8; (case hya8 => (intro w hSw; (try dsimp only at hSw); go_simp; all_goals (with_reducible rfl))); simp only [Act.put, List.setIfInBounds_toArray, List.set_cons_zero, List.set_cons_succ]
                refine wpAnyH_take (i := 9) (v := ?vva9) rfl (by kernel_rfl) (by kernel_rfl) (by kernel_rfl) (fun _ _ _ h => h) (Or.inl ⟨by rfl, ?hya9⟩) hHeld ?resta9; (case hya9 => (intro w hSw; (try dsimp only at hSw); go_simp; all_goals (with_reducible rfl))); simp only [Act.put, List.setIfInBounds_toArray, List.set_cons_zero, List.set_cons_succ]
                refine wpAnyH_take (i := 10) (v := ?vva10) rfl (by kernel_rfl) (by kernel_rfl) (by kernel_rfl) (fun _ _ _ h => h) (Or.inl ⟨by rfl, ?hya10⟩) hHeld ?resta10; (case hya10 => (intro w hSw; (try dsimp only at hSw); go_simp; all_goals (with_reducible rfl))); simp only [Act.put, List.setIfInBounds_toArray, List.set_cons_zero, List.set_cons_succ]
                refine wpAnyH_take (i := 12) (v := ?vva12) rfl (by kernel_rfl) (by kernel_rfl) (by kernel_rfl) (fun _ _ _ h => h) (Or.inl ⟨by rfl, ?hya12⟩) hHeld ?resta12; (case hya12 => (intro w hSw; (try dsimp only at hSw); go_simp; all_goals (with_reducible rfl))); simp only [Act.put, List.setIfInBounds_toArray, List.set_cons_zero, List.set_cons_succ]
                refine wpAnyH_take (i := 13) (v := ?vva13) rfl (by kernel_rfl) (by kernel_rfl) (by kernel_rfl) (fun _ _ _ h => h) (Or.inl ⟨by rfl, ?hya13⟩) hHeld ?resta13; (case hya13 => (intro w hSw; (try dsimp only at hSw); go_simp; all_goals (with_reducible rfl))); simp only [Act.put, List.setIfInBounds_toArray, List.set_cons_zero, List.set_cons_succ]
                refine wpAnyH_take (i := 15) (v := ?vva15) rfl (by kernel_rfl) (by kernel_rfl) (by kernel_rfl) (fun _ _ _ h => h) (Or.inl ⟨by rfl, ?hya15⟩) hHeld ?resta15; (case hya15 => (intro w hSw; (try dsimp only at hSw); go_simp; all_goals (with_reducible rfl))); simp only [Act.put, List.setIfInBounds_toArray, List.set_cons_zero, List.set_cons_succ]
                refine wpAnyH_take (i := 16) (v := ?vva16) rfl (by kernel_rfl) (by kernel_rfl) (by kernel_rfl) (fun _ _ _ h => h) (Or.inl ⟨by rfl, ?hya16⟩) hHeld ?resta16; (case hya16 => (intro w hSw; (try dsimp only at hSw); go_simp; all_goals (with_reducible rfl))); simp only [Act.put, List.setIfInBounds_toArray, List.set_cons_zero, List.set_cons_succ]
                refine wpAnyH_take (i := 17) (v := ?vva17) rfl (by kernel_rfl) (by kernel_rfl) (by kernel_rfl) (fun _ _ _ h => h) (Or.inl ⟨by rfl, ?hya17⟩) hHeld ?resta17; (case hya17 => (intro w hSw; (try dsimp only at hSw); go_simp; all_goals (with_reducible rfl))); simp only [Act.put, List.setIfInBounds_toArray, List.set_cons_zero, List.set_cons_succ]
                refine wpAnyH_take (i := 18) (v := ?vva18) rfl (by kernel_rfl) (by kernel_rfl) (by kernel_rfl) (fun _ _ _ h => h) (Or.inl ⟨by rfl, ?hya18⟩) hHeld ?resta18; (case hya18 => (intro w hSw; (try dsimp only at hSw); go_simp; all_goals (with_reducible rfl))); simp only [Act.put, List.setIfInBounds_toArray, List.set_cons_zero, List.set_cons_succ]
                refine wpAnyH_take (i := 19) (v := ?vva19) rfl (by kernel_rfl) (by kernel_rfl) (by kernel_rfl) (fun _ _ _ h => h) (Or.inl ⟨by rfl, ?hya19⟩) hHeld ?resta19; (case hya19 => (intro w hSw; (try dsimp only at hSw); go_simp; all_goals (with_reducible rfl))); simp only [Act.put, List.setIfInBounds_toArray, List.set_cons_zero, List.set_cons_succ]
                refine wpAnyH_take (i := 21) (v := ?vva21) rfl (by kernel_rfl) (by kernel_rfl) (by kernel_rfl) (fun _ _ _ h => h) (Or.inl ⟨by rfl, ?hya21⟩) hHeld ?resta21; (case hya21 => (intro w hSw; (try dsimp only at hSw); go_simp; all_goals (with_reducible rfl))); simp only [Act.put, List.setIfInBounds_toArray, List.set_cons_zero, List.set_cons_succ]
                refine wpAnyH_take (i := 22) (v := ?vva22) rfl (by kernel_rfl) (by kernel_rfl) (by kernel_rfl) (fun _ _ _ h => h) (Or.inl ⟨by rfl, ?hya22⟩) hHeld ?resta22; (case hya22 => (intro w hSw; (try dsimp only at hSw); go_simp; all_goals (with_reducible rfl))); simp only [Act.put, List.setIfInBounds_toArray, List.set_cons_zero, List.set_cons_succ]
                refine wpAnyH_ready (rs := [11, 20]) (by kernel_rfl) (by simp) ?_
                refine AllReadyH.cons rfl (fun K hK => ?_) (AllReadyH.cons rfl (fun K hK => ?_) AllReadyH.nil)
                · go_simp
                  refine hK.out _ _ (x0) (fun hHeld => ?_)
                  clear hK K
                  try simp only [Act.put, List.setIfInBounds_toArray, List.set_cons_zero, List.set_cons_succ]
                  refine wpAnyH_take (i := 14) (v := ?vvb14) rfl (by kernel_rfl) (by kernel_rfl) (by kernel_rfl) (fun _ _ _ h => h) (Or.inl ⟨by rfl, ?hyb14⟩) hHeld ?restb14; (case hyb14 => (intro w hSw; (try dsimp only at hSw); go_simp; all_goals (with_reducible rfl))); simp only [Act.put, List.setIfInBounds_toArray, List.set_cons_zero, List.set_cons_succ]
                  refine wpAnyH_ready (rs := [20]) (by kernel_rfl) (by simp) ?_
                  refine AllReadyH.cons rfl (fun K hK => ?_) AllReadyH.nil
                  go_simp
                  refine hK.out _ _ (x0) (fun hHeld => ?_)
                  clear hK K
                  try simp only [Act.put, List.setIfInBounds_toArray, List.set_cons_zero, List.set_cons_succ]
                  refine wpAnyH_take (i := 23) (v := ?vvb23) rfl (by kernel_rfl) (by kernel_rfl) (by kernel_rfl) (fun _ _ _ h => h) (Or.inl ⟨by rfl, ?hyb23⟩) hHeld ?restb23; (case hyb23 => (intro w hSw; (try dsimp only at hSw); go_simp; all_goals (with_reducible rfl))); simp only [Act.put, List.setIfInBounds_toArray, List.set_cons_zero, List.set_cons_succ]
                  refine wpAnyH_take (i := 24) (v := ?vvb24) rfl (by kernel_rfl) (by kernel_rfl) (by kernel_rfl) (fun _ _ _ h => h) (Or.inl ⟨by rfl, ?hyb24⟩) hHeld ?restb24; (case hyb24 => (intro w hSw; (try dsimp only at hSw); go_simp; all_goals (with_reducible rfl))); simp only [Act.put, List.setIfInBounds_toArray, List.set_cons_zero, List.set_cons_succ]
                  refine wpAnyH_take (i := 25) (v := ?vvb25) rfl (by kernel_rfl) (by kernel_rfl) (by kernel_rfl) (fun _ _ _ h => h) (Or.inl ⟨by rfl, ?hyb25⟩) hHeld ?restb25; (case hyb25 => (intro w hSw; (try dsimp only at hSw); go_simp; all_goals (with_reducible rfl))); simp only [Act.put, List.setIfInBounds_toArray, List.set_cons_zero, List.set_cons_succ]
                  refine wpAnyH_ready (rs := [26]) (by kernel_rfl) (by simp) ?_
                  refine AllReadyH.cons rfl (fun K hK => ?_) AllReadyH.nil
                  go_simp
                  refine hK.out _ _ (by show (World.setCell _ _ _).cell? _ = _; rw [World.cell?_of_block (Below.heap_setCell _ _ _ _ (by show X ≠ gA; exact hXg))]; exact x0) (fun hHeld => ?_)
                  clear hK K
                  try simp only [Act.put, List.setIfInBounds_toArray, List.set_cons_zero, List.set_cons_succ]
                  refine wpAnyH_take (i := 27) (v := ?vvb27) rfl (by kernel_rfl) (by kernel_rfl) (by kernel_rfl) (fun _ _ _ h => h) (Or.inl ⟨by rfl, ?hyb27⟩) hHeld ?restb27; (case hyb27 => (intro w hSw; (try dsimp only at hSw); go_simp; all_goals (with_reducible rfl))); simp only [Act.put, List.setIfInBounds_toArray, List.set_cons_zero, List.set_cons_succ]
                  refine wpAnyH_take (i := 28) (v := ?vvb28) rfl (by kernel_rfl) (by kernel_rfl) (by kernel_rfl) (fun _ _ _ h => h) (Or.inl ⟨by rfl, ?hyb28⟩) hHeld ?restb28; (case hyb28 => (intro w hSw; (try dsimp only at hSw); go_simp; all_goals (with_reducible rfl))); simp only [Act.put, List.setIfInBounds_toArray, List.set_cons_zero, List.set_cons_succ]
                  refine wpAnyH_ready (rs := [29]) (by kernel_rfl) (by simp) ?_
                  refine AllReadyH.cons rfl (fun K hK => ?_) AllReadyH.nil
                  go_simp
                  refine hK.out _ _ (by show (World.setCell _ _ _).cell? _ = _; rw [World.cell?_of_block (Below.heap_setCell _ _ _ _ (by show X ≠ gA; exact hXg)), World.cell?_of_block (Below.heap_setCell _ _ _ _ (by show X ≠ gA; exact hXg))]; exact x0) (fun hHeld => ?_)
                  clear hK K
                  try simp only [Act.put, List.setIfInBounds_toArray, List.set_cons_zero, List.set_cons_succ]
                  refine wpAnyH_done (by kernel_rfl) ?_ _
                  clear hHeld
                  go_wp2
                  go_roundw
                  case rel => exact ⟨t + 1, by omega, by go_num, by rw [← Hset.out]; exact own_setN (own_setN Hrow.out _ _) _ _, only_setCell (only_setCell HrA.out (.inl rfl) _) (.inl rfl) _⟩
                  case measure => simp [intOf]; omega
                · go_simp
                  refine hK.out _ _ (x0) (fun hHeld => ?_)
                  clear hK K
                  try simp only [Act.put, List.setIfInBounds_toArray, List.set_cons_zero, List.set_cons_succ]
                  refine wpAnyH_take (i := 23) (v := ?vvc23) rfl (by kernel_rfl) (by kernel_rfl) (by kernel_rfl) (fun _ _ _ h => h) (Or.inl ⟨by rfl, ?hyc23⟩) hHeld ?restc23; (case hyc23 => (intro w hSw; (try dsimp only at hSw); go_simp; all_goals (with_reducible rfl))); simp only [Act.put, List.setIfInBounds_toArray, List.set_cons_zero, List.set_cons_succ]
                  refine wpAnyH_ready (rs := [11]) (by kernel_rfl) (by simp) ?_
                  refine AllReadyH.cons rfl (fun K hK => ?_) AllReadyH.nil
                  go_simp
                  refine hK.out _ _ (x0) (fun hHeld => ?_)
                  clear hK K
                  try simp only [Act.put, List.setIfInBounds_toArray, List.set_cons_zero, List.set_cons_succ]
                  refine wpAnyH_take (i := 14) (v := ?vvc14) rfl (by kernel_rfl) (by kernel_rfl) (by kernel_rfl) (fun _ _ _ h => h) (Or.inl ⟨by rfl, ?hyc14⟩) hHeld ?restc14; (case hyc14 => (intro w hSw; (try dsimp only at hSw); go_simp; all_goals (with_reducible rfl))); simp only [Act.put, List.setIfInBounds_toArray, List.set_cons_zero, List.set_cons_succ]
                  refine wpAnyH_take (i := 24) (v := ?vvc24) rfl (by kernel_rfl) (by kernel_rfl) (by kernel_rfl) (fun _ _ _ h => h) (Or.inl ⟨by rfl, ?hyc24⟩) hHeld ?restc24; (case hyc24 => (intro w hSw; (try dsimp only at hSw); go_simp; all_goals (with_reducible rfl))); simp only [Act.put, List.setIfInBounds_toArray, List.set_cons_zero, List.set_cons_succ]
                  refine wpAnyH_take (i := 25) (v := ?vvc25) rfl (by kernel_rfl) (by kernel_rfl) (by kernel_rfl) (fun _ _ _ h => h) (Or.inl ⟨by rfl, ?hyc25⟩) hHeld ?restc25; (case hyc25 => (intro w hSw; (try dsimp only at hSw); go_simp; all_goals (with_reducible rfl))); simp only [Act.put, List.setIfInBounds_toArray, List.set_cons_zero, List.set_cons_succ]
                  refine wpAnyH_ready (rs := [26]) (by kernel_rfl) (by simp) ?_
                  refine AllReadyH.cons rfl (fun K hK => ?_) AllReadyH.nil
                  go_simp
                  refine hK.out _ _ (by show (World.setCell _ _ _).cell? _ = _; rw [World.cell?_of_block (Below.heap_setCell _ _ _ _ (by show X ≠ gA; exact hXg))]; exact x0) (fun hHeld => ?_)
                  clear hK K
                  try simp only [Act.put, List.setIfInBounds_toArray, List.set_cons_zero, List.set_cons_succ]
                  refine wpAnyH_take (i := 27) (v := ?vvc27) rfl (by kernel_rfl) (by kernel_rfl) (by kernel_rfl) (fun _ _ _ h => h) (Or.inl ⟨by rfl, ?hyc27⟩) hHeld ?restc27; (case hyc27 => (intro w hSw; (try dsimp only at hSw); go_simp; all_goals (with_reducible rfl))); simp only [Act.put, List.setIfInBounds_toArray, List.set_cons_zero, List.set_cons_succ]
                  refine wpAnyH_take (i := 28) (v := ?vvc28) rfl (by kernel_rfl) (by kernel_rfl) (by kernel_rfl) (fun _ _ _ h => h) (Or.inl ⟨by rfl, ?hyc28⟩) hHeld ?restc28; (case hyc28 => (intro w hSw; (try dsimp only at hSw); go_simp; all_goals (with_reducible rfl))); simp only [Act.put, List.setIfInBounds_toArray, List.set_cons_zero, List.set_cons_succ]
                  refine wpAnyH_ready (rs := [29]) (by kernel_rfl) (by simp) ?_
                  refine AllReadyH.cons rfl (fun K hK => ?_) AllReadyH.nil
                  go_simp
                  refine hK.out _ _ (by show (World.setCell _ _ _).cell? _ = _; rw [World.cell?_of_block (Below.heap_setCell _ _ _ _ (by show X ≠ gA; exact hXg)), World.cell?_of_block (Below.heap_setCell _ _ _ _ (by show X ≠ gA; exact hXg))]; exact x0) (fun hHeld => ?_)
                  clear hK K
                  try simp only [Act.put, List.setIfInBounds_toArray, List.set_cons_zero, List.set_cons_succ]
                  refine wpAnyH_done (by kernel_rfl) ?_ _
                  clear hHeld
                  go_wp2
                  go_roundw
                  case rel => exact ⟨t + 1, by omega, by go_num, by rw [← Hset.out]; exact own_setN (own_setN Hrow.out _ _) _ _, only_setCell (only_setCell HrA.out (.inl rfl) _) (.inl rfl) _⟩
                  case measure => simp [intOf]; omega
              · obtain rfl : t = a.length := by omega
                have hta' : ¬ (a.length : Int) < (a.length : Int) := by omega
                go_wp2
                go_meet
                case rel => exact ⟨by have := Hrow.out; rwa [List.take_length, List.drop_length, List.append_nil] at this, Hgy.out⟩
          case rest =>
            obtain ⟨wy, rfl⟩ : ∃ wy : World, wy = wc := ⟨_, rfl⟩
            obtain ⟨hrow, hgy⟩ := hcut
            have HXy := Lib.hid ((hgy.block X hXx (fun e => by have := (HlowA.out X e.symm).2; omega)).trans HX.out)
            have Hty : Hid (TapeAt wy g r5) := Lib.hid (Htx.out.grown hgy (fun q hq => by have := (HlowA.out q hq).1; omega))
            have Hgy2 := Lib.hid (only_grown Hgx.out hgy (fun q hq => by have := (HlowA.out q hq).1; omega))
            have HLy : Hid (LsOwn wy w2.heap.size u11 L) := Lib.hid (HLx.out.apart hgy (fun q hq e => by have h1 := HltL.out q hq; have h2 := (HlowA.out q e).1; omega) (fun x hx q hq e => by have h1 := HltF.out x hx q hq; have h2 := (HlowA.out q e).1; omega))
            have hsy : wx.heap.size ≤ wy.heap.size := hgy.size
            have HRy := Lib.hid (HR.out.only Hgy2.out hlt)
            have hpR : p < R.length := by have := Hn.out; omega
            have HSh : Hid (SlR wy A a.length c (shift (p : Int) a)) := Lib.hid (by
              obtain ⟨A', c', e, h1, h2, h3⟩ := own_slice hrow
              injection e with e1 e2 e3
              subst e1 e3
              exact ⟨by rw [shift_len], h2, h3, h1⟩)
            clear hrow hgy HX Htx Hgx HLx Hownx
            have hal := Hla.out.len
            obtain ⟨br, off, rfl, hbr, cR, hSR⟩ := HRy.out.slg.at p hpR
            have hone : R[p].1.length = 1 := by
              obtain ⟨a0, b0, -, -, e⟩ := Hpc.out.at' p (by rw [rgs_len]; exact hpR)
              have e2 : (rgs R)[p]'(by rw [rgs_len]; exact hpR) = R[p].1 := by simp [rgs]
              rw [← e2, e]
              rfl
            have Hst := Lib.hid (fun t => Hok.out.step Hpc.out hj4 Hla.out (p := p) (by rw [rgs_len]; exact hpR) t)
            have e2 : (rgs R)[p]'(by rw [rgs_len]; exact hpR) = R[p].1 := by simp [rgs]
            rw [e2] at Hst
            clear e2
            obtain ⟨rp, hrp⟩ : ∃ rp, R[p] = rp := ⟨_, rfl⟩
            rw [hrp] at cR hSR hone Hst
            clear hrp
            have HSR := Lib.hid hSR
            have HL0 : Hid (combP (howR 2) (shift (p : Int) a) rp.1 = leftP (shift (p : Int) a) rp.1 []) := Lib.hid (by rw [howR2]; rfl)
            have HC := Lib.hid (fun W (hW : Below wy.heap.size wy W) => combineR_any A rp.2.a a.length c rp.1.length rp.2.c (shift (p : Int) a) rp.1 2 W (HSh.out.below hW) (HSR.out.below hW) (by omega))
            rw [HL0.out] at HC
            have hb0 := (Hst.out 0).1
            rw [List.take_zero, List.map_nil] at hb0
            obtain ⟨lf0, hlf⟩ : ∃ l, leftP (shift (p : Int) a) rp.1 [] = l := ⟨_, rfl⟩
            have Hlf := Lib.hid hlf
            rw [hlf] at HC hb0
            clear hSR hone hlf HL0
            have cX := cell_of_row wy X 0 _ _ _ HXy.out
            have hXy : X < wy.heap.size := by omega
            go_upto_region 19 with fail
            have cX : wy.drew.cell? ⟨X, 0, none⟩ = some (.slice A a.length c) := cX
            have cR : wy.drew.cell? ⟨br, off + p, none⟩ = some (.slice rp.2.a rp.1.length rp.2.c) := cR
            go_region_held3 (fun w' => w'.cell? ⟨X, 0, none⟩ = some (.slice A a.length c) ∧ w'.cell? ⟨br, off + p, none⟩ = some (.slice rp.2.a rp.1.length rp.2.c)) (first | with_reducible exact ⟨cX, cR⟩ | go_keep | ((repeat' apply And.intro) <;> go_keep))
              (first
                | (go_at_call 46
                   refine (HC.out _ (Below.drew (Below.refl _ _))).mono ?_
                   rintro e w6 ⟨v6, rfl, hown6, hb6⟩
                   have Hown6 : Hid (w6.ownsRow wy.heap.size 68 4 v6 lf0.length (rCells lf0)) := Lib.hid hown6
                   have Hb6 : Hid (Below wy.heap.size wy w6) := Lib.hid (show Below wy.heap.size wy w6 from (by have hbq := hb6; exact gBelo))
                   have cX6 := (hb6.cell (p := ⟨X, 0, none⟩) (by show X < wy.heap.size; omega)).trans cX
                   have cR6 := (hb6.cell (p := ⟨br, off + p, none⟩) (by show br < wy.heap.size; omega)).trans cR
                   clear hown6 hb6)
                | fail)
            clear cX cR cX6 cR6
            obtain ⟨LA, lc, rfl, _, _, _⟩ := own_slice HLy.out.o
            have hs6 : wy.heap.size ≤ w6.heap.size := Hb6.out.size
            have HL6 := Lib.hid (HLy.out.below Hb6.out)
            have HSL := Lib.hid HL6.out.sll
            have Ht6 := Lib.hid (Hty.out.below Hb6.out (by omega))
            have hs2y : w2.heap.size ≤ wy.heap.size := Hgy2.out.size
            have Hg6 := Lib.hid (only_below Hgy2.out Hb6.out hs2y)
            have Htk : Hid (∀ t (h : t < L.length), ((lns L).take (t + 1)).map Ln.rg = ((lns L).take t).map Ln.rg ++ [L[t].1.rg]) := Lib.hid (fun t h => by
              rw [List.take_succ_eq_append_getElem (by rw [lns_len]; exact h), List.map_append]
              simp [lns])
            have Hrgl : Hid (∀ t (h : t < L.length), L[t].1.rg.length ≤ 120) := Lib.hid (fun t h => (Hok.out.ok _ (List.mem_map_of_mem (List.getElem_mem h))).reg.len)
            have hL4 : L.length ≤ 4 := by have := Hok.out.len; rw [lns_len] at this; omega
            clear HLy Hty Hgy2 HSh HRy HC HSR hal
            go_wp2_with fail
            go_loopw [18, 108] (fun sv iv wr => ∃ t : Nat, t ≤ L.length ∧ iv = .int .i64 (t : Int) ∧ wr.ownsRow wy.heap.size 68 4 sv (leftP (shift (p : Int) a) rp.1 (((lns L).take t).map Ln.rg)).length (rCells (leftP (shift (p : Int) a) rp.1 (((lns L).take t).map Ln.rg))) ∧ Below w6.heap.size w6 wr) (fun _ iv _ => L.length - (intOf iv).toNat)
            case atStart => exact ⟨0, Nat.zero_le _, rfl, by rw [List.take_zero, List.map_nil, Hlf.out]; exact Hown6.out, Below.refl _ _⟩
            case round =>
              obtain ⟨t, ht, rfl, hown, hbr⟩ := hrel
              have Hbr := Lib.hid hbr
              have hsr6 := hbr.size
              obtain ⟨SA, sc, rfl, hS1, hS2, hS3⟩ := own_slice hown
              have Hown := Lib.hid hown
              have hql := (Hst.out t).1
              by_cases htl : t < L.length
              · have htl' : (t : Int) < (L.length : Int) := by omega
                have HSQ : Hid (SlR wr SA (leftP (shift (p : Int) a) rp.1 (((lns L).take t).map Ln.rg)).length sc (leftP (shift (p : Int) a) rp.1 (((lns L).take t).map Ln.rg))) := Lib.hid ⟨rfl, hS2, hS3, hS1⟩
                have hyl := Hrgl.out t htl
                have Hnx : Hid (leftP (shift (p : Int) a) rp.1 (((lns L).take (t + 1)).map Ln.rg) = combP (howR 3) (leftP (shift (p : Int) a) rp.1 (((lns L).take t).map Ln.rg)) L[t].1.rg) := Lib.hid (by rw [Htk.out t htl, leftP_snoc, howR3])
                obtain ⟨b2, o2, rfl, hb2, g0, g1, g2, g3, hS⟩ := (HSL.out.below hbr).at t htl
                have HS := Lib.hid hS
                clear hS hown hbr hS1 hS2 hS3
                generalize L[t] = y at *
                obtain ⟨⟨ypc, yrg, ycr, ysch⟩, ⟨ya, yc⟩⟩ := y
                dsimp only at *
                generalize leftP (shift (p : Int) a) rp.1 (((lns L).take t).map Ln.rg) = Q at *
                have HCt := Lib.hid (fun W (hW : Below wr.heap.size wr W) => combineR_any SA ya Q.length sc yrg.length yc Q yrg 3 W (HSQ.out.below hW) (HS.out.below hW) (by omega))
                rw [← Hnx.out] at HCt
                have hrow := heap_alloc_new wr (.cells #[.int .i64 ypc, .slice ya yrg.length yc, .int .i64 ycr, .int .i64 ysch] 35)
                have Hba : Hid (Below wr.heap.size wr (wr.alloc (.cells #[.int .i64 ypc, .slice ya yrg.length yc, .int .i64 ycr, .int .i64 ysch] 35))) := Lib.hid gBel
                have hla : wr.heap.size < (wr.alloc (.cells #[.int .i64 ypc, .slice ya yrg.length yc, .int .i64 ycr, .int .i64 ysch] 35)).heap.size := by simp
                go_upto_region 23 with fail
                obtain ⟨T, hT⟩ : ∃ T, wr.heap.size = T := ⟨_, rfl⟩
                rw [hT] at hrow hla ⊢
                generalize wr.alloc (.cells #[.int .i64 ypc, .slice ya yrg.length yc, .int .i64 ycr, .int .i64 ysch] 35) = wa at *
                have a1 := cell_of_row wa T 1 _ _ _ hrow
                clear g0 g1 g2 g3 hrow
                have hsTr : wy.heap.size ≤ wr.heap.size := by omega
                go_wp2_with (first
                  | (go_at_call 46
                     refine (HCt.out _ Hba.out).mono ?_
                     rintro e w8 ⟨v8, rfl, hown8, hb8⟩)
                  | fail)
                go_roundw
                case rel => exact ⟨t + 1, by omega, by go_num, own_rebase hown8 (by omega), Hbr.out.trans ((Hba.out.trans (hb8.mono (by omega))).mono (by omega))⟩
                case measure => simp [intOf]; omega
              · obtain rfl : t = L.length := by omega
                have htl' : ¬ (L.length : Int) < (L.length : Int) := by omega
                clear hown hbr hS1 hS2 hS3
                obtain ⟨wz, rfl⟩ : ∃ wz : World, wz = wr := ⟨_, rfl⟩
                have hfull : ((lns L).take L.length).map Ln.rg = (lns L).map Ln.rg := by rw [List.take_of_length_le (by rw [lns_len]; exact Nat.le_refl _)]
                rw [hfull] at Hown hql ⊢
                have Hstep := Lib.hid (Hst.out 0).2
                obtain ⟨lf, hlf⟩ : ∃ l, leftP (shift (p : Int) a) rp.1 ((lns L).map Ln.rg) = l := ⟨_, rfl⟩
                rw [hlf] at Hown hql Hstep ⊢
                clear hlf hfull Hst Htk Hrgl HSL Hlf
                have HLz := Lib.hid (HL6.out.below Hbr.out)
                have Htz := Lib.hid (Ht6.out.below Hbr.out (by have := Ht6.out.lt; omega))
                have hs26 : w2.heap.size ≤ w6.heap.size := by omega
                have Hgz := Lib.hid (only_below Hg6.out Hbr.out hs26)
                have hlowF := own_base Hown.out
                have HAP : Hid (∀ q, (Value.slice LA L.length lc).ownBlock = some q → (Value.slice SA lf.length sc).ownBlock ≠ some q) := Lib.hid (fun q hq e => by have h1 := HltL.out q hq; have h2 := hlowF q e; omega)
                have Hownz : Hid (wz.ownsRow w2.heap.size 68 4 (.slice SA lf.length sc) lf.length (rCells lf)) := Lib.hid (own_rebase Hown.out (by omega))
                clear hlowF Hown HL6 Ht6 Hg6 Hown6 Hb6
                by_cases hl0 : 0 < lf.length
                · have hl0' : (0 : Int) < (lf.length : Int) := by omega
                  have Hne : Hid (lf ≠ []) := Lib.hid (fun e => by rw [e] at hl0; simp at hl0)
                  have hwp : IntKind.i64.wrap ((p : Int) + 1) = (p : Int) + 1 := IntWalk.i64_in _ (by omega)
                  go_wp2_with (first
                    | (go_at_call 44
                       have hguard := H8.out
                       refine (next_any g r5.tail 15 _ Ht8.out (by omega)).mono ?_
                       rintro e w9 ⟨rfl, ht9, hg9⟩
                       have hs9 := nx_bd r5.tail 15 (by omega)
                       generalize nx r5.tail 15 = q9 at *
                       have hwq9 : IntKind.i64.wrap (1 + q9) = 1 + q9 := IntWalk.i64_in _ (by omega)
                       have Ht9 := Lib.hid ht9
                       have Hg9 := Lib.hid (only_trans Hg8.out hg9)
                       have HL9 := Lib.hid (HL8.out.only hg9 hgw2)
                       have Ho9 := Lib.hid (ownsRow_only Ho8.out hg9 hgw2)
                       have hz9 : w2.heap.size ≤ w9.heap.size := Hg9.out.size
                       have H9 : Hid True := Lib.hid trivial
                       clear ht9 hg9 hguard)
                    | (go_at_call 44
                       refine (next_any g r5 (nc : Int) _ Htz.out (by omega)).mono ?_
                       rintro e w8 ⟨rfl, ht8, hg8⟩
                       have hs8 := nx_bd r5 (nc : Int) (by omega)
                       generalize nx r5 (nc : Int) = q8 at *
                       have Ht8 := Lib.hid ht8
                       have Hg8 := Lib.hid (only_trans Hgz.out hg8)
                       have HL8 := Lib.hid (HLz.out.only hg8 hgw2)
                       have Ho8 := Lib.hid (ownsRow_only Hownz.out hg8 hgw2)
                       have H8 : Hid True := Lib.hid trivial
                       clear ht8 hg8)
                    | (at_builtin
                       have hguard := H9.out
                       (go_loud (refine wpList_append_any _ rfl (.tmp 121) (.tmp 134) _ rfl w2.heap.size 35 i2 _ 4 48 Tryz.underlying25 hl hi2z hl1 hl2 rfl (by omega) _ L.length (lnCells L) rfl (HL9.out.o.alloc _) _ _ 1 1 [.int .i64 ((p : Int) + 1), .slice SA lf.length sc, .int .i64 q8, .int .i64 (1 + q9)] rfl ⟨rfl, fun _ => ⟨_, rfl, Nat.lt_succ_self _, fun j u hu => (by exact news_any _ _ _ j u hu)⟩⟩ (by simp [Value.oneCell']) (by simp only [maxLen]; omega) (by omega) (by simp; omega) ?_))
                       intro v10 w10 hown10 hg10 hat10)
                    | fail)
                  go_roundw
                  case rel =>
                    have hbL := own_base HL9.out.o
                    refine ⟨L ++ [(⟨(p : Int) + 1, lf, q8, 1 + q9⟩, ⟨SA, sc⟩)], k - 1, j + 1, r5.tail.tail, by omega, by rw [show ((k - 1 : Nat) : Int) = (k : Int) - 1 by omega], ?_, ?_, ?_, ?_⟩
                    · exact LsOwn.push HL9.out (⟨(p : Int) + 1, lf, q8, 1 + q9⟩, ⟨SA, sc⟩) Ho9.out HAP.out ((Below.refl _ _).alloc (Nat.le_refl _) _) hg10 hown10 hat10
                    · have e : lns (L ++ [(⟨(p : Int) + 1, lf, q8, 1 + q9⟩, ⟨SA, sc⟩)]) = lns L ++ [⟨(p : Int) + 1, lf, q8, 1 + q9⟩] := by simp [lns]
                      rw [e]
                      exact Hstep.out.2 Hne.out q8 (1 + q9) hs8 (by omega)
                    · exact (Ht9.out.alloc _).grown hg10 (fun q hq => by have := hbL q hq; omega)
                    · exact only_grown (only_alloc Hg9.out _) hg10 (fun q hq => hbL q hq)
                  case measure => simp [intOf]; omega
                · have hl0' : ¬ (0 : Int) < (lf.length : Int) := by omega
                  have Hnil : Hid (lf = []) := Lib.hid (List.length_eq_zero_iff.1 (by omega))
                  go_wp2
                  go_roundw
                  case rel => exact ⟨L, k - 1, j + 1, r5, by omega, by rw [show ((k - 1 : Nat) : Int) = (k : Int) - 1 by omega], HLz.out, Hstep.out.1 Hnil.out, Htz.out, Hgz.out⟩
                  case measure => simp [intOf]; omega
        · obtain rfl : k = 0 := by omega
          have hk0' : ¬ (0 : Int) < ((0 : Nat) : Int) := by omega
          obtain ⟨LA, lc, rfl, _, _, _⟩ := own_slice HL.out.o
          have HR2 := Lib.hid (HR.out.only Hgr2.out hlt)
          have Hn2 := Lib.hid (ownsRow_only Hnum.out Hgr2.out hlt)
          go_wp2
          refine bodyPost_ret (v := .tuple #[.slice LA L.length lc, .slice NA n kc, .slice RA R.length rc]) (by simp [results, Tryz.results8, go_sem, *]) rfl ?_
          refine ⟨L, LA, lc, R, NA, kc, RA, rc, r2, j, by rw [Hn.out], HL.out.rebase hsr, ?_, HR2.out, Htr2.out, only_trans Hgr.out Hgr2.out, Hpc.out, hmR, Hok.out, by omega⟩
          rw [Hn.out]
          exact Hn2.out
end Go.Proofs.YtfmkmhhghmdakaaGreatDoor
