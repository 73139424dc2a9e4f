/- Contract: Lines (keep). -/
/- Contracts: Name (words), isNaN, Less, BinarySearch of whole numbers; Check (crop), where all is right; check, line, Check (claim), where all is right, or the parcel is not there. -/
/- Contract: the law's sanity check (claim). -/
/- Plain: what is claimed under a scheme. -/
/- Plain: what is claimed, and what is left, do not depend on the order of the lines; the walk of ClaimOrder. -/
/- Contracts: ContainsFunc of lines; All (claim), where each line is right. Plain: drawn catalogues and lines are right; what is left of a parcel and its lines are disjoint and together the parcel. -/
import Derived.Test.YtglanlpjoaholaaGreatY5
import Derived.Test.YtglanlpjoaholaaGreatHT
import Derived.Test.YtglanlpjoaholaaGreatV3
import Derived.Test.YtglanlpjoaholaaGreatY6
import Derived.Test.YtglanlpjoaholaaGreatY3
import Derived.Test.YtglanlpjoaholaaGreatU7
import Derived.Test.YtglanlpjoaholaaGreatY4
import Derived.Test.YtglanlpjoaholaaGreatV4
import Derived.Test.YtglanlpjoaholaaGreatVs
namespace Go.Proofs.YtglanlpjoaholaaGreat
open Go.RowKit Go.Shelf
set_option linter.unusedVariables false
set_option linter.unusedSimpArgs false

/-- The row of one value is not that of another one. -/
def AP (a b : Value) : Prop := ∀ g, a.ownBlock = some g → b.ownBlock ≠ some g
theorem AP.symm {a b : Value} (h : AP a b) : AP b a := fun g h1 h2 => h g h2 h1
theorem AP.grow {a a' b : Value} {n : Nat} (h : AP a b) (hat : a'.ownBlock = a.ownBlock ∨ a'.ownBlock = some n) (hb : ∀ g, b.ownBlock = some g → g < n) : AP a' b := by
  intro g h1 h2
  rcases hat with e | e
  · rw [e] at h1; exact h g h1 h2
  · rw [e] at h1
    injection h1 with h1
    have := hb g h2
    omega
def nums (n : Nat) : List Int := (List.range n).map fun i : Nat => (i : Int) + 1
theorem nums_len (n : Nat) : (nums n).length = n := by simp [nums]
theorem nums_succ (n : Nat) : nums (n + 1) = nums n ++ [(n : Int) + 1] := by simp [nums, List.range_succ]
theorem PcOk.push {R : List (List R4)} (h : PcOk R) (hl : R.length < 3) {q : List R4} (hq : PclAt R.length q) : PcOk (R ++ [q]) := by
  refine ⟨by simp; omega, fun i hi => ?_⟩
  by_cases hr : i < R.length
  · rw [List.getElem_append_left hr]; exact h.at' i hr
  · have : i = R.length := by simp at hi; omega
    subst this
    rw [List.getElem_append_right (Nat.le_refl _)]
    simpa using hq
theorem shift_len (p : Int) (a : List R4) : (shift p a).length = a.length := by simp [shift]
theorem shift_succ (p : Int) (a : List R4) (t : Nat) (h : t < a.length) : shift p (a.take (t + 1)) = shift p (a.take t) ++ [⟨a[t].l + 10 * p, a[t].b, a[t].r + 10 * p, a[t].t⟩] := by
  unfold shift
  rw [List.take_succ_eq_append_getElem h, List.map_append]
  rfl
theorem rCells_shift (p : Int) (a : List R4) (t : Nat) (h : t < a.length) : ((rCells (shift p (a.take t) ++ a.drop t)).set (t * 4) (.int .i64 (a[t].l + 10 * p))).set (t * 4 + 2) (.int .i64 (a[t].r + 10 * p)) = rCells (shift p (a.take (t + 1)) ++ a.drop (t + 1)) := by
  have hl : (rCells (shift p (a.take t))).length = t * 4 := by rw [rCells_len, shift_len, List.length_take, Nat.min_eq_left (Nat.le_of_lt h)]
  have hd : a.drop t = a[t] :: a.drop (t + 1) := List.drop_eq_getElem_cons h
  have hc : ∀ (o : R4) (m : List R4), rCells (o :: m) = [.int .i64 o.l, .int .i64 o.b, .int .i64 o.r, .int .i64 o.t] ++ rCells m := fun o m => by simp [rCells, R4.cells]
  rw [shift_succ p a t h, hd, rCells_app, hc, List.append_assoc, rCells_app, List.set_append_right _ _ (by omega), List.set_append_right _ _ (by omega), hl, Nat.sub_self, show t * 4 + 2 - t * 4 = 2 by omega, List.singleton_append, hc]
  rfl
/-- What Lines leaves. -/
def LinesPost (w : World) (g nc : Nat) (e : Ending) (w' : World) : Prop :=
  ∃ (L : LL) (LA : Option Addr) (lc : Nat) (R : RL) (NA : Option Addr) (kc : Nat) (RA : Option Addr) (rc : Nat) (r : List Int) (k : Nat), e = .returned (.tuple #[.slice LA L.length lc, .slice NA R.length kc, .slice RA R.length rc]) ∧
    LsOwn w' w.heap.size (.slice LA L.length lc) L ∧ w'.ownsRow w.heap.size 3 1 (.slice NA R.length kc) R.length ((nums R.length).map (.int .i64)) ∧ RsOwn w' w.heap.size (.slice RA R.length rc) R ∧ TapeAt w' g r ∧ w.grownBy w' (some g) ∧ PcOk (rgs R) ∧ 1 ≤ R.length ∧ LsOk (rgs R) nc k (lns L) ∧ k ≤ 4

set_option maxHeartbeats 20000000 in
set_option maxRecDepth 100000 in
theorem lines_any (g : Nat) (r : List Int) (CA : Option Addr) (nc cc most : Nat) (w : World) (ht : TapeAt w g r) (hnc : 1 ≤ nc ∧ nc ≤ 1000) (hmost : most ≤ 4) :
    Calls Tryz.prog 10 #[.pointer (some ⟨g, 0, none⟩), .slice CA nc cc, .int .i64 (most : Int)] w (LinesPost w g nc) := by
  obtain ⟨i0, hi, hz0, hz1, hz2⟩ := info_parts Tryz.infoInt
  obtain ⟨i1, hj, hj0, hj1, hj2⟩ := info_parts Tryz.infoRegion
  obtain ⟨i2, hl, hi2z, hl1, hl2⟩ := info_parts Tryz.infoLine
  have hlt := ht.lt
  have Ht := Lib.hid ht
  clear ht
  go_enter Tryz.func10, Tryz.ntmps10
  go_upto_region 5 with (first
    | (go_at_call 34
       refine (range_any g r 1 3 _ Ht.out (by omega) (by omega) (by omega)).mono ?_
       rintro e w1 ⟨rfl, ht1, hg1⟩
       have hkb := nx_bd r (3 - 1 + 1) (by omega)
       generalize nx r (3 - 1 + 1) = k0 at *
       obtain ⟨m0, hm0⟩ : ∃ m : Nat, 1 + k0 = (m : Int) := ⟨(1 + k0).toNat, by omega⟩
       have hm03 : 1 ≤ m0 ∧ m0 ≤ 3 := by omega
       rw [hm0]
       have Ht1 := Lib.hid ht1
       have Hg1 := Lib.hid hg1
       have hs1 : w.heap.size ≤ w1.heap.size := hg1.size
       clear ht1 hg1 hkb hm0)
    | fail)
  go_loopw [9, 10, 12, 13] (fun nv rv kv _ wr => ∃ (R : RL) (k : Nat) (r1 : List Int), R.length + k = m0 ∧ kv = .int .i64 (k : Int) ∧ wr.ownsRow w.heap.size 3 1 nv R.length ((nums R.length).map (.int .i64)) ∧ RsOwn wr w.heap.size rv R ∧ PcOk (rgs R) ∧ AP nv rv ∧ (∀ x ∈ R, AP nv (rgC x)) ∧ TapeAt wr g r1 ∧ w.grownBy wr (some g)) (fun _ _ kv _ _ => (intOf kv).toNat)
  case atStart => exact ⟨[], m0, _, by simp, rfl, World.ownsRow_nil _ _ _ _, RsOwn.nil _ _, ⟨by simp [rgs], fun i hi => (by simp [rgs] at hi)⟩, fun g h => (by simp [Value.ownBlock] at h), fun x hx => (by cases hx), Ht1.out, Hg1.out⟩
  case round =>
    obtain ⟨R, k, r1, hRk, rfl, hnum, hR, hpc, hap, hapx, htr, hgr⟩ := hrel
    have Hnum := Lib.hid hnum
    have HR := Lib.hid hR
    have Hpc := Lib.hid hpc
    have Hap := Lib.hid hap
    have Hapx := Lib.hid hapx
    have Htr := Lib.hid htr
    have Hgr := Lib.hid hgr
    have hsr := hgr.size
    have hgw := htr.lt
    obtain ⟨n, hn⟩ : ∃ n, R.length = n := ⟨_, rfl⟩
    have Hn := Lib.hid hn
    rw [hn] at hRk Hnum
    clear hnum hR hpc hap hapx htr hgr hn
    by_cases hk0 : 0 < k
    · have hk0' : (0 : Int) < (k : Int) := by omega
      have hn2 : n ≤ 2 := by omega
      obtain ⟨NA, kc, rfl, _, _, _⟩ := own_slice Hnum.out
      have hwn1 : IntKind.i64.wrap ((n : Int) + 1) = (n : Int) + 1 := IntWalk.i64_in _ (by omega)
      have hwn : IntKind.i64.wrap (10 * (n : Int)) = 10 * (n : Int) := IntWalk.i64_in _ (by omega)
      go_wp2_with (first
        | (at_builtin
           refine wpList_append_any _ rfl (.tmp 29) (.tmp 32) _ rfl w.heap.size 3 i0 _ 1 8 Tryz.underlying22 hi hz0 hz1 hz2 rfl (by omega) _ n ((nums n).map (.int .i64)) rfl
             (Hnum.out.alloc _) _ _ 1 1 [.int .i64 ((n : Int) + 1)] rfl ⟨rfl, fun _ => ⟨_, rfl, Nat.lt_succ_self _, fun j u hu => (by exact news_any _ _ _ j u hu)⟩⟩ (by simp [Value.oneCell']) (by simp only [maxLen]; omega) (by omega) (by simp; omega) ?_
           intro v5 w5 hown5 hg5 hat5
           have Hown5 := Lib.hid hown5
           have HR5 : Hid (RsOwn w5 w.heap.size u10 R) := Lib.hid ((HR.out.below ((Below.refl _ _).alloc (Nat.le_refl _) _)).apart hg5 (fun q hq e => Hap.out q e hq) (fun x hx q hq e => Hapx.out x hx q e hq))
           have hltR := own_lt HR.out.o
           have hltX := fun x hx => own_lt (HR.out.fs x hx)
           have Hap5 : Hid (AP v5 u10) := Lib.hid (AP.grow Hap.out hat5 (fun q hq => by have := hltR q hq; simp; omega))
           have Hapx5 : Hid (∀ x ∈ R, AP v5 (rgC x)) := Lib.hid (fun x hx => AP.grow (Hapx.out x hx) hat5 (fun q hq => by have := hltX x hx q hq; simp; omega))
           have Ht5 := Lib.hid ((Htr.out.alloc (.cells #[.int .i64 ((n : Int) + 1)] 3)).grown hg5 (fun q hq => by have := own_base Hnum.out q hq; omega))
           have Hg5 := Lib.hid (only_grown (only_alloc Hgr.out (.cells #[.int .i64 ((n : Int) + 1)] 3)) hg5 (fun q hq => own_base Hnum.out q hq))
           have H5 : Hid True := Lib.hid trivial
           clear hown5 hg5 hat5 hltR hltX)
        | (go_at_call 34
           have hguard := H6.out
           refine (range_any g r1.tail 2 9 _ Ht6.out (by omega) (by omega) (by omega)).mono ?_
           rintro e w7 ⟨rfl, ht7, hg7⟩
           have hq7 := nx_bd r1.tail (9 - 2 + 1) (by omega)
           generalize nx r1.tail (9 - 2 + 1) = q7 at *
           have Ht7 := Lib.hid ht7
           have Hg7 := Lib.hid (only_trans Hg6.out hg7)
           have Hown7 := Lib.hid (ownsRow_only Hown6.out hg7 hlt)
           have HR7 := Lib.hid (HR6.out.only hg7 hlt)
           have hs7 : w.heap.size ≤ w7.heap.size := Hg7.out.size
           have hgw7 : g < w7.heap.size := ht7.lt
           have hcl : PclAt n [⟨10 * (n : Int), 0, 10 * (n : Int) + (2 + q6), 2 + q7⟩] := ⟨2 + q6, 2 + q7, by omega, by omega, rfl⟩
           have hwq : IntKind.i64.wrap (10 * (n : Int) + (2 + q6)) = 10 * (n : Int) + (2 + q6) := IntWalk.i64_in _ (by omega)
           have Hcl := Lib.hid hcl
           clear ht7 hg7 hguard hcl)
        | (go_at_call 34
           have hguard := H5.out
           refine (range_any g r1 2 9 _ Ht5.out (by omega) (by omega) (by omega)).mono ?_
           rintro e w6 ⟨rfl, ht6, hg6⟩
           have hq6 := nx_bd r1 (9 - 2 + 1) (by omega)
           generalize nx r1 (9 - 2 + 1) = q6 at *
           have Ht6 := Lib.hid ht6
           have Hg6 := Lib.hid (only_trans Hg5.out hg6)
           have Hown6 := Lib.hid (ownsRow_only Hown5.out hg6 hlt)
           have HR6 := Lib.hid (HR5.out.only hg6 hlt)
           have hs6 : w.heap.size ≤ w6.heap.size := Hg6.out.size
           have H6 : Hid True := Lib.hid trivial
           have hwq6 : IntKind.i64.wrap (10 * (n : Int) + (2 + q6)) = 10 * (n : Int) + (2 + q6) := IntWalk.i64_in _ (by omega)
           clear ht6 hg6 hguard)
        | (at_builtin
           have hguard := H6.out
           (go_loud (refine wpList_append_any _ rfl (.tmp 34) (.tmp 47) _ rfl w.heap.size 33 i1 _ 1 24 Tryz.underlying26 hj hj0 hj1 hj2 rfl (by omega) _ n (rgCells R) rfl ((by have h := HR7.out.o; rw [Hn.out] at h; exact (h.alloc _).alloc _)) _ _ 1 1 [.slice (some ⟨w7.heap.size, 0, none⟩) 1 1] rfl ⟨rfl, fun _ => ⟨_, rfl, Nat.lt_succ_self _, fun j u hu => (by have hnw := news_any (w7.alloc (.cells #[.int .i64 (10 * (n : Int)), .int .i64 0, .int .i64 (10 * (n : Int) + (2 + q6)), .int .i64 (2 + q7)] 64)) #[.slice (some ⟨w7.heap.size, 0, none⟩) 1 1] 33 j u hu; rw [World.size_alloc] at hnw; exact hnw)⟩⟩ (by simp [Value.oneCell']) (by simp only [maxLen]; omega) (by omega) (by simp; omega) ?_))
           intro v8 w8 hown8 hg8 hat8
           clear hguard)
        | fail)
      go_roundw
      case rel =>
        have hb7 := own_base HR7.out.o
        have hlt7 := own_lt Hown7.out
        have hlit := (own_lit w7 64 4 1 #[.int .i64 (10 * (n : Int)), .int .i64 0, .int .i64 (10 * (n : Int) + (2 + q6)), .int .i64 (2 + q7)] (rCells [⟨10 * (n : Int), 0, 10 * (n : Int) + (2 + q6), 2 + q7⟩]) rfl rfl (by unfold maxLen; omega)).alloc (.cells #[.slice (some ⟨w7.heap.size, 0, none⟩) 1 1] 33)
        have hnum8 := own_grown ((Hown7.out.alloc (.cells #[.int .i64 (10 * (n : Int)), .int .i64 0, .int .i64 (10 * (n : Int) + (2 + q6)), .int .i64 (2 + q7)] 64)).alloc (.cells #[.slice (some ⟨w7.heap.size, 0, none⟩) 1 1] 33)) hg8 (fun q hq e => Hap5.out q hq e)
        refine ⟨R ++ [([⟨10 * (n : Int), 0, 10 * (n : Int) + (2 + q6), 2 + q7⟩], ⟨some ⟨w7.heap.size, 0, none⟩, 1⟩)], k - 1, r1.tail.tail, by rw [List.length_append, Hn.out]; simp; omega, by rw [show ((k - 1 : Nat) : Int) = (k : Int) - 1 by omega], ?_, ?_, ?_, ?_, ?_, ?_, ?_⟩
        · rw [List.length_append, Hn.out, List.length_singleton, nums_succ, List.map_append]
          exact hnum8
        · refine RsOwn.push HR7.out ([⟨10 * (n : Int), 0, 10 * (n : Int) + (2 + q6), 2 + q7⟩], ⟨some ⟨w7.heap.size, 0, none⟩, 1⟩) (own_rebase hlit hs7) (fun q hq e => ?_) (((Below.refl _ _).alloc (Nat.le_refl _) _).alloc (by simp) _) hg8 (by rw [Hn.out]; exact hown8) hat8
          have h1 := own_lt HR7.out.o q hq
          simp [Value.ownBlock] at e
          omega
        · have e : rgs (R ++ [([⟨10 * (n : Int), 0, 10 * (n : Int) + (2 + q6), 2 + q7⟩], ⟨some ⟨w7.heap.size, 0, none⟩, 1⟩)]) = rgs R ++ [[⟨10 * (n : Int), 0, 10 * (n : Int) + (2 + q6), 2 + q7⟩]] := by simp [rgs]
          rw [e]
          exact Hpc.out.push (by rw [rgs_len, Hn.out]; omega) (by rw [rgs_len, Hn.out]; exact Hcl.out)
        · exact (AP.grow Hap5.out.symm hat8 (fun q hq => by have := hlt7 q hq; simp; omega)).symm
        · intro x hx
          rcases List.mem_append.1 hx with hx | hx
          · exact Hapx5.out x hx
          · rw [List.mem_singleton] at hx
            subst hx
            intro q hq e
            have := hlt7 q hq
            simp [rgC, Value.ownBlock] at e
            omega
        · exact ((Ht7.out.alloc _).alloc _).grown hg8 (fun q hq => by have := hb7 q hq; omega)
        · exact only_grown (only_alloc (only_alloc Hg7.out _) _) hg8 (fun q hq => hb7 q hq)
      case measure => simp [intOf]; omega
    · obtain rfl : k = 0 := by omega
      have hk0' : ¬ (0 : Int) < ((0 : Nat) : Int) := by omega
      obtain rfl : n = m0 := by omega
      obtain ⟨w2, hw2⟩ : ∃ w2 : World, w2 = wr := ⟨_, rfl⟩
      subst hw2
      obtain ⟨NA, kc, rfl, _, _, _⟩ := own_slice Hnum.out
      obtain ⟨RA, rc, rfl, _, _, _⟩ := own_slice HR.out.o
      have hwm : IntKind.i64.wrap ((most : Int) + 1) = (most : Int) + 1 := IntWalk.i64_in _ (by omega)
      have hmR : 1 ≤ R.length := by have := Hn.out; omega
      go_upto_region 10 with (first
        | (go_at_call 25
           refine (next_any g r1 ((most : Int) + 1) _ Htr.out (by omega)).mono ?_
           rintro e w3 ⟨rfl, ht3, hg3⟩
           have hkb := nx_bd r1 ((most : Int) + 1) (by omega)
           generalize nx r1 ((most : Int) + 1) = m1 at *
           obtain ⟨m1, rfl⟩ : ∃ m : Nat, m1 = (m : Int) := ⟨m1.toNat, by omega⟩
           have hm14 : m1 ≤ 4 := by omega
           have Ht3 := Lib.hid ht3
           have Hg3 := Lib.hid hg3
           have hs3 : w2.heap.size ≤ w3.heap.size := hg3.size
           clear ht3 hg3 hkb)
        | fail)
      go_loopw [11, 14, 15, 17, 18, 66, 108] (fun lv kv _ _ _ _ _ wr => ∃ (L : LL) (k j : Nat) (r2 : List Int), k + j = m1 ∧ kv = .int .i64 (k : Int) ∧ LsOwn wr w2.heap.size lv L ∧ LsOk (rgs R) nc j (lns L) ∧ TapeAt wr g r2 ∧ w2.grownBy wr (some g)) (fun _ kv _ _ _ _ _ _ => (intOf kv).toNat)
      case atStart => exact ⟨[], m1, 0, _, rfl, rfl, LsOwn.nil _ _, LsOk.nil Hpc.out nc, Ht3.out, Hg3.out⟩
      case round =>
        obtain ⟨L, k, j, r2, hkj, rfl, hL, hok, htr2, hgr2⟩ := hrel
        have HL := Lib.hid hL
        have Hok := Lib.hid hok
        have Htr2 := Lib.hid htr2
        have Hgr2 := Lib.hid hgr2
        have hsr2 := hgr2.size
        have hgw2 : g < w2.heap.size := hgw
        clear hL hok htr2 hgr2
        by_cases hk0 : 0 < k
        · have hk0' : (0 : Int) < (k : Int) := by omega
          have hj4 : j < 4 := by omega
          go_upto_region 13 with (first
            | (go_at_call 25
               refine (next_any g r2 (n : Int) _ Htr2.out (by omega)).mono ?_
               rintro e w4 ⟨rfl, ht4, hg4⟩
               have hpb := nx_bd r2 (n : Int) (by omega)
               generalize nx r2 (n : Int) = p at *
               obtain ⟨p, rfl⟩ : ∃ m : Nat, p = (m : Int) := ⟨p.toNat, by omega⟩
               have hpn : p < n := by omega
               have Ht4 := Lib.hid ht4
               have Hg4 := Lib.hid (only_trans Hgr2.out hg4)
               have HL4 := Lib.hid (HL.out.only hg4 hgw2)
               have hs4 : w2.heap.size ≤ w4.heap.size := Hg4.out.size
               clear ht4 hg4 hpb)
            | fail)
          go_upto_region 14 with (first
            | (go_at_call 35
               refine (land_any g r2.tail _ Ht4.out).mono ?_
               rintro e w5 ⟨⟨A, c⟩, a, r5, rfl, hown5, ht5, hg5, hla⟩
               have Hown5 := Lib.hid hown5
               have Ht5 := Lib.hid ht5
               have Hg5 := Lib.hid (only_trans Hg4.out hg5)
               have HL5 := Lib.hid (HL4.out.only hg5 hgw2)
               have Hla := Lib.hid hla
               have hs5 : w4.heap.size ≤ w5.heap.size := hg5.size
               have hg5w := ht5.lt
               clear hown5 ht5 hg5 hla)
            | fail)
          obtain ⟨X, hX⟩ : ∃ X, w5.heap.size = X := ⟨_, rfl⟩
          obtain ⟨wx, hwx⟩ : ∃ wx : World, wx = w5.alloc (.cells #[.slice A a.length c] 33) := ⟨_, rfl⟩
          rw [← hwx]
          have HX : Hid (wx.heap[X]? = some (.cells #[.slice A a.length c] 33 (0, 0))) := Lib.hid (by rw [hwx, ← hX]; exact heap_alloc_new w5 _)
          have hlowA := own_lt Hown5.out
          have Hownx : Hid (wx.ownsRow w4.heap.size 64 4 (.slice A a.length c) a.length (rCells a)) := Lib.hid (by rw [hwx]; exact Hown5.out.alloc _)
          have HlowA : Hid (∀ q, (Value.slice A a.length c).ownBlock = some q → w4.heap.size ≤ q ∧ q < X) := Lib.hid (fun q hq => ⟨own_base Hownx.out q hq, by have := hlowA q hq; omega⟩)
          have Htx : Hid (TapeAt wx g r5) := Lib.hid (by rw [hwx]; exact Ht5.out.alloc _)
          have Hgx : Hid (w2.grownBy wx (some g)) := Lib.hid (by rw [hwx]; exact only_alloc Hg5.out _)
          have HLx : Hid (LsOwn wx w2.heap.size u11 L) := Lib.hid (by rw [hwx]; exact HL5.out.below ((Below.refl _ _).alloc (Nat.le_refl _) _))
          have HltL : Hid (∀ q, u11.ownBlock = some q → q < w4.heap.size) := Lib.hid (own_lt HL4.out.o)
          have HltF : Hid (∀ x ∈ L, ∀ q, (Value.slice x.2.a x.1.rg.length x.2.c).ownBlock = some q → q < w4.heap.size) := Lib.hid (fun x hx => own_lt (HL4.out.fs x hx))
          have hXx : X < wx.heap.size := by rw [hwx, ← hX]; simp
          have h4X : w4.heap.size ≤ X := by omega
          rw [hX]
          clear hwx hX hlowA Ht5 Ht4 Hg5 Hg4 HL5 HL4 Hown5 hg5w hs5
          have x0 := cell_of_row wx X 0 _ _ _ HX.out
          have hw10 : IntKind.i64.wrap (10 * (p : Int)) = 10 * (p : Int) := IntWalk.i64_in _ (by omega)
          go_upto_block 4 with fail
          clear x0
          go_cut [17, 66] (fun _ _ wc => wc.ownsRow w4.heap.size 64 4 (.slice A a.length c) a.length (rCells (shift (p : Int) a)) ∧ wx.grownBy wc (Value.slice A a.length c).ownBlock)
          case first =>
            go_wp2_with fail
            go_loopw [17, 66] (fun _ iv wr => ∃ t : Nat, t ≤ a.length ∧ iv = .int .i64 (t : Int) ∧ wr.ownsRow w4.heap.size 64 4 (.slice A a.length c) a.length (rCells (shift (p : Int) (a.take t) ++ a.drop t)) ∧ wx.grownBy wr (Value.slice A a.length c).ownBlock) (fun _ iv _ => a.length - (intOf iv).toNat)
            case atStart => exact ⟨0, Nat.zero_le _, rfl, by simpa [shift] using Hownx.out, World.grownBy.refl _ _⟩
            case round =>
              obtain ⟨t, ht, rfl, hrow, hgx⟩ := hrel
              have Hrow := Lib.hid hrow
              have Hgy := Lib.hid hgx
              clear hrow hgx
              by_cases hta : t < a.length
              · have hta' : (t : Int) < (a.length : Int) := by omega
                obtain ⟨gA, capA, eA, hgB, hgL, -, -, hcA, hfA⟩ := own_at Hrow.out (by omega)
                injection eA with e1 e2 e3
                subst e1 e3
                have HrA : Hid (wx.grownBy wr (some gA)) := Lib.hid Hgy.out
                have hgAX : gA < X := (HlowA.out gA rfl).2
                have hrX := (HrA.out.block X hXx (by intro e; injection e; omega)).trans HX.out
                have x0 := cell_of_row wr X 0 _ _ _ hrX
                have hMl : (shift (p : Int) (a.take t) ++ a.drop t).length = a.length := by rw [List.length_append, shift_len, List.length_take, List.length_drop]; omega
                have hMt : (shift (p : Int) (a.take t) ++ a.drop t)[t]'(by rw [hMl]; exact hta) = a[t] := by
                  rw [List.getElem_append_right (by rw [shift_len, List.length_take]; omega)]
                  simp only [shift_len, List.length_take, List.getElem_drop]
                  congr 1
                  omega
                obtain ⟨y0, y1, y2, y3⟩ := rCells_at (shift (p : Int) (a.take t) ++ a.drop t) t (by rw [hMl]; exact hta)
                rw [hMt] at y0 y2
                have c0 := hcA _ _ y0
                have c2 := hcA _ _ y2
                have f0 := hfA (t * 4)
                have f2 := hfA (t * 4 + 2)
                have hset := rCells_shift (p : Int) a t hta
                have hyb := Hla.out.ins a[t] (List.getElem_mem hta)
                obtain ⟨y, hy⟩ : ∃ y, a[t] = y := ⟨_, rfl⟩
                rw [hy] at c0 c2 hset hyb
                have Hset := Lib.hid hset
                clear hMt hMl y0 y1 y2 y3 hset hy hcA hfA hrX Hgy
                have hwl : IntKind.i64.wrap (y.l + 10 * (p : Int)) = y.l + 10 * (p : Int) := IntWalk.i64_in _ (by omega)
                have hwr : IntKind.i64.wrap (y.r + 10 * (p : Int)) = y.r + 10 * (p : Int) := IntWalk.i64_in _ (by omega)
                have hal := Hla.out.len
                go_upto_region 17 with fail
                obtain ⟨wd, hwd⟩ : ∃ wd : World, wd = wr.drew := ⟨_, rfl⟩
                have x0 : wd.cell? ⟨X, 0, none⟩ = some (.slice (some ⟨gA, 0, none⟩) a.length c) := by rw [hwd]; exact x0
                have c0 : wd.cell? ⟨gA, t * 4, none⟩ = some (.int .i64 y.l) := by rw [hwd]; exact c0
                have c2 : wd.cell? ⟨gA, t * 4 + 2, none⟩ = some (.int .i64 y.r) := by rw [hwd]; exact c2
                have f0 : wd.frozen? ⟨gA, t * 4, none⟩ = false := by rw [hwd]; exact f0
                have f2 : wd.frozen? ⟨gA, t * 4 + 2, none⟩ = false := by rw [hwd]; exact f2
                have hgL : gA < wd.heap.size := by rw [hwd]; exact hgL
                have Hrow : Hid (wd.ownsRow w4.heap.size 64 4 (.slice (some ⟨gA, 0, none⟩) a.length c) a.length (rCells (shift (p : Int) (a.take t) ++ a.drop t))) := by rw [hwd]; exact Hrow
                have HrA : Hid (wx.grownBy wd (some gA)) := Lib.hid (by rw [hwd]; exact only_drew HrA.out)
                refine wp_region_held (S := fun w' => w'.cell? ⟨X, 0, none⟩ = some (.slice (some ⟨gA, 0, none⟩) a.length c)) (by kernel_rfl) ?_
                change wpAnyH _ _ _ _ _ 30 #[false, false, false, false, false, false, false, false, false, false, false, false, false, false, false, false, false, false, false, false, false, false, false, false, false, false, false, false, false, false] _ wr.drew
                rw [← hwd]
                clear hwd
                have hHeld : (fun w' : World => w'.cell? ⟨X, 0, none⟩ = some (.slice (some ⟨gA, 0, none⟩) a.length c)) wd := x0
                have hXg : X ≠ gA := by omega
                refine wpAnyH_take (i := 0) (v := ?vva0) rfl (by kernel_rfl) (by kernel_rfl) (by kernel_rfl) (fun _ _ _ h => h) (Or.inl ⟨by rfl, ?hya0⟩) hHeld ?resta0; (case hya0 => (intro w hSw; (try dsimp only at hSw); go_simp; all_goals (with_reducible rfl))); simp only [Act.put, List.setIfInBounds_toArray, List.set_cons_zero, List.set_cons_succ]
                refine wpAnyH_take (i := 1) (v := ?vva1) rfl (by kernel_rfl) (by kernel_rfl) (by kernel_rfl) (fun _ _ _ h => h) (Or.inl ⟨by rfl, ?hya1⟩) hHeld ?resta1; (case hya1 => (intro w hSw; (try dsimp only at hSw); go_simp; all_goals (with_reducible rfl))); simp only [Act.put, List.setIfInBounds_toArray, List.set_cons_zero, List.set_cons_succ]
                refine wpAnyH_take (i := 2) (v := ?vva2) rfl (by kernel_rfl) (by kernel_rfl) (by kernel_rfl) (fun _ _ _ h => h) (Or.inl ⟨by rfl, ?hya2⟩) hHeld ?resta2; (case hya2 => (intro w hSw; (try dsimp only at hSw); go_simp; all_goals (with_reducible rfl))); simp only [Act.put, List.setIfInBounds_toArray, List.set_cons_zero, List.set_cons_succ]
                refine wpAnyH_take (i := 3) (v := ?vva3) rfl (by kernel_rfl) (by kernel_rfl) (by kernel_rfl) (fun _ _ _ h => h) (Or.inl ⟨by rfl, ?hya3⟩) hHeld ?resta3; (case hya3 => (intro w hSw; (try dsimp only at hSw); go_simp; all_goals (with_reducible rfl))); simp only [Act.put, List.setIfInBounds_toArray, List.set_cons_zero, List.set_cons_succ]
                refine wpAnyH_take (i := 4) (v := ?vva4) rfl (by kernel_rfl) (by kernel_rfl) (by kernel_rfl) (fun _ _ _ h => h) (Or.inl ⟨by rfl, ?hya4⟩) hHeld ?resta4; (case hya4 => (intro w hSw; (try dsimp only at hSw); go_simp; all_goals (with_reducible rfl))); simp only [Act.put, List.setIfInBounds_toArray, List.set_cons_zero, List.set_cons_succ]
                refine wpAnyH_take (i := 5) (v := ?vva5) rfl (by kernel_rfl) (by kernel_rfl) (by kernel_rfl) (fun _ _ _ h => h) (Or.inl ⟨by rfl, ?hya5⟩) hHeld ?resta5; (case hya5 => (intro w hSw; (try dsimp only at hSw); go_simp; all_goals (with_reducible rfl))); simp only [Act.put, List.setIfInBounds_toArray, List.set_cons_zero, List.set_cons_succ]
                refine wpAnyH_take (i := 6) (v := ?vva6) rfl (by kernel_rfl) (by kernel_rfl) (by kernel_rfl) (fun _ _ _ h => h) (Or.inl ⟨by rfl, ?hya6⟩) hHeld ?resta6; (case hya6 => (intro w hSw; (try dsimp only at hSw); go_simp; all_goals (with_reducible rfl))); simp only [Act.put, List.setIfInBounds_toArray, List.set_cons_zero, List.set_cons_succ]
                refine wpAnyH_take (i := 7) (v := ?vva7) rfl (by kernel_rfl) (by kernel_rfl) (by kernel_rfl) (fun _ _ _ h => h) (Or.inl ⟨by rfl, ?hya7⟩) hHeld ?resta7; (case hya7 => (intro w hSw; (try dsimp only at hSw); go_simp; all_goals (with_reducible rfl))); simp only [Act.put, List.setIfInBounds_toArray, List.set_cons_zero, List.set_cons_succ]
                refine wpAnyH_take (i := 8) (v := ?vva8) rfl (by kernel_rfl) (by kernel_rfl) (by kernel_rfl) (fun _ _ _ h => h) (Or.inl ⟨by rfl, ?hya8⟩) hHeld ?resta8; (case hya8 => (intro w hSw; (try dsimp only at hSw); go_simp; all_goals (with_reducible rfl))); simp only [Act.put, List.setIfInBounds_toArray, List.set_cons_zero, List.set_cons_succ]
                refine wpAnyH_take (i := 9) (v := ?vva9) rfl (by kernel_rfl) (by kernel_rfl) (by kernel_rfl) (fun _ _ _ h => h) (Or.inl ⟨by rfl, ?hya9⟩) hHeld ?resta9; (case hya9 => (intro w hSw; (try dsimp only at hSw); go_simp; all_goals (with_reducible rfl))); simp only [Act.put, List.setIfInBounds_toArray, List.set_cons_zero, List.set_cons_succ]
                refine wpAnyH_take (i := 10) (v := ?vva10) rfl (by kernel_rfl) (by kernel_rfl) (by kernel_rfl) (fun _ _ _ h => h) (Or.inl ⟨by rfl, ?hya10⟩) hHeld ?resta10; (case hya10 => (intro w hSw; (try dsimp only at hSw); go_simp; all_goals (with_reducible rfl))); simp only [Act.put, List.setIfInBounds_toArray, List.set_cons_zero, List.set_cons_succ]
                refine wpAnyH_take (i := 12) (v := ?vva12) rfl (by kernel_rfl) (by kernel_rfl) (by kernel_rfl) (fun _ _ _ h => h) (Or.inl ⟨by rfl, ?hya12⟩) hHeld ?resta12; (case hya12 => (intro w hSw; (try dsimp only at hSw); go_simp; all_goals (with_reducible rfl))); simp only [Act.put, List.setIfInBounds_toArray, List.set_cons_zero, List.set_cons_succ]
                refine wpAnyH_take (i := 13) (v := ?vva13) rfl (by kernel_rfl) (by kernel_rfl) (by kernel_rfl) (fun _ _ _ h => h) (Or.inl ⟨by rfl, ?hya13⟩) hHeld ?resta13; (case hya13 => (intro w hSw; (try dsimp only at hSw); go_simp; all_goals (with_reducible rfl))); simp only [Act.put, List.setIfInBounds_toArray, List.set_cons_zero, List.set_cons_succ]
                refine wpAnyH_take (i := 15) (v := ?vva15) rfl (by kernel_rfl) (by kernel_rfl) (by kernel_rfl) (fun _ _ _ h => h) (Or.inl ⟨by rfl, ?hya15⟩) hHeld ?resta15; (case hya15 => (intro w hSw; (try dsimp only at hSw); go_simp; all_goals (with_reducible rfl))); simp only [Act.put, List.setIfInBounds_toArray, List.set_cons_zero, List.set_cons_succ]
                refine wpAnyH_take (i := 16) (v := ?vva16) rfl (by kernel_rfl) (by kernel_rfl) (by kernel_rfl) (fun _ _ _ h => h) (Or.inl ⟨by rfl, ?hya16⟩) hHeld ?resta16; (case hya16 => (intro w hSw; (try dsimp only at hSw); go_simp; all_goals (with_reducible rfl))); simp only [Act.put, List.setIfInBounds_toArray, List.set_cons_zero, List.set_cons_succ]
                refine wpAnyH_take (i := 17) (v := ?vva17) rfl (by kernel_rfl) (by kernel_rfl) (by kernel_rfl) (fun _ _ _ h => h) (Or.inl ⟨by rfl, ?hya17⟩) hHeld ?resta17; (case hya17 => (intro w hSw; (try dsimp only at hSw); go_simp; all_goals (with_reducible rfl))); simp only [Act.put, List.setIfInBounds_toArray, List.set_cons_zero, List.set_cons_succ]
                refine wpAnyH_take (i := 18) (v := ?vva18) rfl (by kernel_rfl) (by kernel_rfl) (by kernel_rfl) (fun _ _ _ h => h) (Or.inl ⟨by rfl, ?hya18⟩) hHeld ?resta18; (case hya18 => (intro w hSw; (try dsimp only at hSw); go_simp; all_goals (with_reducible rfl))); simp only [Act.put, List.setIfInBounds_toArray, List.set_cons_zero, List.set_cons_succ]
                refine wpAnyH_take (i := 19) (v := ?vva19) rfl (by kernel_rfl) (by kernel_rfl) (by kernel_rfl) (fun _ _ _ h => h) (Or.inl ⟨by rfl, ?hya19⟩) hHeld ?resta19; (case hya19 => (intro w hSw; (try dsimp only at hSw); go_simp; all_goals (with_reducible rfl))); simp only [Act.put, List.setIfInBounds_toArray, List.set_cons_zero, List.set_cons_succ]
                refine wpAnyH_take (i := 21) (v := ?vva21) rfl (by kernel_rfl) (by kernel_rfl) (by kernel_rfl) (fun _ _ _ h => h) (Or.inl ⟨by rfl, ?hya21⟩) hHeld ?resta21; (case hya21 => (intro w hSw; (try dsimp only at hSw); go_simp; all_goals (with_reducible rfl))); simp only [Act.put, List.setIfInBounds_toArray, List.set_cons_zero, List.set_cons_succ]
                refine wpAnyH_take (i := 22) (v := ?vva22) rfl (by kernel_rfl) (by kernel_rfl) (by kernel_rfl) (fun _ _ _ h => h) (Or.inl ⟨by rfl, ?hya22⟩) hHeld ?resta22; (case hya22 => (intro w hSw; (try dsimp only at hSw); go_simp; all_goals (with_reducible rfl))); simp only [Act.put, List.setIfInBounds_toArray, List.set_cons_zero, List.set_cons_succ]
                refine wpAnyH_ready (rs := [11, 20]) (by kernel_rfl) (by simp) ?_
                refine AllReadyH.cons rfl (fun K hK => ?_) (AllReadyH.cons rfl (fun K hK => ?_) AllReadyH.nil)
                · go_simp
                  refine hK.out _ _ (x0) (fun hHeld => ?_)
                  clear hK K
                  try simp only [Act.put, List.setIfInBounds_toArray, List.set_cons_zero, List.set_cons_succ]
                  refine wpAnyH_take (i := 14) (v := ?vvb14) rfl (by kernel_rfl) (by kernel_rfl) (by kernel_rfl) (fun _ _ _ h => h) (Or.inl ⟨by rfl, ?hyb14⟩) hHeld ?restb14; (case hyb14 => (intro w hSw; (try dsimp only at hSw); go_simp; all_goals (with_reducible rfl))); simp only [Act.put, List.setIfInBounds_toArray, List.set_cons_zero, List.set_cons_succ]
                  refine wpAnyH_ready (rs := [20]) (by kernel_rfl) (by simp) ?_
                  refine AllReadyH.cons rfl (fun K hK => ?_) AllReadyH.nil
                  go_simp
                  refine hK.out _ _ (x0) (fun hHeld => ?_)
                  clear hK K
                  try simp only [Act.put, List.setIfInBounds_toArray, List.set_cons_zero, List.set_cons_succ]
                  refine wpAnyH_take (i := 23) (v := ?vvb23) rfl (by kernel_rfl) (by kernel_rfl) (by kernel_rfl) (fun _ _ _ h => h) (Or.inl ⟨by rfl, ?hyb23⟩) hHeld ?restb23; (case hyb23 => (intro w hSw; (try dsimp only at hSw); go_simp; all_goals (with_reducible rfl))); simp only [Act.put, List.setIfInBounds_toArray, List.set_cons_zero, List.set_cons_succ]
                  refine wpAnyH_take (i := 24) (v := ?vvb24) rfl (by kernel_rfl) (by kernel_rfl) (by kernel_rfl) (fun _ _ _ h => h) (Or.inl ⟨by rfl, ?hyb24⟩) hHeld ?restb24; (case hyb24 => (intro w hSw; (try dsimp only at hSw); go_simp; all_goals (with_reducible rfl))); simp only [Act.put, List.setIfInBounds_toArray, List.set_cons_zero, List.set_cons_succ]
                  refine wpAnyH_take (i := 25) (v := ?vvb25) rfl (by kernel_rfl) (by kernel_rfl) (by kernel_rfl) (fun _ _ _ h => h) (Or.inl ⟨by rfl, ?hyb25⟩) hHeld ?restb25; (case hyb25 => (intro w hSw; (try dsimp only at hSw); go_simp; all_goals (with_reducible rfl))); simp only [Act.put, List.setIfInBounds_toArray, List.set_cons_zero, List.set_cons_succ]
                  refine wpAnyH_ready (rs := [26]) (by kernel_rfl) (by simp) ?_
                  refine AllReadyH.cons rfl (fun K hK => ?_) AllReadyH.nil
                  go_simp
                  refine hK.out _ _ (by show (World.setCell _ _ _).cell? _ = _; rw [World.cell?_of_block (Below.heap_setCell _ _ _ _ (by show X ≠ gA; exact hXg))]; exact x0) (fun hHeld => ?_)
                  clear hK K
                  try simp only [Act.put, List.setIfInBounds_toArray, List.set_cons_zero, List.set_cons_succ]
                  refine wpAnyH_take (i := 27) (v := ?vvb27) rfl (by kernel_rfl) (by kernel_rfl) (by kernel_rfl) (fun _ _ _ h => h) (Or.inl ⟨by rfl, ?hyb27⟩) hHeld ?restb27; (case hyb27 => (intro w hSw; (try dsimp only at hSw); go_simp; all_goals (with_reducible rfl))); simp only [Act.put, List.setIfInBounds_toArray, List.set_cons_zero, List.set_cons_succ]
                  refine wpAnyH_take (i := 28) (v := ?vvb28) rfl (by kernel_rfl) (by kernel_rfl) (by kernel_rfl) (fun _ _ _ h => h) (Or.inl ⟨by rfl, ?hyb28⟩) hHeld ?restb28; (case hyb28 => (intro w hSw; (try dsimp only at hSw); go_simp; all_goals (with_reducible rfl))); simp only [Act.put, List.setIfInBounds_toArray, List.set_cons_zero, List.set_cons_succ]
                  refine wpAnyH_ready (rs := [29]) (by kernel_rfl) (by simp) ?_
                  refine AllReadyH.cons rfl (fun K hK => ?_) AllReadyH.nil
                  go_simp
                  refine hK.out _ _ (by show (World.setCell _ _ _).cell? _ = _; rw [World.cell?_of_block (Below.heap_setCell _ _ _ _ (by show X ≠ gA; exact hXg)), World.cell?_of_block (Below.heap_setCell _ _ _ _ (by show X ≠ gA; exact hXg))]; exact x0) (fun hHeld => ?_)
                  clear hK K
                  try simp only [Act.put, List.setIfInBounds_toArray, List.set_cons_zero, List.set_cons_succ]
                  refine wpAnyH_done (by kernel_rfl) ?_ _
                  clear hHeld
                  go_wp2
                  go_roundw
                  case rel => exact ⟨t + 1, by omega, by go_num, by rw [← Hset.out]; exact own_setN (own_setN Hrow.out _ _) _ _, only_setCell (only_setCell HrA.out (.inl rfl) _) (.inl rfl) _⟩
                  case measure => simp [intOf]; omega

                · go_simp
                  refine hK.out _ _ (x0) (fun hHeld => ?_)
                  clear hK K
                  try simp only [Act.put, List.setIfInBounds_toArray, List.set_cons_zero, List.set_cons_succ]
                  refine wpAnyH_take (i := 23) (v := ?vvc23) rfl (by kernel_rfl) (by kernel_rfl) (by kernel_rfl) (fun _ _ _ h => h) (Or.inl ⟨by rfl, ?hyc23⟩) hHeld ?restc23; (case hyc23 => (intro w hSw; (try dsimp only at hSw); go_simp; all_goals (with_reducible rfl))); simp only [Act.put, List.setIfInBounds_toArray, List.set_cons_zero, List.set_cons_succ]
                  refine wpAnyH_ready (rs := [11]) (by kernel_rfl) (by simp) ?_
                  refine AllReadyH.cons rfl (fun K hK => ?_) AllReadyH.nil
                  go_simp
                  refine hK.out _ _ (x0) (fun hHeld => ?_)
                  clear hK K
                  try simp only [Act.put, List.setIfInBounds_toArray, List.set_cons_zero, List.set_cons_succ]
                  refine wpAnyH_take (i := 14) (v := ?vvc14) rfl (by kernel_rfl) (by kernel_rfl) (by kernel_rfl) (fun _ _ _ h => h) (Or.inl ⟨by rfl, ?hyc14⟩) hHeld ?restc14; (case hyc14 => (intro w hSw; (try dsimp only at hSw); go_simp; all_goals (with_reducible rfl))); simp only [Act.put, List.setIfInBounds_toArray, List.set_cons_zero, List.set_cons_succ]
                  refine wpAnyH_take (i := 24) (v := ?vvc24) rfl (by kernel_rfl) (by kernel_rfl) (by kernel_rfl) (fun _ _ _ h => h) (Or.inl ⟨by rfl, ?hyc24⟩) hHeld ?restc24; (case hyc24 => (intro w hSw; (try dsimp only at hSw); go_simp; all_goals (with_reducible rfl))); simp only [Act.put, List.setIfInBounds_toArray, List.set_cons_zero, List.set_cons_succ]
                  refine wpAnyH_take (i := 25) (v := ?vvc25) rfl (by kernel_rfl) (by kernel_rfl) (by kernel_rfl) (fun _ _ _ h => h) (Or.inl ⟨by rfl, ?hyc25⟩) hHeld ?restc25; (case hyc25 => (intro w hSw; (try dsimp only at hSw); go_simp; all_goals (with_reducible rfl))); simp only [Act.put, List.setIfInBounds_toArray, List.set_cons_zero, List.set_cons_succ]
                  refine wpAnyH_ready (rs := [26]) (by kernel_rfl) (by simp) ?_
                  refine AllReadyH.cons rfl (fun K hK => ?_) AllReadyH.nil
                  go_simp
                  refine hK.out _ _ (by show (World.setCell _ _ _).cell? _ = _; rw [World.cell?_of_block (Below.heap_setCell _ _ _ _ (by show X ≠ gA; exact hXg))]; exact x0) (fun hHeld => ?_)
                  clear hK K
                  try simp only [Act.put, List.setIfInBounds_toArray, List.set_cons_zero, List.set_cons_succ]
                  refine wpAnyH_take (i := 27) (v := ?vvc27) rfl (by kernel_rfl) (by kernel_rfl) (by kernel_rfl) (fun _ _ _ h => h) (Or.inl ⟨by rfl, ?hyc27⟩) hHeld ?restc27; (case hyc27 => (intro w hSw; (try dsimp only at hSw); go_simp; all_goals (with_reducible rfl))); simp only [Act.put, List.setIfInBounds_toArray, List.set_cons_zero, List.set_cons_succ]
                  refine wpAnyH_take (i := 28) (v := ?vvc28) rfl (by kernel_rfl) (by kernel_rfl) (by kernel_rfl) (fun _ _ _ h => h) (Or.inl ⟨by rfl, ?hyc28⟩) hHeld ?restc28; (case hyc28 => (intro w hSw; (try dsimp only at hSw); go_simp; all_goals (with_reducible rfl))); simp only [Act.put, List.setIfInBounds_toArray, List.set_cons_zero, List.set_cons_succ]
                  refine wpAnyH_ready (rs := [29]) (by kernel_rfl) (by simp) ?_
                  refine AllReadyH.cons rfl (fun K hK => ?_) AllReadyH.nil
                  go_simp
                  refine hK.out _ _ (by show (World.setCell _ _ _).cell? _ = _; rw [World.cell?_of_block (Below.heap_setCell _ _ _ _ (by show X ≠ gA; exact hXg)), World.cell?_of_block (Below.heap_setCell _ _ _ _ (by show X ≠ gA; exact hXg))]; exact x0) (fun hHeld => ?_)
                  clear hK K
                  try simp only [Act.put, List.setIfInBounds_toArray, List.set_cons_zero, List.set_cons_succ]
                  refine wpAnyH_done (by kernel_rfl) ?_ _
                  clear hHeld
                  go_wp2
                  go_roundw
                  case rel => exact ⟨t + 1, by omega, by go_num, by rw [← Hset.out]; exact own_setN (own_setN Hrow.out _ _) _ _, only_setCell (only_setCell HrA.out (.inl rfl) _) (.inl rfl) _⟩
                  case measure => simp [intOf]; omega
              · obtain rfl : t = a.length := by omega
                have hta' : ¬ (a.length : Int) < (a.length : Int) := by omega
                go_wp2
                go_meet
                case rel => exact ⟨by have := Hrow.out; rwa [List.take_length, List.drop_length, List.append_nil] at this, Hgy.out⟩
          case rest =>
            obtain ⟨wy, rfl⟩ : ∃ wy : World, wy = wc := ⟨_, rfl⟩
            obtain ⟨hrow, hgy⟩ := hcut
            have HXy := Lib.hid ((hgy.block X hXx (fun e => by have := (HlowA.out X e.symm).2; omega)).trans HX.out)
            have Hty : Hid (TapeAt wy g r5) := Lib.hid (Htx.out.grown hgy (fun q hq => by have := (HlowA.out q hq).1; omega))
            have Hgy2 := Lib.hid (only_grown Hgx.out hgy (fun q hq => by have := (HlowA.out q hq).1; omega))
            have HLy : Hid (LsOwn wy w2.heap.size u11 L) := Lib.hid (HLx.out.apart hgy (fun q hq e => by have h1 := HltL.out q hq; have h2 := (HlowA.out q e).1; omega) (fun x hx q hq e => by have h1 := HltF.out x hx q hq; have h2 := (HlowA.out q e).1; omega))
            have hsy : wx.heap.size ≤ wy.heap.size := hgy.size
            have HRy := Lib.hid (HR.out.only Hgy2.out hlt)
            have hpR : p < R.length := by have := Hn.out; omega
            have HSh : Hid (SlR wy A a.length c (shift (p : Int) a)) := Lib.hid (by
              obtain ⟨A', c', e, h1, h2, h3⟩ := own_slice hrow
              injection e with e1 e2 e3
              subst e1 e3
              exact ⟨by rw [shift_len], h2, h3, h1⟩)
            clear hrow hgy HX Htx Hgx HLx Hownx
            have hal := Hla.out.len
            obtain ⟨br, off, rfl, hbr, cR, hSR⟩ := HRy.out.slg.at p hpR
            have hone : R[p].1.length = 1 := by
              obtain ⟨a0, b0, -, -, e⟩ := Hpc.out.at' p (by rw [rgs_len]; exact hpR)
              have e2 : (rgs R)[p]'(by rw [rgs_len]; exact hpR) = R[p].1 := by simp [rgs]
              rw [← e2, e]
              rfl
            have Hst := Lib.hid (fun t => Hok.out.step Hpc.out hj4 Hla.out (p := p) (by rw [rgs_len]; exact hpR) t)
            have e2 : (rgs R)[p]'(by rw [rgs_len]; exact hpR) = R[p].1 := by simp [rgs]
            rw [e2] at Hst
            clear e2
            obtain ⟨rp, hrp⟩ : ∃ rp, R[p] = rp := ⟨_, rfl⟩
            rw [hrp] at cR hSR hone Hst
            clear hrp
            have HSR := Lib.hid hSR
            have HL0 : Hid (combP (howR 2) (shift (p : Int) a) rp.1 = leftP (shift (p : Int) a) rp.1 []) := Lib.hid (by rw [howR2]; rfl)
            have HC := Lib.hid (fun W (hW : Below wy.heap.size wy W) => combineR_any A rp.2.a a.length c rp.1.length rp.2.c (shift (p : Int) a) rp.1 2 W (HSh.out.below hW) (HSR.out.below hW) (by omega))
            rw [HL0.out] at HC
            have hb0 := (Hst.out 0).1
            rw [List.take_zero, List.map_nil] at hb0
            obtain ⟨lf0, hlf⟩ : ∃ l, leftP (shift (p : Int) a) rp.1 [] = l := ⟨_, rfl⟩
            have Hlf := Lib.hid hlf
            rw [hlf] at HC hb0
            clear hSR hone hlf HL0
            have cX := cell_of_row wy X 0 _ _ _ HXy.out
            have hXy : X < wy.heap.size := by omega
            go_upto_region 19 with fail
            have cX : wy.drew.cell? ⟨X, 0, none⟩ = some (.slice A a.length c) := cX
            have cR : wy.drew.cell? ⟨br, off + p, none⟩ = some (.slice rp.2.a rp.1.length rp.2.c) := cR
            go_region_held3 (fun w' => w'.cell? ⟨X, 0, none⟩ = some (.slice A a.length c) ∧ w'.cell? ⟨br, off + p, none⟩ = some (.slice rp.2.a rp.1.length rp.2.c)) (first | with_reducible exact ⟨cX, cR⟩ | go_keep | ((repeat' apply And.intro) <;> go_keep))
              (first
                | (go_at_call 36
                   refine (HC.out _ (Below.drew (Below.refl _ _))).mono ?_
                   rintro e w6 ⟨v6, rfl, hown6, hb6⟩
                   have Hown6 : Hid (w6.ownsRow wy.heap.size 64 4 v6 lf0.length (rCells lf0)) := Lib.hid hown6
                   have Hb6 : Hid (Below wy.heap.size wy w6) := Lib.hid (show Below wy.heap.size wy w6 from (by have hbq := hb6; exact (by repeat' (first | with_reducible exact Below.refl _ _ | with_reducible assumption | with_reducible refine below_drewN ?_ _ | with_reducible refine Below.drew ?_ | with_reducible refine Below.alloc ?_ ?_ _ | with_reducible refine Below.setCell ?_ ?_ _ | with_reducible refine Below.trans ?_ (Below.mono (by with_reducible assumption) ?_) | with_reducible refine below_only ?_ (by with_reducible assumption) ?_ ?_ | (simp; done) | (simp; omega) | omega))))
                   have cX6 := (hb6.cell (p := ⟨X, 0, none⟩) (by show X < wy.heap.size; omega)).trans cX
                   have cR6 := (hb6.cell (p := ⟨br, off + p, none⟩) (by show br < wy.heap.size; omega)).trans cR
                   clear hown6 hb6)
                | fail)
            clear cX cR cX6 cR6
            obtain ⟨LA, lc, rfl, _, _, _⟩ := own_slice HLy.out.o
            have hs6 : wy.heap.size ≤ w6.heap.size := Hb6.out.size
            have HL6 := Lib.hid (HLy.out.below Hb6.out)
            have HSL := Lib.hid HL6.out.sll
            have Ht6 := Lib.hid (Hty.out.below Hb6.out (by omega))
            have hs2y : w2.heap.size ≤ wy.heap.size := Hgy2.out.size
            have Hg6 := Lib.hid (only_below Hgy2.out Hb6.out hs2y)
            have Htk : Hid (∀ t (h : t < L.length), ((lns L).take (t + 1)).map Ln.rg = ((lns L).take t).map Ln.rg ++ [L[t].1.rg]) := Lib.hid (fun t h => by
              rw [List.take_succ_eq_append_getElem (by rw [lns_len]; exact h), List.map_append]
              simp [lns])
            have Hrgl : Hid (∀ t (h : t < L.length), L[t].1.rg.length ≤ 120) := Lib.hid (fun t h => (Hok.out.ok _ (List.mem_map_of_mem (List.getElem_mem h))).reg.len)
            have hL4 : L.length ≤ 4 := by have := Hok.out.len; rw [lns_len] at this; omega
            clear HLy Hty Hgy2 HSh HRy HC HSR hal
            go_wp2_with fail
            go_loopw [18, 108] (fun sv iv wr => ∃ t : Nat, t ≤ L.length ∧ iv = .int .i64 (t : Int) ∧ wr.ownsRow wy.heap.size 64 4 sv (leftP (shift (p : Int) a) rp.1 (((lns L).take t).map Ln.rg)).length (rCells (leftP (shift (p : Int) a) rp.1 (((lns L).take t).map Ln.rg))) ∧ Below w6.heap.size w6 wr) (fun _ iv _ => L.length - (intOf iv).toNat)
            case atStart => exact ⟨0, Nat.zero_le _, rfl, by rw [List.take_zero, List.map_nil, Hlf.out]; exact Hown6.out, Below.refl _ _⟩
            case round =>
              obtain ⟨t, ht, rfl, hown, hbr⟩ := hrel
              have Hbr := Lib.hid hbr
              have hsr6 := hbr.size
              obtain ⟨SA, sc, rfl, hS1, hS2, hS3⟩ := own_slice hown
              have Hown := Lib.hid hown
              have hql := (Hst.out t).1
              by_cases htl : t < L.length
              · have htl' : (t : Int) < (L.length : Int) := by omega
                have HSQ : Hid (SlR wr SA (leftP (shift (p : Int) a) rp.1 (((lns L).take t).map Ln.rg)).length sc (leftP (shift (p : Int) a) rp.1 (((lns L).take t).map Ln.rg))) := Lib.hid ⟨rfl, hS2, hS3, hS1⟩
                have hyl := Hrgl.out t htl
                have Hnx : Hid (leftP (shift (p : Int) a) rp.1 (((lns L).take (t + 1)).map Ln.rg) = combP (howR 3) (leftP (shift (p : Int) a) rp.1 (((lns L).take t).map Ln.rg)) L[t].1.rg) := Lib.hid (by rw [Htk.out t htl, leftP_snoc, howR3])
                obtain ⟨b2, o2, rfl, hb2, g0, g1, g2, g3, hS⟩ := (HSL.out.below hbr).at t htl
                have HS := Lib.hid hS
                clear hS hown hbr hS1 hS2 hS3
                generalize L[t] = y at *
                obtain ⟨⟨ypc, yrg, ycr, ysch⟩, ⟨ya, yc⟩⟩ := y
                dsimp only at *
                generalize leftP (shift (p : Int) a) rp.1 (((lns L).take t).map Ln.rg) = Q at *
                have HCt := Lib.hid (fun W (hW : Below wr.heap.size wr W) => combineR_any SA ya Q.length sc yrg.length yc Q yrg 3 W (HSQ.out.below hW) (HS.out.below hW) (by omega))
                rw [← Hnx.out] at HCt
                have hrow := heap_alloc_new wr (.cells #[.int .i64 ypc, .slice ya yrg.length yc, .int .i64 ycr, .int .i64 ysch] 38)
                have Hba : Hid (Below wr.heap.size wr (wr.alloc (.cells #[.int .i64 ypc, .slice ya yrg.length yc, .int .i64 ycr, .int .i64 ysch] 38))) := Lib.hid (by repeat' (first | with_reducible exact Below.refl _ _ | with_reducible refine below_drewN ?_ _ | with_reducible refine Below.drew ?_ | with_reducible refine Below.alloc ?_ ?_ _ | with_reducible refine Below.setCell ?_ ?_ _ | with_reducible refine Below.trans ?_ (Below.mono (by with_reducible assumption) ?_) | (simp; done) | (simp; omega) | omega))
                have hla : wr.heap.size < (wr.alloc (.cells #[.int .i64 ypc, .slice ya yrg.length yc, .int .i64 ycr, .int .i64 ysch] 38)).heap.size := by simp
                go_upto_region 23 with fail
                obtain ⟨T, hT⟩ : ∃ T, wr.heap.size = T := ⟨_, rfl⟩
                rw [hT] at hrow hla ⊢
                generalize wr.alloc (.cells #[.int .i64 ypc, .slice ya yrg.length yc, .int .i64 ycr, .int .i64 ysch] 38) = wa at *
                have a1 := cell_of_row wa T 1 _ _ _ hrow
                clear g0 g1 g2 g3 hrow
                have hsTr : wy.heap.size ≤ wr.heap.size := by omega
                go_wp2_with (first
                  | (go_at_call 36
                     refine (HCt.out _ Hba.out).mono ?_
                     rintro e w8 ⟨v8, rfl, hown8, hb8⟩)
                  | fail)
                go_roundw
                case rel => exact ⟨t + 1, by omega, by go_num, own_rebase hown8 (by omega), Hbr.out.trans ((Hba.out.trans (hb8.mono (by omega))).mono (by omega))⟩
                case measure => simp [intOf]; omega
              · obtain rfl : t = L.length := by omega
                have htl' : ¬ (L.length : Int) < (L.length : Int) := by omega
                clear hown hbr hS1 hS2 hS3
                obtain ⟨wz, rfl⟩ : ∃ wz : World, wz = wr := ⟨_, rfl⟩
                have hfull : ((lns L).take L.length).map Ln.rg = (lns L).map Ln.rg := by rw [List.take_of_length_le (by rw [lns_len]; exact Nat.le_refl _)]
                rw [hfull] at Hown hql ⊢
                have Hstep := Lib.hid (Hst.out 0).2
                obtain ⟨lf, hlf⟩ : ∃ l, leftP (shift (p : Int) a) rp.1 ((lns L).map Ln.rg) = l := ⟨_, rfl⟩
                rw [hlf] at Hown hql Hstep ⊢
                clear hlf hfull Hst Htk Hrgl HSL Hlf
                have HLz := Lib.hid (HL6.out.below Hbr.out)
                have Htz := Lib.hid (Ht6.out.below Hbr.out (by have := Ht6.out.lt; omega))
                have hs26 : w2.heap.size ≤ w6.heap.size := by omega
                have Hgz := Lib.hid (only_below Hg6.out Hbr.out hs26)
                have hlowF := own_base Hown.out
                have HAP : Hid (∀ q, (Value.slice LA L.length lc).ownBlock = some q → (Value.slice SA lf.length sc).ownBlock ≠ some q) := Lib.hid (fun q hq e => by have h1 := HltL.out q hq; have h2 := hlowF q e; omega)
                have Hownz : Hid (wz.ownsRow w2.heap.size 64 4 (.slice SA lf.length sc) lf.length (rCells lf)) := Lib.hid (own_rebase Hown.out (by omega))
                clear hlowF Hown HL6 Ht6 Hg6 Hown6 Hb6
                by_cases hl0 : 0 < lf.length
                · have hl0' : (0 : Int) < (lf.length : Int) := by omega
                  have Hne : Hid (lf ≠ []) := Lib.hid (fun e => by rw [e] at hl0; simp at hl0)
                  have hwp : IntKind.i64.wrap ((p : Int) + 1) = (p : Int) + 1 := IntWalk.i64_in _ (by omega)
                  go_wp2_with (first
                    | (go_at_call 25
                       have hguard := H8.out
                       refine (next_any g r5.tail 15 _ Ht8.out (by omega)).mono ?_
                       rintro e w9 ⟨rfl, ht9, hg9⟩
                       have hs9 := nx_bd r5.tail 15 (by omega)
                       generalize nx r5.tail 15 = q9 at *
                       have hwq9 : IntKind.i64.wrap (1 + q9) = 1 + q9 := IntWalk.i64_in _ (by omega)
                       have Ht9 := Lib.hid ht9
                       have Hg9 := Lib.hid (only_trans Hg8.out hg9)
                       have HL9 := Lib.hid (HL8.out.only hg9 hgw2)
                       have Ho9 := Lib.hid (ownsRow_only Ho8.out hg9 hgw2)
                       have hz9 : w2.heap.size ≤ w9.heap.size := Hg9.out.size
                       have H9 : Hid True := Lib.hid trivial
                       clear ht9 hg9 hguard)
                    | (go_at_call 25
                       refine (next_any g r5 (nc : Int) _ Htz.out (by omega)).mono ?_
                       rintro e w8 ⟨rfl, ht8, hg8⟩
                       have hs8 := nx_bd r5 (nc : Int) (by omega)
                       generalize nx r5 (nc : Int) = q8 at *
                       have Ht8 := Lib.hid ht8
                       have Hg8 := Lib.hid (only_trans Hgz.out hg8)
                       have HL8 := Lib.hid (HLz.out.only hg8 hgw2)
                       have Ho8 := Lib.hid (ownsRow_only Hownz.out hg8 hgw2)
                       have H8 : Hid True := Lib.hid trivial
                       clear ht8 hg8)
                    | (at_builtin
                       have hguard := H9.out
                       (go_loud (refine wpList_append_any _ rfl (.tmp 121) (.tmp 134) _ rfl w2.heap.size 38 i2 _ 4 48 Tryz.underlying25 hl hi2z hl1 hl2 rfl (by omega) _ L.length (lnCells L) rfl (HL9.out.o.alloc _) _ _ 1 1 [.int .i64 ((p : Int) + 1), .slice SA lf.length sc, .int .i64 q8, .int .i64 (1 + q9)] rfl ⟨rfl, fun _ => ⟨_, rfl, Nat.lt_succ_self _, fun j u hu => (by exact news_any _ _ _ j u hu)⟩⟩ (by simp [Value.oneCell']) (by simp only [maxLen]; omega) (by omega) (by simp; omega) ?_))
                       intro v10 w10 hown10 hg10 hat10)
                    | fail)
                  go_roundw
                  case rel =>
                    have hbL := own_base HL9.out.o
                    refine ⟨L ++ [(⟨(p : Int) + 1, lf, q8, 1 + q9⟩, ⟨SA, sc⟩)], k - 1, j + 1, r5.tail.tail, by omega, by rw [show ((k - 1 : Nat) : Int) = (k : Int) - 1 by omega], ?_, ?_, ?_, ?_⟩
                    · exact LsOwn.push HL9.out (⟨(p : Int) + 1, lf, q8, 1 + q9⟩, ⟨SA, sc⟩) Ho9.out HAP.out ((Below.refl _ _).alloc (Nat.le_refl _) _) hg10 hown10 hat10
                    · have e : lns (L ++ [(⟨(p : Int) + 1, lf, q8, 1 + q9⟩, ⟨SA, sc⟩)]) = lns L ++ [⟨(p : Int) + 1, lf, q8, 1 + q9⟩] := by simp [lns]
                      rw [e]
                      exact Hstep.out.2 Hne.out q8 (1 + q9) hs8 (by omega)
                    · exact (Ht9.out.alloc _).grown hg10 (fun q hq => by have := hbL q hq; omega)
                    · exact only_grown (only_alloc Hg9.out _) hg10 (fun q hq => hbL q hq)
                  case measure => simp [intOf]; omega
                · have hl0' : ¬ (0 : Int) < (lf.length : Int) := by omega
                  have Hnil : Hid (lf = []) := Lib.hid (List.length_eq_zero_iff.1 (by omega))
                  go_wp2
                  go_roundw
                  case rel => exact ⟨L, k - 1, j + 1, r5, by omega, by rw [show ((k - 1 : Nat) : Int) = (k : Int) - 1 by omega], HLz.out, Hstep.out.1 Hnil.out, Htz.out, Hgz.out⟩
                  case measure => simp [intOf]; omega
        · obtain rfl : k = 0 := by omega
          have hk0' : ¬ (0 : Int) < ((0 : Nat) : Int) := by omega
          obtain ⟨LA, lc, rfl, _, _, _⟩ := own_slice HL.out.o
          have HR2 := Lib.hid (HR.out.only Hgr2.out hlt)
          have Hn2 := Lib.hid (ownsRow_only Hnum.out Hgr2.out hlt)
          go_wp2
          refine bodyPost_ret (v := .tuple #[.slice LA L.length lc, .slice NA n kc, .slice RA R.length rc]) (by simp [results, Tryz.results10, go_sem, *]) rfl ?_
          refine ⟨L, LA, lc, R, NA, kc, RA, rc, r2, j, by rw [Hn.out], HL.out.rebase hsr, ?_, HR2.out, Htr2.out, only_trans Hgr.out Hgr2.out, Hpc.out, hmR, Hok.out, by omega⟩
          rw [Hn.out]
          exact Hn2.out
end Go.Proofs.YtglanlpjoaholaaGreat

namespace Go.Proofs.YtglanlpjoaholaaGreat
open Go.RowKit Go.Shelf
set_option linter.unusedVariables false
set_option linter.unusedSimpArgs false

set_option maxHeartbeats 400000 in
theorem isNaN2_any (x : Int) (w : World) : Calls Tryz.prog 104 #[.int .i64 x] w fun e w' => e = .returned (.bool false) ∧ w = w' := by
  go_enter Tryz.func104, Tryz.ntmps104
  go_wp2
  go_ret
  exact ⟨rfl, rfl⟩
set_option maxHeartbeats 400000 in
theorem isNaN3_any (x : Int) (w : World) : Calls Tryz.prog 114 #[.int .i64 x] w fun e w' => e = .returned (.bool false) ∧ w = w' := by
  go_enter Tryz.func114, Tryz.ntmps114
  go_wp2
  go_ret
  exact ⟨rfl, rfl⟩
set_option maxHeartbeats 400000 in
theorem less_any (x y : Int) (w : World) : Calls Tryz.prog 103 #[.int .i64 x, .int .i64 y] w fun e w' => e = .returned (.bool (decide (x < y))) ∧ w = w' := by
  go_enter Tryz.func103, Tryz.ntmps103
  go_wp2_with (first | (go_at_call 114; refine (isNaN3_any _ _).mono ?_; rintro e w' ⟨rfl, rfl⟩) | fail)
  go_ret
  exact ⟨rfl, rfl⟩
/-- A name of letters. -/
def lettersB (s : ByteArray) : Bool := decide (1 ≤ s.size) && decide (s.size ≤ 12) && s.data.toList.all fun b => decide (97 ≤ b.toNat) && decide (b.toNat ≤ 122)
theorem letter_at {s : ByteArray} (hs : lettersB s = true) (k : Nat) (h : k < s.size) : 97 ≤ s[k].toNat ∧ s[k].toNat ≤ 122 := by
  unfold lettersB at hs
  rw [Bool.and_eq_true] at hs
  have hm : s[k] ∈ s.data.toList := by
    have e : s[k] = s.data[k]'h := rfl
    rw [e]
    exact Array.mem_toList_iff.2 (Array.getElem_mem _)
  have := List.all_eq_true.1 hs.2 _ hm
  simpa using this
set_option maxHeartbeats 2000000 in
theorem name_any (s : ByteArray) (w : World) (hs : lettersB s = true) : Calls Tryz.prog 115 #[.string s] w fun e w' => e = .returned (.bool true) ∧ w = w' := by
  obtain ⟨n, hn⟩ : ∃ n, s.size = n := ⟨_, rfl⟩
  have Hn := Lib.hid hn
  have hn12 : 1 ≤ n ∧ n ≤ 12 := by
    unfold lettersB at hs
    simp only [Bool.and_eq_true, decide_eq_true_eq] at hs
    omega
  go_enter Tryz.func115, Tryz.ntmps115
  go_wp2_with fail
  go_loopw [3, 4, 5, 8] (fun _ _ _ iv wr => ∃ k : Nat, k ≤ n ∧ iv = .int .i64 (k : Int) ∧ wr = w) (fun _ _ _ iv _ => n - (intOf iv).toNat)
  case atStart => exact ⟨0, Nat.zero_le _, rfl, rfl⟩
  case round =>
    obtain ⟨k, hk, rfl, rfl⟩ := hrel
    by_cases hkn : k < n
    · have hkn' : (k : Int) < (n : Int) := by omega
      have hks : k < s.size := by omega
      obtain ⟨h1, h2⟩ := letter_at hs k hks
      have a1 : (97 : Int) ≤ (s[k].toNat : Int) := by omega
      have a2 : (s[k].toNat : Int) ≤ 122 := by omega
      have a3 : (48 : Int) ≤ (s[k].toNat : Int) := by omega
      have a4 : ¬ (s[k].toNat : Int) ≤ 57 := by omega
      go_wp2
      go_roundw
      case rel => exact ⟨k + 1, by omega, by go_num, trivial⟩
      case measure => simp [intOf]; omega
    · have hkn' : ¬ (k : Int) < (n : Int) := by omega
      have b1 : (1 : Int) ≤ (n : Int) := by omega
      have b2 : (n : Int) ≤ 12 := by omega
      go_wp2
      go_ret
      exact ⟨rfl, rfl⟩

/-- What a search finds. -/
def Found (l : List Int) (x : Int) (i : Nat) (b : Bool) : Prop := i ≤ l.length ∧ (b = true → l[i]? = some x) ∧ (b = false → x ∉ l)
def SearchPost (l : List Int) (x : Int) (e : Ending) : Prop := ∃ (i : Nat) (b : Bool), e = .returned (.tuple #[.int .i64 (i : Int), .bool b]) ∧ Found l x i b
set_option maxHeartbeats 2000000 in
set_option maxRecDepth 100000 in
theorem search_any (A : Option Addr) (n c : Nat) (l : List Int) (x : Int) (w : World) (hA : SlI w A n c l) (hn1 : n ≤ 1000) (hp : l.Pairwise (· < ·)) :
    Calls Tryz.prog 77 #[.slice A n c, .int .i64 x] w fun e w' => SearchPost l x e ∧ w = w' := by
  have HA := Lib.hid hA
  have Hn := Lib.hid hA.len
  have Hp := Lib.hid (List.pairwise_iff_getElem.1 hp)
  clear hA hp
  go_enter Tryz.func77, Tryz.ntmps77
  go_wp2_with fail
  go_loopw [7, 8, 9] (fun iv jv _ wr => ∃ i j : Nat, iv = .int .i64 (i : Int) ∧ jv = .int .i64 (j : Int) ∧ i ≤ j ∧ j ≤ n ∧ Hid (∀ m (h : m < l.length), m < i → l[m] < x) ∧ Hid (∀ m (h : m < l.length), j ≤ m → x ≤ l[m]) ∧ w = wr) (fun iv jv _ _ => (intOf jv).toNat - (intOf iv).toNat)
  case atStart => exact ⟨0, n, rfl, rfl, by omega, by omega, Lib.hid (fun m h h1 => by omega), Lib.hid (fun m h h1 => by have := Hn.out; omega), rfl⟩
  case round =>
    obtain ⟨i, j, rfl, rfl, hij, hjn, HI, HJ, rfl⟩ := hrel
    by_cases hlt : i < j
    · have hlt' : (i : Int) < (j : Int) := by omega
      obtain ⟨h, hh⟩ : ∃ h : Nat, (i + j) / 2 = h := ⟨_, rfl⟩
      have hhb : i ≤ h ∧ h < j := by omega
      have hhl : h < l.length := by have := Hn.out; omega
      have hw1 : IntKind.i64.wrap ((i : Int) + (j : Int)) = (i : Int) + (j : Int) := IntWalk.i64_in _ (by omega)
      have hdv : ((i : Int) + (j : Int)) / 2 = (h : Int) := by omega
      obtain ⟨b, off, rfl, hb, c0⟩ := HA.out.at h hhl
      have Hmono : Hid (∀ m (hm : m < l.length), (m < h → l[m] < l[h]) ∧ (h < m → l[h] < l[m])) := Lib.hid (fun m hm => ⟨fun hmh => Hp.out m h hm hhl hmh, fun hmh => Hp.out h m hhl hm hmh⟩)
      by_cases hy : l[h] < x
      · have hyd : decide (l[h] < x) = true := decide_eq_true hy
        have HI2 : Hid (∀ m (hm : m < l.length), m < h + 1 → l[m] < x) := Lib.hid (fun m hm hlt => by
          rcases Nat.lt_or_ge m h with h1 | h1
          · have := (Hmono.out m hm).1 h1; omega
          · obtain rfl : m = h := by omega
            exact hy)
        go_wp2_with (first | (go_at_call 103; refine (less_any _ _ _).mono ?_; rintro e w' ⟨rfl, rfl⟩) | fail)
        go_roundw
        case rel => exact ⟨h + 1, j, by go_num, rfl, by omega, by omega, HI2, HJ, trivial⟩
        case measure => simp [intOf]; omega
      · have hyd : decide (l[h] < x) = false := decide_eq_false hy
        have HJ2 : Hid (∀ m (hm : m < l.length), h ≤ m → x ≤ l[m]) := Lib.hid (fun m hm hlt => by
          rcases Nat.lt_or_ge h m with h1 | h1
          · have := (Hmono.out m hm).2 h1; omega
          · obtain rfl : m = h := by omega
            omega)
        go_wp2_with (first | (go_at_call 103; refine (less_any _ _ _).mono ?_; rintro e w' ⟨rfl, rfl⟩) | fail)
        go_roundw
        case rel => exact ⟨i, h, rfl, rfl, by omega, by omega, HI, HJ2, trivial⟩
        case measure => simp [intOf]; omega
    · have hlt' : ¬ (i : Int) < (j : Int) := by omega
      obtain rfl : i = j := by omega
      by_cases hin : i < n
      · have hin' : (i : Int) < (n : Int) := by omega
        have hil : i < l.length := by have := Hn.out; omega
        obtain ⟨b, off, rfl, hb, c0⟩ := HA.out.at i hil
        have HJi := HJ.out i hil (Nat.le_refl _)
        have Hno : Hid (¬ l[i] = x → x ∉ l) := Lib.hid (fun hne hx => by
          obtain ⟨m, hm, he⟩ := List.getElem_of_mem hx
          rcases Nat.lt_trichotomy m i with h1 | h1 | h1
          · have := HI.out m hm h1; omega
          · subst h1; exact hne he
          · have := Hp.out i m hil hm h1; omega)
        have Hat : Hid (l[i]? = some l[i]) := Lib.hid (List.getElem?_eq_getElem hil)
        generalize l[i] = y at *
        by_cases hyx : y = x
        · subst hyx
          go_wp2_with (first | (go_at_call 104; refine (isNaN2_any _ _).mono ?_; rintro e w' ⟨rfl, rfl⟩) | fail)
          refine bodyPost_ret (v := .tuple #[.int .i64 (i : Int), .bool true]) (by simp [results, Tryz.results77, go_sem, *]) rfl ?_
          exact ⟨⟨i, true, rfl, by omega, fun _ => Hat.out, fun h => (by cases h)⟩, rfl⟩
        · go_wp2_with (first | (go_at_call 104; refine (isNaN2_any _ _).mono ?_; rintro e w' ⟨rfl, rfl⟩) | fail)
          refine bodyPost_ret (v := .tuple #[.int .i64 (i : Int), .bool false]) (by simp [results, Tryz.results77, go_sem, *]) rfl ?_
          exact ⟨⟨i, false, rfl, by omega, fun h => (by cases h), fun _ => Hno.out hyx⟩, rfl⟩
      · have hin' : ¬ (i : Int) < (n : Int) := by omega
        have Hno : Hid (x ∉ l) := Lib.hid (fun hx => by
          obtain ⟨m, hm, he⟩ := List.getElem_of_mem hx
          have := HI.out m hm (by have := Hn.out; omega)
          omega)
        go_wp2
        refine bodyPost_ret (v := .tuple #[.int .i64 (i : Int), .bool false]) (by simp [results, Tryz.results77, go_sem, *]) rfl ?_
        exact ⟨⟨i, false, rfl, by have := Hn.out; omega, fun h => (by cases h), fun _ => Hno.out⟩, rfl⟩

/-- A crop. -/
structure Cp where
  nm : ByteArray
  fam : Int
  mks : Int
def kCells (l : List Cp) : List Value := l.flatMap fun x => [.string x.nm, .int .i64 x.fam, .int .i64 x.mks]
theorem kCells_len (l : List Cp) : (kCells l).length = l.length * 3 := by
  induction l with
  | nil => rfl
  | cons o r ih => simp [kCells] at *; omega
theorem kCells_at (l : List Cp) (i : Nat) (h : i < l.length) : (kCells l)[i * 3]? = some (.string l[i].nm) ∧ (kCells l)[i * 3 + 1]? = some (.int .i64 l[i].fam) ∧ (kCells l)[i * 3 + 2]? = some (.int .i64 l[i].mks) := by
  induction l generalizing i with
  | nil => simp at h
  | cons o r ih =>
    have hc : kCells (o :: r) = [.string o.nm, .int .i64 o.fam, .int .i64 o.mks] ++ kCells r := by simp [kCells]
    rw [hc]
    rcases i with _ | i
    · simp
    · have := ih i (by simpa using h)
      refine ⟨?_, ?_, ?_⟩ <;> rw [List.getElem?_append_right (by simp; omega)]
      · rw [show (i + 1) * 3 - ([Value.string o.nm, .int .i64 o.fam, .int .i64 o.mks] : List Value).length = i * 3 from by simp; omega]; exact this.1
      · rw [show (i + 1) * 3 + 1 - ([Value.string o.nm, .int .i64 o.fam, .int .i64 o.mks] : List Value).length = i * 3 + 1 from by simp; omega]; exact this.2.1
      · rw [show (i + 1) * 3 + 2 - ([Value.string o.nm, .int .i64 o.fam, .int .i64 o.mks] : List Value).length = i * 3 + 2 from by simp; omega]; exact this.2.2
/-- A slice of crops. -/
structure SlC (w : World) (A : Option Addr) (n c : Nat) (l : List Cp) : Prop where
  len : l.length = n
  cap : n ≤ c
  top : c ≤ maxLen
  lies : Lies w A n (kCells l)
theorem SlC.below {w w' : World} {A : Option Addr} {n c : Nat} {l : List Cp} (h : SlC w A n c l) (hb : Below w.heap.size w w') : SlC w' A n c l := ⟨h.len, h.cap, h.top, h.lies.below hb⟩
theorem SlC.at {w : World} {A : Option Addr} {n c : Nat} {l : List Cp} (h : SlC w A n c l) (i : Nat) (hi : i < l.length) :
    ∃ b off, A = some ⟨b, off, none⟩ ∧ b < w.heap.size ∧ w.cell? ⟨b, off + i * 3, none⟩ = some (.string l[i].nm) ∧ w.cell? ⟨b, off + i * 3 + 1, none⟩ = some (.int .i64 l[i].fam) ∧ w.cell? ⟨b, off + i * 3 + 2, none⟩ = some (.int .i64 l[i].mks) := by
  obtain ⟨b, off, e, hb, hc⟩ := h.lies.resolve_left (by have := h.len; omega)
  obtain ⟨h0, h1, h2⟩ := kCells_at l i hi
  exact ⟨b, off, e, hb, hc _ _ h0, hc _ _ h1, hc _ _ h2⟩
/-- Whether a text comes not behind another one. -/
def leqS (a b : ByteArray) : Bool := Go.Op.bytesLess a.toList b.toList || a.toList == b.toList
/-- A catalogue that is right. -/
def cropsB (l : List Cp) : Prop := l.length ≤ 40 ∧ (∀ x ∈ l, lettersB x.nm = true ∧ (0 ≤ x.fam ∧ x.fam ≤ 40) ∧ 0 ≤ x.mks ∧ x.mks ≤ 31) ∧ ∀ i (h : i + 1 < l.length), leqS l[i + 1].nm l[i].nm = false

set_option maxHeartbeats 4000000 in
set_option maxRecDepth 100000 in
theorem cropCheck_any (A : Option Addr) (n c : Nat) (l : List Cp) (w : World) (hA : SlC w A n c l) (hok : cropsB l) :
    Calls Tryz.prog 102 #[.slice A n c] w fun e w' => e = .returned (.int .i64 0) ∧ Below w.heap.size w w' := by
  have HA := Lib.hid hA
  have Hn := Lib.hid hA.len
  have Hok := Lib.hid hok
  have hn40 : n ≤ 40 := by have := hok.1; have := hA.len; omega
  clear hA hok
  have hbig : ¬ (40 : Int) < (n : Int) := by omega
  go_enter Tryz.func102, Tryz.ntmps102
  go_wp2_with fail
  go_loopw [3, 10] (fun _ iv wr => ∃ k : Nat, k ≤ n ∧ iv = .int .i64 (k : Int) ∧ Below w.heap.size w wr) (fun _ iv _ => n - (intOf iv).toNat)
  case atStart => exact ⟨0, Nat.zero_le _, rfl, Below.refl _ _⟩
  case round =>
    obtain ⟨k, hk, rfl, hbw⟩ := hrel
    have Hbw := Lib.hid hbw
    have hsw := hbw.size
    clear hbw
    by_cases hkn : k < n
    · have hkn' : (k : Int) < (n : Int) := by omega
      have hkl : k < l.length := by have := Hn.out; omega
      obtain ⟨b, off, rfl, hb, c0, c1, c2⟩ := (HA.out.below Hbw.out).at k hkl
      obtain ⟨hnm, hfam, hmk⟩ := Hok.out.2.1 l[k] (List.getElem_mem hkl)
      have Hord : Hid (∀ j (hj : j < l.length), k = j + 1 → leqS l[k].nm l[j].nm = false) := Lib.hid (fun j hj e => by subst e; exact Hok.out.2.2 j hkl)
      generalize l[k] = y at *
      obtain ⟨nm, fam, mk⟩ := y
      dsimp only at *
      have Hnm := Lib.hid (fun W => name_any nm W hnm)
      have f1 : ¬ fam < 0 := by omega
      have f2 : ¬ 40 < fam := by omega
      have f3 : ¬ mk < 0 := by omega
      have f4 : ¬ 31 < mk := by omega
      have hrow := heap_alloc_new wr (.cells #[.string nm, .int .i64 fam, .int .i64 mk] 57)
      have Hba : Hid (Below wr.heap.size wr (wr.alloc (.cells #[.string nm, .int .i64 fam, .int .i64 mk] 57))) := Lib.hid (by repeat' (first | with_reducible exact Below.refl _ _ | with_reducible refine below_drewN ?_ _ | with_reducible refine Below.drew ?_ | with_reducible refine Below.alloc ?_ ?_ _ | with_reducible refine Below.setCell ?_ ?_ _ | with_reducible refine Below.trans ?_ (Below.mono (by with_reducible assumption) ?_) | (simp; done) | (simp; omega) | omega))
      have hla : wr.heap.size < (wr.alloc (.cells #[.string nm, .int .i64 fam, .int .i64 mk] 57)).heap.size := by simp
      go_upto_block 2 with fail
      obtain ⟨T, hT⟩ : ∃ T, wr.heap.size = T := ⟨_, rfl⟩
      rw [hT] at hrow hla ⊢
      generalize wr.alloc (.cells #[.string nm, .int .i64 fam, .int .i64 mk] 57) = wa at *
      have Hbwa : Hid (Below w.heap.size w wa) := Lib.hid (Hbw.out.trans (Hba.out.mono hsw))
      have a0 := cell_of_row wa T 0 _ _ _ hrow
      have a1 := cell_of_row wa T 1 _ _ _ hrow
      have a2 := cell_of_row wa T 2 _ _ _ hrow
      clear c0 c1 c2 hrow hT
      by_cases hk0 : 0 < k
      · have hk0' : (0 : Int) < (k : Int) := by omega
        have hk0d : decide ((0 : Int) < (k : Int)) = true := decide_eq_true hk0'
        obtain ⟨j, hj⟩ : ∃ j, k = j + 1 := ⟨k - 1, by omega⟩
        have hjl : j < l.length := by omega
        obtain ⟨b', off', e', hb', d0, -, -⟩ := (HA.out.below Hbwa.out).at j hjl
        injection e' with e'
        injection e' with e1 e2
        subst e1 e2
        have hlq := Hord.out j hjl hj
        generalize l[j].nm = pn at *
        have hwk : IntKind.i64.wrap ((k : Int) - 1) = (j : Int) := by rw [show (k : Int) - 1 = (j : Int) by omega]; exact IntWalk.i64_in _ (by omega)
        have hjn : (j : Int) < (n : Int) := by omega
        have Hj := Lib.hid hj
        clear hj
        unfold leqS at hlq
        go_wp2_with (first | (go_at_call 115; refine (Hnm.out _).mono ?_; rintro e w' ⟨rfl, rfl⟩) | fail)
        go_quiet (fail)
        go_wp2
        go_roundw
        case rel => exact ⟨k + 1, by omega, by go_num, below_drewN Hbwa.out _⟩
        case measure => simp [intOf]; omega
      · obtain rfl : k = 0 := by omega
        have hk0d : decide ((0 : Int) < ((0 : Nat) : Int)) = false := rfl
        go_wp2_with (first | (go_at_call 115; refine (Hnm.out _).mono ?_; rintro e w' ⟨rfl, rfl⟩) | fail)
        go_quiet (fail)
        go_wp2
        go_roundw
        case rel => exact ⟨1, by omega, by go_num, below_drewN Hbwa.out _⟩
        case measure => simp [intOf]; omega
    · have hkn' : ¬ (k : Int) < (n : Int) := by omega
      go_wp2
      go_ret
      exact ⟨rfl, Hbw.out⟩

set_option maxHeartbeats 400000 in
theorem validG2 (w : World) : PredBelow Tryz.prog 101 #[] (fun x : GS w => .agg #[rgC x.1]) (fun x => !validP x.1.1) w := by
  intro W x hb
  obtain ⟨⟨l, v⟩, hx⟩ := x
  refine Calls.mono (show Calls Tryz.prog 101 #[.agg #[.slice v.a l.length v.c]] W fun e w' => e = .returned (.bool (!validP l)) ∧ Below W.heap.size W w' from ?_) ?_
  · have HV := Lib.hid (fun W' (hW : Below W.heap.size W W') => valid_any v.a l.length v.c l W' ((hx.below hb).below hW))
    generalize validP l = x at *
    clear hx
    go_enter Tryz.func101, Tryz.ntmps101
    go_wp2_with (first | (go_at_call 68; refine (HV.out _ (by repeat' (first | with_reducible exact Below.refl _ _ | with_reducible refine below_drewN ?_ _ | with_reducible refine Below.drew ?_ | with_reducible refine Below.alloc ?_ ?_ _ | with_reducible refine Below.setCell ?_ ?_ _ | with_reducible refine Below.trans ?_ (Below.mono (by with_reducible assumption) ?_) | (simp; done) | (simp; omega) | omega))).mono ?_; rintro e w1 ⟨rfl, hb1⟩) | fail)
    go_ret
    exact ⟨rfl, (by repeat' (first | with_reducible exact Below.refl _ _ | with_reducible assumption | with_reducible refine below_drewN ?_ _ | with_reducible refine Below.drew ?_ | with_reducible refine Below.alloc ?_ ?_ _ | with_reducible refine Below.setCell ?_ ?_ _ | with_reducible refine Below.trans ?_ (Below.mono (by with_reducible assumption) ?_) | with_reducible refine below_only ?_ (by with_reducible assumption) ?_ ?_ | (simp; done) | (simp; omega) | omega))⟩
  · rintro e w' ⟨rfl, h⟩
    exact ⟨rfl, hb.trans (h.mono hb.size)⟩

set_option maxHeartbeats 4000000 in
set_option maxRecDepth 100000 in
theorem pcheck_any (NA : Option Addr) (n kc : Nat) (N : List Int) (RA : Option Addr) (rc : Nat) (R : RL) (CA : Option Addr) (m cc : Nat) (C : List Cp) (mask : Int) (w : World) (hN : SlI w NA n kc N) (hR : SlG w RA n rc R) (hC : SlC w CA m cc C) (hn : n ≤ 60) (hp : N.Pairwise (· < ·)) (hv : ∀ x ∈ R, validP x.1 = true) (hc : cropsB C) :
    Calls Tryz.prog 76 #[.agg #[.slice NA n kc, .slice RA n rc, .slice CA m cc, .int .i64 mask]] w fun e w' => e = .returned (.int .i64 0) ∧ Below w.heap.size w w' := by
  have HN := Lib.hid hN
  have Hn := Lib.hid hN.len
  have Hp := Lib.hid (List.pairwise_iff_getElem.1 hp)
  have Egv : Hid (∀ args w, (callFunc 101 args).run Tryz.prog w = .ok (.enter 101 args) w) := Lib.hid (enters_of Tryz.func101 (by kernel_rfl) rfl)
  have hany : R.any (fun x => !validP x.1) = false := by
    rw [List.any_eq_false]
    intro x hx
    rw [hv x hx]
    simp
  have HCo : Hid (∀ W, Below w.heap.size w W → Calls Tryz.prog 66 #[.slice RA n rc, .func (.func 101) #[] #[]] W fun e w' => e = .returned (.bool false) ∧ Below W.heap.size W w') := Lib.hid (fun W hW => by
    have := containsG_any (fun x => !validP x.1) 101 #[] Egv.out RA n rc R W (hR.below hW) (validG2 W)
    rwa [hany] at this)
  have HCk := Lib.hid (fun W (hW : Below w.heap.size w W) => cropCheck_any CA m cc C W (hC.below hW) hc)
  clear hN hR hC hp hv hc hany
  have hn60 : ¬ (60 : Int) < (n : Int) := by omega
  go_enter Tryz.func76, Tryz.ntmps76
  go_upto_region 1 with fail
  obtain ⟨wa, hwa⟩ : ∃ wa : World, wa = w.alloc (.cells #[.slice NA n kc, .slice RA n rc, .slice CA m cc, .int .i64 mask] 77) := ⟨_, rfl⟩
  rw [← hwa]
  have HB : Hid (wa.heap[w.heap.size]? = some (.cells #[.slice NA n kc, .slice RA n rc, .slice CA m cc, .int .i64 mask] 77 (0, 0))) := Lib.hid (by rw [hwa]; exact heap_alloc_new w _)
  have Hba : Hid (Below w.heap.size w wa) := Lib.hid (by rw [hwa]; exact (by repeat' (first | with_reducible exact Below.refl _ _ | with_reducible refine below_drewN ?_ _ | with_reducible refine Below.drew ?_ | with_reducible refine Below.alloc ?_ ?_ _ | with_reducible refine Below.setCell ?_ ?_ _ | with_reducible refine Below.trans ?_ (Below.mono (by with_reducible assumption) ?_) | (simp; done) | (simp; omega) | omega)))
  have hla : w.heap.size < wa.heap.size := by rw [hwa]; simp
  clear hwa
  have a0 := cell_of_row wa w.heap.size 0 _ _ _ HB.out
  have a1 := cell_of_row wa w.heap.size 1 _ _ _ HB.out
  go_upto_region 3 with fail
  clear a0 a1
  go_wp2_with fail
  go_loopw [3] (fun iv wr => ∃ k : Nat, 1 ≤ k ∧ (k ≤ n ∨ k = 1) ∧ iv = .int .i64 (k : Int) ∧ Below wa.heap.size wa wr) (fun iv _ => n - (intOf iv).toNat)
  case atStart => exact ⟨1, Nat.le_refl _, .inr rfl, rfl, Below.refl _ _⟩
  case round =>
    obtain ⟨k, hk1, hk, rfl, hbw⟩ := hrel
    have Hbw := Lib.hid hbw
    have hsw := hbw.size
    have hrow := (hbw.block _ hla).trans HB.out
    have a0 := cell_of_row wr w.heap.size 0 _ _ _ hrow
    have a1 := cell_of_row wr w.heap.size 1 _ _ _ hrow
    have a2 := cell_of_row wr w.heap.size 2 _ _ _ hrow
    clear hbw hrow
    by_cases hkn : k < n
    · have hkn' : (k : Int) < (n : Int) := by omega
      have hkl : k < N.length := by have := Hn.out; omega
      obtain ⟨j, hj⟩ : ∃ j, k = j + 1 := ⟨k - 1, by omega⟩
      have hjl : j < N.length := by omega
      obtain ⟨b, off, rfl, hb, c0⟩ := (HN.out.below (Hba.out.trans (Hbw.out.mono (Nat.le_of_lt hla)))).at k hkl
      obtain ⟨b', off', e', -, c1⟩ := (HN.out.below (Hba.out.trans (Hbw.out.mono (Nat.le_of_lt hla)))).at j hjl
      injection e' with e'
      injection e' with e1 e2
      subst e1 e2
      have hlt : ¬ N[k] ≤ N[j] := by have := Hp.out j k hjl hkl (by omega); omega
      generalize N[k] = y at *
      generalize N[j] = z at *
      have hwk : IntKind.i64.wrap ((k : Int) - 1) = (j : Int) := by rw [show (k : Int) - 1 = (j : Int) by omega]; exact IntWalk.i64_in _ (by omega)
      have hjn : (j : Int) < (n : Int) := by omega
      have Hj := Lib.hid hj
      have hbw0 : b < wr.heap.size := hb
      clear hj
      go_wp2_with fail
      go_quiet (fail)
      go_wp2
      go_roundw
      case rel => exact ⟨k + 1, by omega, by omega, by go_num, below_drewN Hbw.out _⟩
      case measure => simp [intOf]; omega
    · have hkn' : ¬ (k : Int) < (n : Int) := by omega
      have hs0 : w.heap.size ≤ wa.heap.size := Nat.le_of_lt hla
      have Hb1 := Lib.hid (Hba.out.trans (Hbw.out.mono hs0))
      go_wp2_with (first
        | (go_at_call 66
           refine (HCo.out _ Hb1.out).mono ?_
           rintro e w2 ⟨rfl, hb2⟩
           have hlr : w.heap.size < wr.heap.size := by omega
           have a22 := (hb2.cell (p := ⟨w.heap.size, 2, none⟩) hlr).trans a2
           have Hb2 := Lib.hid (Hb1.out.trans (hb2.mono (by omega)))
           have hs2 := Hb2.out.size
           clear hb2)
        | (go_at_call 102
           refine (HCk.out _ Hb2.out).mono ?_
           rintro e w3 ⟨rfl, hb3⟩)
        | fail)
      go_ret
      exact ⟨rfl, Hb2.out.trans (hb3.mono hs2)⟩

/-- Parcels, schemes and a catalogue that are right, where they lie. -/
structure PcV (w : World) (NA : Option Addr) (n kc : Nat) (N : List Int) (RA : Option Addr) (rc : Nat) (R : RL) (CA : Option Addr) (m cc : Nat) (C : List Cp) : Prop where
  hN : SlI w NA n kc N
  hR : SlG w RA n rc R
  hC : SlC w CA m cc C
  hn : n ≤ 60
  hp : N.Pairwise (· < ·)
  hv : ∀ x ∈ R, validP x.1 = true
  hc : cropsB C
theorem PcV.below {w w' : World} {NA RA CA : Option Addr} {n kc rc m cc : Nat} {N : List Int} {R : RL} {C : List Cp} (h : PcV w NA n kc N RA rc R CA m cc C) (hb : Below w.heap.size w w') : PcV w' NA n kc N RA rc R CA m cc C := ⟨h.hN.below hb, h.hR.below hb, h.hC.below hb, h.hn, h.hp, h.hv, h.hc⟩
/-- What a line has to be, beside its parcel. -/
structure LnFine (N : List Int) (R : RL) (m : Nat) (mask : Int) (x : Ln) : Prop where
  inN : x.pc ∈ N
  ne : x.rg ≠ []
  val : validP x.rg = true
  wi : ∀ i (h : i < R.length), N[i]? = some x.pc → withinP x.rg R[i].1 = true
  cr : 0 ≤ x.cr ∧ x.cr < (m : Int)
  s0 : ¬ x.sch = 0
  sm : bits BinOp.andNot IntKind.i64 x.sch mask = 0

set_option maxHeartbeats 8000000 in
set_option maxRecDepth 100000 in
theorem pline_any (NA : Option Addr) (n kc : Nat) (N : List Int) (RA : Option Addr) (rc : Nat) (R : RL) (CA : Option Addr) (m cc : Nat) (C : List Cp) (mask : Int) (x : Ln) (v : LV) (w : World) (hP : PcV w NA n kc N RA rc R CA m cc C) (hx : SlR w v.a x.rg.length v.c x.rg) (res : Int) (hres : (res = 0 ∧ LnFine N R m mask x) ∨ (res = 10 ∧ x.pc ∉ N)) :
    Calls Tryz.prog 48 #[.agg #[.slice NA n kc, .slice RA n rc, .slice CA m cc, .int .i64 mask], .agg #[.int .i64 x.pc, .slice v.a x.rg.length v.c, .int .i64 x.cr, .int .i64 x.sch]] w fun e w' => e = .returned (.int .i64 res) ∧ Below w.heap.size w w' := by
  have HP := Lib.hid hP
  have HX := Lib.hid hx
  have Hres := Lib.hid hres
  have HCk := Lib.hid (fun W (hW : Below w.heap.size w W) => pcheck_any NA n kc N RA rc R CA m cc C mask W (hP.hN.below hW) (hP.hR.below hW) (hP.hC.below hW) hP.hn hP.hp hP.hv hP.hc)
  have hn60 := hP.hn
  have HSe := Lib.hid (fun W (hW : Below w.heap.size w W) => search_any NA n kc N x.pc W (hP.hN.below hW) (by omega) hP.hp)
  have HVa := Lib.hid (fun W (hW : Below w.heap.size w W) => valid_any v.a x.rg.length v.c x.rg W (hx.below hW))
  obtain ⟨pc, rg, cr, sch⟩ := x
  dsimp only at *
  clear hP hx hres
  go_enter Tryz.func48, Tryz.ntmps48
  go_upto_region 1 with fail
  obtain ⟨wa, hwa⟩ : ∃ wa : World, wa = (w.alloc (.cells #[.slice NA n kc, .slice RA n rc, .slice CA m cc, .int .i64 mask] 77)).alloc (.cells #[.int .i64 pc, .slice v.a rg.length v.c, .int .i64 cr, .int .i64 sch] 38) := ⟨_, rfl⟩
  rw [← hwa]
  have HG : Hid (wa.heap[w.heap.size]? = some (.cells #[.slice NA n kc, .slice RA n rc, .slice CA m cc, .int .i64 mask] 77 (0, 0))) := Lib.hid (by rw [hwa]; exact (Below.heap_alloc _ _ _ (by simp)).trans (heap_alloc_new w _))
  have HE : Hid (wa.heap[w.heap.size + 1]? = some (.cells #[.int .i64 pc, .slice v.a rg.length v.c, .int .i64 cr, .int .i64 sch] 38 (0, 0))) := Lib.hid (by rw [hwa]; have hzz := heap_alloc_new (w.alloc (.cells #[.slice NA n kc, .slice RA n rc, .slice CA m cc, .int .i64 mask] 77)) (.cells #[.int .i64 pc, .slice v.a rg.length v.c, .int .i64 cr, .int .i64 sch] 38); rw [World.size_alloc] at hzz; exact hzz)
  have Hba : Hid (Below w.heap.size w wa) := Lib.hid (by rw [hwa]; exact (by repeat' (first | with_reducible exact Below.refl _ _ | with_reducible refine below_drewN ?_ _ | with_reducible refine Below.drew ?_ | with_reducible refine Below.alloc ?_ ?_ _ | with_reducible refine Below.setCell ?_ ?_ _ | with_reducible refine Below.trans ?_ (Below.mono (by with_reducible assumption) ?_) | (simp; done) | (simp; omega) | omega)))
  have hlE : w.heap.size + 1 < wa.heap.size := by rw [hwa]; simp
  clear hwa
  obtain ⟨E, hE⟩ : ∃ E, w.heap.size + 1 = E := ⟨_, rfl⟩
  rw [hE] at HE hlE ⊢
  have hGE : w.heap.size < E := by omega
  clear hE
  have a0 := cell_of_row wa w.heap.size 0 _ _ _ HG.out
  have a1 := cell_of_row wa w.heap.size 1 _ _ _ HG.out
  have a2 := cell_of_row wa w.heap.size 2 _ _ _ HG.out
  have a3 := cell_of_row wa w.heap.size 3 _ _ _ HG.out
  go_wp2_with fail
  refine (HCk.out _ Hba.out).mono ?_
  rintro e w1 ⟨rfl, hb1⟩
  have hG1 := (hb1.block _ (by omega)).trans HG.out
  have hE1 := (hb1.block _ hlE).trans HE.out
  have Hb1 := Lib.hid (Hba.out.trans (hb1.mono (by omega)))
  have hs1 := hb1.size
  have HG1 := Lib.hid hG1
  have HE1 := Lib.hid hE1
  clear a0 a1 a2 a3 hb1 hG1 hE1 HG HE
  have a0 := cell_of_row w1 w.heap.size 0 _ _ _ HG1.out
  have a1 := cell_of_row w1 w.heap.size 1 _ _ _ HG1.out
  have a2 := cell_of_row w1 w.heap.size 2 _ _ _ HG1.out
  have a3 := cell_of_row w1 w.heap.size 3 _ _ _ HG1.out
  have e0 := cell_of_row w1 E 0 _ _ _ HE1.out
  have e1 := cell_of_row w1 E 1 _ _ _ HE1.out
  have e2 := cell_of_row w1 E 2 _ _ _ HE1.out
  have e3 := cell_of_row w1 E 3 _ _ _ HE1.out
  have hlE1 : E < w1.heap.size := by omega
  go_wp2_with fail
  refine (HSe.out _ Hb1.out).mono ?_
  rintro e w' ⟨⟨i, b, rfl, hfd⟩, rfl⟩
  have Hfd := Lib.hid hfd
  clear hfd
  cases b with
  | false =>
    have He : Hid (res = 10) := Lib.hid (by
      rcases Hres.out with h | h
      · exact absurd h.2.inN (Hfd.out.2.2 rfl)
      · exact h.1)
    go_wp2
    go_ret
    exact ⟨by rw [He.out]; rfl, Hb1.out⟩
  | true =>
    have hat := Hfd.out.2.1 rfl
    have hmem : pc ∈ N := List.mem_of_getElem? hat
    have hfine : res = 0 ∧ LnFine N R m mask ⟨pc, rg, cr, sch⟩ := by
      rcases Hres.out with h | h
      · exact h
      · exact absurd hmem h.2
    have hiR : i < R.length := by
      have h1 := (List.getElem?_eq_some_iff.1 hat).1
      have h2 := HP.out.hN.len
      have h3 := HP.out.hR.len
      omega
    have hin : (i : Int) < (n : Int) := by have := HP.out.hR.len; omega
    have hin2 : i < n := by omega
    have He : Hid (res = 0) := Lib.hid hfine.1
    obtain ⟨-, hne, hval, hwi, ⟨hcr0, hcrm⟩, hs0, hsm⟩ := hfine.2
    dsimp only at hne hval hwi hcr0 hcrm hs0 hsm
    have hwi := hwi i hiR hat
    have hrl : ¬ rg.length = 0 := fun h => hne (List.length_eq_zero_iff.1 h)
    have hrl' : ¬ (rg.length : Int) = 0 := by omega
    have hcr0' : ¬ cr < 0 := by omega
    have hcrm' : ¬ (m : Int) ≤ cr := by omega
    obtain ⟨br, off, rfl, hbr, cR, hSR⟩ := (HP.out.hR.below Hb1.out).at i hiR
    have HSR := Lib.hid hSR
    have HW := Lib.hid (fun W (hW : Below w1.heap.size w1 W) => within_any v.a R[i].2.a rg.length v.c R[i].1.length R[i].2.c rg R[i].1 W ((HX.out.below Hb1.out).below hW) (HSR.out.below hW))
    rw [hwi] at HW
    have HVb := Lib.hid (fun W (hW : Below w1.heap.size w1 W) => HVa.out W (Hb1.out.trans (hW.mono (by omega))))
    rw [hval] at HVb
    obtain ⟨rp, hrp⟩ : ∃ rp, R[i] = rp := ⟨_, rfl⟩
    rw [hrp] at cR HW
    clear hrp hSR HSR hwi hval hne hmem hat hfine HVa
    go_upto_region 9 with (first
      | (go_at_call 68
         refine (HVb.out _ (Below.refl _ _)).mono ?_
         rintro e w2 ⟨rfl, hb2⟩
         have HG2 := Lib.hid ((hb2.block _ (by omega)).trans HG1.out)
         have HE2 := Lib.hid ((hb2.block _ hlE1).trans HE1.out)
         have cR2 := (hb2.cell (p := ⟨br, off + i, none⟩) hbr).trans cR
         have Hb2 := Lib.hid hb2
         have hs2 := hb2.size
         clear hb2)
      | fail)
    clear a0 a1 a2 a3 e0 e1 e2 e3 cR
    have a1 : w2.drew.cell? ⟨w.heap.size, 1, none⟩ = _ := cell_of_row w2 w.heap.size 1 _ _ _ HG2.out
    have e1 : w2.drew.cell? ⟨E, 1, none⟩ = _ := cell_of_row w2 E 1 _ _ _ HE2.out
    have cR3 : w2.drew.cell? ⟨br, off + i, none⟩ = some (.slice rp.2.a rp.1.length rp.2.c) := cR2
    clear cR2
    go_region_held3 (fun w' => w'.cell? ⟨w.heap.size, 1, none⟩ = some (.slice (some ⟨br, off, none⟩) n rc) ∧ w'.cell? ⟨E, 1, none⟩ = some (.slice v.a rg.length v.c) ∧ w'.cell? ⟨br, off + i, none⟩ = some (.slice rp.2.a rp.1.length rp.2.c)) (first | with_reducible exact ⟨a1, e1, cR3⟩ | go_keep | ((repeat' apply And.intro) <;> go_keep))
      (first
        | (go_at_call 78
           refine (HW.out _ (Below.drew Hb2.out)).mono ?_
           rintro e w3 ⟨rfl, hb3⟩
           have hb3' : Below w2.heap.size w2 w3 := (have hbq := hb3; (by repeat' (first | with_reducible exact Below.refl _ _ | with_reducible assumption | with_reducible refine below_drewN ?_ _ | with_reducible refine Below.drew ?_ | with_reducible refine Below.alloc ?_ ?_ _ | with_reducible refine Below.setCell ?_ ?_ _ | with_reducible refine Below.trans ?_ (Below.mono (by with_reducible assumption) ?_) | with_reducible refine below_only ?_ (by with_reducible assumption) ?_ ?_ | (simp; done) | (simp; omega) | omega)))
           have HG3 := Lib.hid ((hb3'.block _ (by omega)).trans HG2.out)
           have HE3 := Lib.hid ((hb3'.block _ (by omega)).trans HE2.out)
           have a13 := cell_of_row w3 w.heap.size 1 _ _ _ HG3.out
           have e13 := cell_of_row w3 E 1 _ _ _ HE3.out
           have cR4 := (hb3'.cell (p := ⟨br, off + i, none⟩) (by show br < w2.heap.size; omega)).trans cR3
           have Hb3 := Lib.hid (Hb2.out.trans (hb3'.mono hs2))
           clear hb3 hb3')
        | fail)
    clear a1 e1 cR3 a13 e13 cR4
    have a2 := cell_of_row w3 w.heap.size 2 _ _ _ HG3.out
    have a3 := cell_of_row w3 w.heap.size 3 _ _ _ HG3.out
    have e2 := cell_of_row w3 E 2 _ _ _ HE3.out
    have e3 := cell_of_row w3 E 3 _ _ _ HE3.out
    go_wp2
    go_ret
    exact ⟨by rw [He.out]; rfl, Hb1.out.trans (Hb3.out.mono (by omega))⟩

set_option maxHeartbeats 2000000 in
set_option maxRecDepth 100000 in
theorem checkC_any (NA : Option Addr) (n kc : Nat) (N : List Int) (RA : Option Addr) (rc : Nat) (R : RL) (CA : Option Addr) (m cc : Nat) (C : List Cp) (mask : Int) (x : Ln) (v : LV) (w : World) (hP : PcV w NA n kc N RA rc R CA m cc C) (hx : SlR w v.a x.rg.length v.c x.rg) (res : Int) (hres : (res = 0 ∧ LnFine N R m mask x) ∨ (res = 10 ∧ x.pc ∉ N)) :
    Calls Tryz.prog 29 #[.agg #[.int .i64 x.pc, .slice v.a x.rg.length v.c, .int .i64 x.cr, .int .i64 x.sch], .slice NA n kc, .slice RA n rc, .slice CA m cc, .int .i64 mask] w fun e w' => e = .returned (.int .i64 res) ∧ Below w.heap.size w w' := by
  have HL := Lib.hid (fun W (hW : Below w.heap.size w W) => pline_any NA n kc N RA rc R CA m cc C mask x v W (hP.below hW) (hx.below hW) res hres)
  obtain ⟨pc, rg, cr, sch⟩ := x
  dsimp only at *
  clear hP hx hres
  go_enter Tryz.func29, Tryz.ntmps29
  go_wp2_with fail
  refine (HL.out _ (by repeat' (first | with_reducible exact Below.refl _ _ | with_reducible refine below_drewN ?_ _ | with_reducible refine Below.drew ?_ | with_reducible refine Below.alloc ?_ ?_ _ | with_reducible refine Below.setCell ?_ ?_ _ | with_reducible refine Below.trans ?_ (Below.mono (by with_reducible assumption) ?_) | (simp; done) | (simp; omega) | omega))).mono ?_
  rintro e w1 ⟨rfl, hb1⟩
  go_wp2
  go_ret
  exact ⟨rfl, (by repeat' (first | with_reducible exact Below.refl _ _ | with_reducible assumption | with_reducible refine below_drewN ?_ _ | with_reducible refine Below.drew ?_ | with_reducible refine Below.alloc ?_ ?_ _ | with_reducible refine Below.setCell ?_ ?_ _ | with_reducible refine Below.trans ?_ (Below.mono (by with_reducible assumption) ?_) | with_reducible refine below_only ?_ (by with_reducible assumption) ?_ ?_ | (simp; done) | (simp; omega) | omega))⟩
end Go.Proofs.YtglanlpjoaholaaGreat

namespace Go.Proofs.YtglanlpjoaholaaGreat
open Go.RowKit Go.Shelf
set_option linter.unusedVariables false
set_option linter.unusedSimpArgs false

theorem SlI.lit (w : World) (t : TypeId) (cs : Array Value) (l : List Int) (n B : Nat) (hB : B = w.heap.size) (hn : l.length = n) (hn1 : n ≤ 1000) (hc : l.map (.int .i64) = cs.toList) : SlI (w.alloc (.cells cs t)) (some ⟨B, 0, none⟩) n n l :=
  ⟨hn, Nat.le_refl _, by unfold maxLen; omega, Lies.new w t cs n _ hc B hB⟩
theorem SlC.lit (w : World) (t : TypeId) (cs : Array Value) (l : List Cp) (n B : Nat) (hB : B = w.heap.size) (hn : l.length = n) (hn1 : n ≤ 1000) (hc : kCells l = cs.toList) : SlC (w.alloc (.cells cs t)) (some ⟨B, 0, none⟩) n n l :=
  ⟨hn, Nat.le_refl _, by unfold maxLen; omega, Lies.new w t cs n _ hc B hB⟩
theorem SlG.lit (w : World) (t : TypeId) (cs : Array Value) (l : RL) (n B : Nat) (hB : B = w.heap.size) (hn : l.length = n) (hn1 : n ≤ 1000) (hc : rgCells l = cs.toList) (hf : ∀ x ∈ l, SlR w x.2.a x.1.length x.2.c x.1) : SlG (w.alloc (.cells cs t)) (some ⟨B, 0, none⟩) n n l :=
  ⟨hn, Nat.le_refl _, by unfold maxLen; omega, Lies.new w t cs n _ hc B hB, fun x hx => (hf x hx).alloc _⟩
theorem SlL.lit (w : World) (t : TypeId) (cs : Array Value) (l : LL) (n B : Nat) (hB : B = w.heap.size) (hn : l.length = n) (hn1 : n ≤ 1000) (hc : lnCells l = cs.toList) (hf : ∀ x ∈ l, SlR w x.2.a x.1.rg.length x.2.c x.1.rg) : SlL (w.alloc (.cells cs t)) (some ⟨B, 0, none⟩) n n l :=
  ⟨hn, Nat.le_refl _, by unfold maxLen; omega, Lies.new w t cs n _ hc B hB, fun x hx => (hf x hx).alloc _⟩

def aA : List R4 := [⟨0, 0, 5, 1⟩]
def aL : List R4 := [⟨0, 0, 3, 1⟩]
theorem aA_valid : validP aA = true := by
  unfold validP
  rw [canonP_comb _ (by decide)]
  decide
theorem aL_valid : validP aL = true := by
  unfold validP
  rw [canonP_comb _ (by decide)]
  decide
theorem a_rest : restCP [⟨1, aL, 0, 1⟩] 1 aA = ([⟨3, 0, 5, 1⟩], 0) := by
  have h1 : validL [⟨1, aL, 0, 1⟩] = true := by simp [validL, aL_valid]
  have h2 : rectsP (onP 1) [⟨1, aL, 0, 1⟩] = aL := by simp [rectsP, onP]
  unfold restCP
  rw [h1, aA_valid, h2, choose_comb notB rfl _ _ (by decide) (by decide)]
  decide
theorem a_area : areaP [⟨3, 0, 5, 1⟩] = 2 := by
  have h : validP [(⟨3, 0, 5, 1⟩ : R4)] = true := by
    unfold validP
    rw [canonP_comb _ (by decide)]
    decide
  unfold areaP
  rw [h]
  decide
theorem a_within : withinP aL aA = true := by
  unfold withinP
  rw [aA_valid, aL_valid, choose_comb notB rfl _ _ (by decide) (by decide)]
  decide
def rye : ByteArray := ⟨#[114, 121, 101]⟩
theorem rye_ok : cropsB [⟨rye, 0, 0⟩] := by
  refine ⟨by decide, fun x hx => ?_, fun i h => by simp at h⟩
  rw [List.mem_singleton] at hx
  subst hx
  exact ⟨by decide, by decide, by decide, by decide⟩
theorem a_fine (v : LV) : LnFine [1] [(aA, v)] 1 1 ⟨1, aL, 0, 1⟩ := by
  refine ⟨by simp, by simp [aL], aL_valid, fun i h _ => ?_, by decide, by decide, by decide⟩
  have : i = 0 := by simp at h; omega
  subst this
  exact a_within

set_option maxHeartbeats 8000000 in
set_option maxRecDepth 100000 in
theorem awake13_any (w : World) : Calls Tryz.prog 16 #[] w fun e w' => e = .returned (.bool true) ∧ Below w.heap.size w w' := by
  go_enter Tryz.func16, Tryz.ntmps16
  go_upto_region 3 with fail
  obtain ⟨wa, hwa⟩ : ∃ wa : World, wa = (((w.alloc (.cells #[.int .i64 0, .int .i64 0, .int .i64 5, .int .i64 1] 64)).alloc (.cells #[.slice (some ⟨w.heap.size, 0, none⟩) 1 1] 33)).alloc (.cells #[.int .i64 0, .int .i64 0, .int .i64 3, .int .i64 1] 64)).alloc (.cells #[.int .i64 1, .slice (some ⟨w.heap.size + 1 + 1, 0, none⟩) 1 1, .int .i64 0, .int .i64 1] 38) := ⟨_, rfl⟩
  rw [← hwa]
  have Ha1 := SlR.lit w 64 #[.int .i64 0, .int .i64 0, .int .i64 5, .int .i64 1] aA 1 _ rfl rfl (by omega) rfl
  have Ha2 := SlR.lit ((w.alloc (.cells #[.int .i64 0, .int .i64 0, .int .i64 5, .int .i64 1] 64)).alloc (.cells #[.slice (some ⟨w.heap.size, 0, none⟩) 1 1] 33)) 64 #[.int .i64 0, .int .i64 0, .int .i64 3, .int .i64 1] aL 1 (w.heap.size + 1 + 1) (by simp) rfl (by omega) rfl
  have Ha : Hid (SlR wa (some ⟨w.heap.size, 0, none⟩) 1 1 aA) := Lib.hid (by rw [hwa]; exact ((Ha1.alloc _).alloc _).alloc _)
  have Hl : Hid (SlR wa (some ⟨w.heap.size + 1 + 1, 0, none⟩) 1 1 aL) := Lib.hid (by rw [hwa]; exact Ha2.alloc _)
  have Hx1 : Hid (wa.heap[w.heap.size + 1]? = some (.cells #[.slice (some ⟨w.heap.size, 0, none⟩) 1 1] 33 (0, 0))) := Lib.hid (by rw [hwa]; have h := heap_alloc_new (w.alloc (.cells #[.int .i64 0, .int .i64 0, .int .i64 5, .int .i64 1] 64)) (.cells #[.slice (some ⟨w.heap.size, 0, none⟩) 1 1] 33); rw [World.size_alloc] at h; exact (Below.heap_alloc _ _ _ (by simp)).trans ((Below.heap_alloc _ _ _ (by simp)).trans h))
  have Hx3 : Hid (wa.heap[w.heap.size + 1 + 1 + 1]? = some (.cells #[.int .i64 1, .slice (some ⟨w.heap.size + 1 + 1, 0, none⟩) 1 1, .int .i64 0, .int .i64 1] 38 (0, 0))) := Lib.hid (by rw [hwa]; have h := heap_alloc_new (((w.alloc (.cells #[.int .i64 0, .int .i64 0, .int .i64 5, .int .i64 1] 64)).alloc (.cells #[.slice (some ⟨w.heap.size, 0, none⟩) 1 1] 33)).alloc (.cells #[.int .i64 0, .int .i64 0, .int .i64 3, .int .i64 1] 64)) (.cells #[.int .i64 1, .slice (some ⟨w.heap.size + 1 + 1, 0, none⟩) 1 1, .int .i64 0, .int .i64 1] 38); rw [World.size_alloc, World.size_alloc, World.size_alloc] at h; exact h)
  have Hba : Hid (Below w.heap.size w wa) := Lib.hid (by rw [hwa]; exact (by repeat' (first | with_reducible exact Below.refl _ _ | with_reducible refine below_drewN ?_ _ | with_reducible refine Below.drew ?_ | with_reducible refine Below.alloc ?_ ?_ _ | with_reducible refine Below.setCell ?_ ?_ _ | with_reducible refine Below.trans ?_ (Below.mono (by with_reducible assumption) ?_) | (simp; done) | (simp; omega) | omega)))
  have hsz : w.heap.size + 1 + 1 + 1 < wa.heap.size := by rw [hwa]; simp
  have Hba0 := Lib.hid Hba.out
  have hw0 : w.heap.size ≤ wa.heap.size := Hba.out.size
  clear hwa Ha1 Ha2
  obtain ⟨P3, h3⟩ : ∃ P, w.heap.size + 1 + 1 + 1 = P := ⟨_, rfl⟩
  rw [h3] at Hx3 hsz ⊢
  obtain ⟨P2, h2⟩ : ∃ P, w.heap.size + 1 + 1 = P := ⟨_, rfl⟩
  rw [h2] at Hx3 Hl h3 ⊢
  obtain ⟨P1, h1⟩ : ∃ P, w.heap.size + 1 = P := ⟨_, rfl⟩
  rw [h1] at Hx1 h2 ⊢
  obtain ⟨P0, h0⟩ : ∃ P, w.heap.size = P := ⟨_, rfl⟩
  rw [h0] at Hx1 Ha h1 Hba ⊢
  have hP : P0 < wa.heap.size ∧ P1 < wa.heap.size ∧ P2 < wa.heap.size ∧ P0 ≤ P1 ∧ P1 ≤ P3 := by omega
  have hP1 := hP.2.1
  have hP01 := hP.2.2.2.1
  clear h0 h1 h2 h3 hP
  have x0 := cell_of_row wa P1 0 _ _ _ Hx1.out
  have y0 := cell_of_row wa P3 0 _ _ _ Hx3.out
  have y1 := cell_of_row wa P3 1 _ _ _ Hx3.out
  have y2 := cell_of_row wa P3 2 _ _ _ Hx3.out
  have y3 := cell_of_row wa P3 3 _ _ _ Hx3.out
  go_wp2_with fail
  refine (restC_any (some ⟨wa.heap.size, 0, none⟩) 1 1 [(⟨1, aL, 0, 1⟩, ⟨some ⟨P2, 0, none⟩, 1⟩)] 1 (some ⟨P0, 0, none⟩) 1 1 aA _ (SlL.lit wa _ _ _ _ _ rfl rfl (by omega) rfl (fun x hx => by rw [List.mem_singleton] at hx; subst hx; exact Hl.out)) (Ha.out.alloc _) (by show (rectsP (onP 1) [(⟨1, aL, 0, 1⟩ : Ln)]).length ≤ 750; decide)).mono ?_
  rintro e w5 ⟨v5, rfl, hown5, hb5⟩
  rw [show restCP (lns [(⟨1, aL, 0, 1⟩, ⟨some ⟨P2, 0, none⟩, 1⟩)]) 1 aA = ([⟨3, 0, 5, 1⟩], 0) from a_rest] at hown5 ⊢
  obtain ⟨D, dc, rfl, hD⟩ := SlR.of_own hown5
  have Hb5 : Hid (Below wa.heap.size wa w5) := Lib.hid (show Below wa.heap.size wa w5 from (by have hbq := hb5; exact (by repeat' (first | with_reducible exact Below.refl _ _ | with_reducible assumption | with_reducible refine below_drewN ?_ _ | with_reducible refine Below.drew ?_ | with_reducible refine Below.alloc ?_ ?_ _ | with_reducible refine Below.setCell ?_ ?_ _ | with_reducible refine Below.trans ?_ (Below.mono (by with_reducible assumption) ?_) | with_reducible refine below_only ?_ (by with_reducible assumption) ?_ ?_ | (simp; done) | (simp; omega) | omega))))
  have HD := Lib.hid hD
  have hs5 := Hb5.out.size
  clear hown5 hb5 hD x0 y0 y1 y2 y3
  go_upto_region 4 with fail
  obtain ⟨w6, hw6⟩ : ∃ w6 : World, w6 = w5.alloc (.cells #[.slice D 1 dc] 33) := ⟨_, rfl⟩
  try simp only [List.length_singleton]
  rw [← hw6]
  have Hz : Hid (w6.heap[w5.heap.size]? = some (.cells #[.slice D 1 dc] 33 (0, 0))) := Lib.hid (by rw [hw6]; exact heap_alloc_new w5 _)
  have Hb6 : Hid (Below wa.heap.size wa w6) := Lib.hid (by rw [hw6]; exact Hb5.out.alloc hs5 _)
  have HD6 : Hid (SlR w6 D 1 dc [⟨3, 0, 5, 1⟩]) := Lib.hid (by rw [hw6]; exact HD.out.alloc _)
  have hlz : w5.heap.size < w6.heap.size := by rw [hw6]; simp
  obtain ⟨Z, hZ⟩ : ∃ Z, w5.heap.size = Z := ⟨_, rfl⟩
  rw [hZ] at Hz hlz ⊢
  clear hw6 hZ HD
  have H6a := Lib.hid (Ha.out.below Hb6.out)
  have H6l := Lib.hid (Hl.out.below Hb6.out)
  have hs6 := Hb6.out.size
  have x0 := cell_of_row w6 P1 0 _ _ _ ((Hb6.out.block _ hP1).trans Hx1.out)
  have y0 := cell_of_row w6 P3 0 _ _ _ ((Hb6.out.block _ hsz).trans Hx3.out)
  have y1 := cell_of_row w6 P3 1 _ _ _ ((Hb6.out.block _ hsz).trans Hx3.out)
  have y2 := cell_of_row w6 P3 2 _ _ _ ((Hb6.out.block _ hsz).trans Hx3.out)
  have y3 := cell_of_row w6 P3 3 _ _ _ ((Hb6.out.block _ hsz).trans Hx3.out)
  have hP16 : P1 < w6.heap.size := by omega
  go_wp2_with fail
  refine (checkC_any (some ⟨w6.heap.size, 0, none⟩) 1 1 [1] (some ⟨w6.heap.size + 1, 0, none⟩) 1 [(aA, ⟨some ⟨P0, 0, none⟩, 1⟩)] (some ⟨w6.heap.size + 1 + 1, 0, none⟩) 1 1 [⟨rye, 0, 0⟩] 1 ⟨1, aL, 0, 1⟩ ⟨some ⟨P2, 0, none⟩, 1⟩ _ ?_ ?_ 0 (.inl ⟨rfl, a_fine _⟩)).mono ?_
  · refine ⟨(SlI.lit w6 3 #[.int .i64 1] [1] 1 _ rfl rfl (by omega) rfl).below (by repeat' (first | with_reducible exact Below.refl _ _ | with_reducible refine below_drewN ?_ _ | with_reducible refine Below.drew ?_ | with_reducible refine Below.alloc ?_ ?_ _ | with_reducible refine Below.setCell ?_ ?_ _ | with_reducible refine Below.trans ?_ (Below.mono (by with_reducible assumption) ?_) | (simp; done) | (simp; omega) | omega)), (SlG.lit (w6.alloc (.cells #[.int .i64 1] 3)) 33 #[.slice (some ⟨P0, 0, none⟩) 1 1] [(aA, ⟨some ⟨P0, 0, none⟩, 1⟩)] 1 (w6.heap.size + 1) (by simp) rfl (by omega) rfl (fun x hx => by rw [List.mem_singleton] at hx; subst hx; exact (H6a.out.alloc _))).below (by repeat' (first | with_reducible exact Below.refl _ _ | with_reducible refine below_drewN ?_ _ | with_reducible refine Below.drew ?_ | with_reducible refine Below.alloc ?_ ?_ _ | with_reducible refine Below.setCell ?_ ?_ _ | with_reducible refine Below.trans ?_ (Below.mono (by with_reducible assumption) ?_) | (simp; done) | (simp; omega) | omega)), SlC.lit ((w6.alloc (.cells #[.int .i64 1] 3)).alloc (.cells #[.slice (some ⟨P0, 0, none⟩) 1 1] 33)) 57 #[.string rye, .int .i64 0, .int .i64 0] [⟨rye, 0, 0⟩] 1 (w6.heap.size + 1 + 1) (by simp) rfl (by omega) rfl, by omega, List.pairwise_singleton _ _, fun x hx => by rw [List.mem_singleton] at hx; subst hx; exact aA_valid, rye_ok⟩
  · exact (((H6l.out.alloc _).alloc _).alloc _)
  rintro e w7 ⟨rfl, hb7⟩
  have Hb7 : Hid (Below w6.heap.size w6 w7) := Lib.hid (show Below w6.heap.size w6 w7 from (by have hbq := hb7; exact (by repeat' (first | with_reducible exact Below.refl _ _ | with_reducible assumption | with_reducible refine below_drewN ?_ _ | with_reducible refine Below.drew ?_ | with_reducible refine Below.alloc ?_ ?_ _ | with_reducible refine Below.setCell ?_ ?_ _ | with_reducible refine Below.trans ?_ (Below.mono (by with_reducible assumption) ?_) | with_reducible refine below_only ?_ (by with_reducible assumption) ?_ ?_ | (simp; done) | (simp; omega) | omega))))
  have Hb67 := Lib.hid (Hb6.out.trans (Hb7.out.mono hs6))
  have H7a := Lib.hid (Ha.out.below Hb67.out)
  have H7l := Lib.hid (Hl.out.below Hb67.out)
  have hs7 := Hb67.out.size
  have hs67 := Hb7.out.size
  clear hb7 x0 y0 y1 y2 y3 hP16
  have x0 := cell_of_row w7 P1 0 _ _ _ ((Hb67.out.block _ hP1).trans Hx1.out)
  have y0 := cell_of_row w7 P3 0 _ _ _ ((Hb67.out.block _ hsz).trans Hx3.out)
  have y1 := cell_of_row w7 P3 1 _ _ _ ((Hb67.out.block _ hsz).trans Hx3.out)
  have y2 := cell_of_row w7 P3 2 _ _ _ ((Hb67.out.block _ hsz).trans Hx3.out)
  have y3 := cell_of_row w7 P3 3 _ _ _ ((Hb67.out.block _ hsz).trans Hx3.out)
  have hP17 : P1 < w7.heap.size := by omega
  go_wp2_with fail
  refine (checkC_any (some ⟨w7.heap.size, 0, none⟩) 1 1 [2] (some ⟨w7.heap.size + 1, 0, none⟩) 1 [(aA, ⟨some ⟨P0, 0, none⟩, 1⟩)] (some ⟨w7.heap.size + 1 + 1, 0, none⟩) 1 1 [⟨rye, 0, 0⟩] 1 ⟨1, aL, 0, 1⟩ ⟨some ⟨P2, 0, none⟩, 1⟩ _ ?_ ?_ 10 (.inr ⟨rfl, by decide⟩)).mono ?_
  · refine ⟨(SlI.lit w7 3 #[.int .i64 2] [2] 1 _ rfl rfl (by omega) rfl).below (by repeat' (first | with_reducible exact Below.refl _ _ | with_reducible refine below_drewN ?_ _ | with_reducible refine Below.drew ?_ | with_reducible refine Below.alloc ?_ ?_ _ | with_reducible refine Below.setCell ?_ ?_ _ | with_reducible refine Below.trans ?_ (Below.mono (by with_reducible assumption) ?_) | (simp; done) | (simp; omega) | omega)), (SlG.lit (w7.alloc (.cells #[.int .i64 2] 3)) 33 #[.slice (some ⟨P0, 0, none⟩) 1 1] [(aA, ⟨some ⟨P0, 0, none⟩, 1⟩)] 1 (w7.heap.size + 1) (by simp) rfl (by omega) rfl (fun x hx => by rw [List.mem_singleton] at hx; subst hx; exact (H7a.out.alloc _))).below (by repeat' (first | with_reducible exact Below.refl _ _ | with_reducible refine below_drewN ?_ _ | with_reducible refine Below.drew ?_ | with_reducible refine Below.alloc ?_ ?_ _ | with_reducible refine Below.setCell ?_ ?_ _ | with_reducible refine Below.trans ?_ (Below.mono (by with_reducible assumption) ?_) | (simp; done) | (simp; omega) | omega)), SlC.lit ((w7.alloc (.cells #[.int .i64 2] 3)).alloc (.cells #[.slice (some ⟨P0, 0, none⟩) 1 1] 33)) 57 #[.string rye, .int .i64 0, .int .i64 0] [⟨rye, 0, 0⟩] 1 (w7.heap.size + 1 + 1) (by simp) rfl (by omega) rfl, by omega, List.pairwise_singleton _ _, fun x hx => by rw [List.mem_singleton] at hx; subst hx; exact aA_valid, rye_ok⟩
  · exact (((H7l.out.alloc _).alloc _).alloc _)
  rintro e w8 ⟨rfl, hb8⟩
  have Hb8 : Hid (Below w7.heap.size w7 w8) := Lib.hid (show Below w7.heap.size w7 w8 from (by have hbq := hb8; exact (by repeat' (first | with_reducible exact Below.refl _ _ | with_reducible assumption | with_reducible refine below_drewN ?_ _ | with_reducible refine Below.drew ?_ | with_reducible refine Below.alloc ?_ ?_ _ | with_reducible refine Below.setCell ?_ ?_ _ | with_reducible refine Below.trans ?_ (Below.mono (by with_reducible assumption) ?_) | with_reducible refine below_only ?_ (by with_reducible assumption) ?_ ?_ | (simp; done) | (simp; omega) | omega))))
  have Hb68 := Lib.hid (Hb7.out.trans (Hb8.out.mono hs67))
  have z0 := cell_of_row w8 Z 0 _ _ _ ((Hb68.out.block _ hlz).trans Hz.out)
  have HD8 := Lib.hid (HD6.out.below Hb68.out)
  have hs8 := Hb68.out.size
  clear hb8 x0 y0 y1 y2 y3
  have HAr := Lib.hid (areaR_any D 1 dc [⟨3, 0, 5, 1⟩] w8 HD8.out)
  rw [a_area] at HAr
  go_wp2_with (first | (go_at_call 13; refine HAr.out.mono ?_; rintro e w9 ⟨rfl, hb9⟩) | fail)
  go_ret
  exact ⟨rfl, Hba0.out.trans ((Hb6.out.trans ((Hb68.out.trans (hb9.mono hs8)).mono hs6)).mono hw0)⟩
end Go.Proofs.YtglanlpjoaholaaGreat

namespace Go.Proofs.YtglanlpjoaholaaGreat
set_option linter.unusedVariables false
set_option linter.unusedSimpArgs false

theorem Reg.can {s : Int} {m : Nat} {l : List R4} (h : Reg s m l) : Canon (inL l) l := by
  have := canonP_canon l h.ins.pos
  rwa [h.canon] at this
theorem LnOk.row {R : List (List R4)} {nc : Nat} {x : Ln} (hR : PcOk R) (h : LnOk R nc x) (u v : Int) (hu : inL x.rg u v = true) : 0 ≤ u ∧ u < 30 ∧ 0 ≤ v ∧ v < 9 := by
  obtain ⟨p, hp, -, hin⟩ := h.pc
  have h1 := (hR.at' p hp).in u v (hin u v hu)
  have := hR.m
  omega
theorem LsOk.valid {R : List (List R4)} {nc k : Nat} {L : List Ln} (h : LsOk R nc k L) : validL L = true :=
  List.all_eq_true.2 fun x hx => (h.ok x hx).reg.valid (by omega) (by omega)
theorem rectsP_in (p : Ln → Bool) (x y : Int) : ∀ L : List Ln, inL (rectsP p L) x y = L.any fun z => p z && inL z.rg x y
  | [] => by simp [rectsP, inL]
  | z :: L => by
    have ih := rectsP_in p x y L
    cases hz : p z with
    | true =>
      have e : rectsP p (z :: L) = z.rg ++ rectsP p L := by simp [rectsP, hz]
      rw [e, List.any_cons, hz, Bool.true_and, ← ih]
      simp [inL, List.any_append]
    | false =>
      have e : rectsP p (z :: L) = rectsP p L := by simp [rectsP, hz]
      rw [e, List.any_cons, hz, Bool.false_and, Bool.false_or, ih]
theorem rectsP_len (p : Ln → Bool) (m : Nat) : ∀ L : List Ln, (∀ x ∈ L, x.rg.length ≤ m) → (rectsP p L).length ≤ L.length * m
  | [], _ => by simp [rectsP]
  | z :: L, h => by
    have ih := rectsP_len p m L fun x hx => h x (by simp [hx])
    have hz := h z (by simp)
    cases hpz : p z with
    | true =>
      have e : rectsP p (z :: L) = z.rg ++ rectsP p L := by simp [rectsP, hpz]
      rw [e, List.length_append, List.length_cons, Nat.succ_mul]
      omega
    | false =>
      have e : rectsP p (z :: L) = rectsP p L := by simp [rectsP, hpz]
      rw [e, List.length_cons, Nat.succ_mul]
      omega
theorem cut_anyL {X : List Int} {p : Ln → Bool} {y : Int} : ∀ (L : List Ln), (∀ x ∈ L, Cut X fun u => inL x.rg u y) → Cut X fun u => L.any fun z => p z && inL z.rg u y
  | [], _ => cut_none _
  | z :: L, h => by
    have e : (fun u => (z :: L).any fun z => p z && inL z.rg u y) = fun u => (p z && inL z.rg u y) || L.any fun z => p z && inL z.rg u y := by funext u; simp
    rw [e]
    refine Cut.how (· || ·) ?_ (cut_anyL L fun k hk => h k (by simp [hk]))
    cases hp : p z with
    | true => simpa using h z (by simp)
    | false => simpa using cut_none X
/-- The canonical form of what is chosen. -/
theorem chosen_reg {R : List (List R4)} {nc k : Nat} {L : List Ln} (hR : PcOk R) (h : LsOk R nc k L) (hk : k ≤ 4) (p : Ln → Bool) :
    (rectsP p L).length ≤ 480 ∧ Reg 30 99 (canonP (rectsP p L)) ∧ ∀ x y, inL (canonP (rectsP p L)) x y = L.any fun z => p z && inL z.rg x y := by
  have h1 := rectsP_len p 120 L fun x hx => (h.ok x hx).reg.len
  have hl := h.len
  have hpos := rectsP_pos h.valid p
  have hc := canonP_canon _ hpos
  have hP : ∀ x y, inL (rectsP p L) x y = true → 0 ≤ x ∧ x < 30 ∧ 0 ≤ y ∧ y < 9 := fun x y hxy => by
    rw [rectsP_in, List.any_eq_true] at hxy
    obtain ⟨z, hz, hzz⟩ := hxy
    rw [Bool.and_eq_true] at hzz
    exact (h.ok z hz).row hR x y hzz.2
  obtain ⟨X, x1, x2, -⟩ := h.cut
  have hb := hc.bd 0 30 0 30 (fun x y hxy => by have := hP x y hxy; omega)
  refine ⟨Nat.le_trans h1 (Nat.mul_le_mul_right 120 (by omega : L.length ≤ 4)), ⟨hb, hc.own fun q hq => (hb q hq).2.1, ?_⟩, fun x y => by rw [hc.mem, rectsP_in]⟩
  have h2 := canon_len hc (X := X) (fun y => by
    have e : (fun x => inL (rectsP p L) x y) = fun x => L.any fun z => p z && inL z.rg x y := by funext x; rw [rectsP_in]
    rw [e]
    exact cut_anyL L fun x hx => x2 x hx y) 9 (fun x y hxy => by have := hP x y hxy; omega)
  have h3 : X.length / 2 ≤ 11 := by omega
  have := Nat.mul_le_mul_left 9 h3
  omega
theorem claimed_eq {R : List (List R4)} {nc k : Nat} {L : List Ln} (hR : PcOk R) (h : LsOk R nc k L) (hk : k ≤ 4) (s : Int) (hs : 0 ≤ s ∧ s ≤ 15) : claimedP L s = (canonP (rectsP (bitP s) L), 0) := by
  obtain ⟨-, h2, -⟩ := chosen_reg hR h hk (bitP s)
  have hl := h.len
  have := h2.len
  unfold claimedP
  rw [if_neg (by omega), if_neg (by omega), if_pos h.valid]
  unfold limP
  rw [if_neg (by omega)]
theorem within_of {s : Int} {a b : List R4} (ha : InS s a) (hb : InS s b) (hva : validP a = true) (hvb : validP b = true) (h : ∀ x y, inL a x y = true → inL b x y = true) : withinP a b = true := by
  have h1 : chooseP notB a b = [] := (choose_nil rfl ha hb).2 fun x y => by
    cases h2 : inL a x y with
    | false => rfl
    | true => rw [h x y h2]; rfl
  unfold withinP
  rw [hva, hvb, h1]
  rfl
theorem meets_not {s : Int} {a b : List R4} (ha : InS s a) (hb : InS s b) (h : ∀ x y, inL a x y = true → inL b x y = false) : meetsP a b = false := by
  cases hm : (a.any fun p => b.any fun q => overP p q) with
  | false => unfold meetsP; rw [hm, Bool.and_false]
  | true =>
    obtain ⟨x, y, hxy⟩ := (over_some ha hb).1 hm
    rw [Bool.and_eq_true] at hxy
    have := h x y hxy.1
    rw [hxy.2] at this; cases this
/-- The areas of the lines that are chosen. -/
def sumA (p : Ln → Bool) (L : List Ln) : Int := ((L.filter p).map fun x => areaP x.rg).sum
theorem sumA_snoc (p : Ln → Bool) (L : List Ln) (x : Ln) : sumA p (L ++ [x]) = if p x then sumA p L + areaP x.rg else sumA p L := by
  unfold sumA
  rw [List.filter_append, List.map_append, List.sum_append]
  cases h : p x <;> simp [h]
/-- Squares within a great square, counted. -/
def cnt (P : Int → Int → Bool) : Int := sumI (fun y => sumI (fun x => ind (P x y)) 0 30) 0 30
theorem cnt_congr {P Q : Int → Int → Bool} (h : ∀ x y, P x y = Q x y) : cnt P = cnt Q := by
  have e : P = Q := funext fun x => funext fun y => h x y
  rw [e]
theorem cnt_none : cnt (fun _ _ => false) = 0 := by decide
theorem cnt_or {P Q : Int → Int → Bool} (h : ∀ x y, P x y = true → Q x y = false) : cnt (fun x y => P x y || Q x y) = cnt P + cnt Q := by
  unfold cnt
  rw [← sumI_plus]
  refine sumI_congr _ _ _ _ fun y _ _ => ?_
  rw [← sumI_plus]
  refine sumI_congr _ _ _ _ fun x _ _ => ?_
  show ind (P x y || Q x y) = ind (P x y) + ind (Q x y)
  cases hp : P x y with
  | true => rw [h x y hp]; rfl
  | false =>
    cases Q x y <;> rfl
theorem Reg.cnt {m : Nat} {l : List R4} (h : Reg 30 m l) (hm : m ≤ 120) : areaP l = cnt (inL l) := by
  have h1 := canon_size h.can 30 (fun x y hxy => by have := h.ins.in x y hxy; omega)
  have h2 := h.valid (by omega) hm
  unfold areaP
  rw [h2]
  exact h1.symm
theorem cnt_bd (P : Int → Int → Bool) : 0 ≤ cnt P ∧ cnt P ≤ 900 := by
  have := sumI_bd (fun y => sumI (fun x => ind (P x y)) 0 30) ((30 : Nat) * 1) (by omega) (fun y => sumI_bd (fun x => ind (P x y)) 1 (by omega) (fun x => by unfold ind; split <;> omega) 30 0) 30 0
  unfold cnt
  omega
theorem sum_cnt {R : List (List R4)} {nc : Nat} (p : Ln → Bool) : ∀ (L : List Ln), (∀ x ∈ L, LnOk R nc x) → (L.Pairwise fun a b => ∀ u v, inL a.rg u v = true → inL b.rg u v = false) → sumA p L = cnt fun x y => L.any fun z => p z && inL z.rg x y
  | [], _, _ => by
    have : cnt (fun x y => ([] : List Ln).any fun z => p z && inL z.rg x y) = 0 := cnt_none
    rw [this]
    rfl
  | z :: L, h, hd => by
    obtain ⟨h1, h2⟩ := List.pairwise_cons.1 hd
    have ih := sum_cnt p L (fun x hx => h x (by simp [hx])) h2
    cases hz : p z with
    | true =>
      have e : sumA p (z :: L) = areaP z.rg + sumA p L := by simp [sumA, hz]
      rw [e, ih, (h z (by simp)).reg.cnt (by omega), ← cnt_or (fun x y hxy => by
        rw [List.any_eq_false]
        intro w hw
        rw [h1 w hw x y hxy]
        simp)]
      exact cnt_congr fun x y => by simp [hz]
    | false =>
      have e : sumA p (z :: L) = sumA p L := by simp [sumA, hz]
      rw [e, ih]
      exact cnt_congr fun x y => by simp [hz]
/-- The law. -/
theorem schemes_law {R : List (List R4)} {nc k : Nat} {L : List Ln} (hR : PcOk R) (h : LsOk R nc k L) (hk : k ≤ 4) (p : Ln → Bool) :
    sumA p L = areaP (canonP (rectsP p L)) ∧ (∀ x ∈ L, p x = true → withinP x.rg (canonP (rectsP p L)) = true) ∧ (∀ x ∈ L, p x = false → meetsP x.rg (canonP (rectsP p L)) = false) := by
  obtain ⟨-, h2, h3⟩ := chosen_reg hR h hk p
  have hv : validP (canonP (rectsP p L)) = true := h2.valid (by omega) (by omega)
  refine ⟨?_, fun x hx hp => ?_, fun x hx hp => ?_⟩
  · rw [h2.cnt (by omega), sum_cnt p L h.ok h.dis]
    exact cnt_congr fun x y => (h3 x y).symm
  · refine within_of (h.ok x hx).reg.ins h2.ins ((h.ok x hx).reg.valid (by omega) (by omega)) hv fun u v huv => ?_
    rw [h3, List.any_eq_true]
    exact ⟨x, hx, by rw [hp, huv]; rfl⟩
  · refine meets_not (h.ok x hx).reg.ins h2.ins fun u v huv => ?_
    rw [h3, List.any_eq_false]
    intro z hz hzz
    rw [Bool.and_eq_true] at hzz
    rcases List.mem_iff_getElem.1 hx with ⟨i, hi, rfl⟩
    rcases List.mem_iff_getElem.1 hz with ⟨j, hj, rfl⟩
    have hd := List.pairwise_iff_getElem.1 h.dis
    rcases Nat.lt_trichotomy i j with h1 | h1 | h1
    · have := hd i j hi hj h1 u v huv
      rw [hzz.2] at this; cases this
    · subst h1
      rw [hp] at hzz; cases hzz.1
    · have := hd j i hj hi h1 u v hzz.2
      rw [huv] at this; cases this
theorem sumA_bd {R : List (List R4)} {nc : Nat} (p : Ln → Bool) (L : List Ln) (h : ∀ x ∈ L, LnOk R nc x) (hd : L.Pairwise fun a b => ∀ u v, inL a.rg u v = true → inL b.rg u v = false) (t : Nat) : 0 ≤ sumA p (L.take t) ∧ sumA p (L.take t) ≤ 900 := by
  rw [sum_cnt p (L.take t) (fun x hx => h x (List.mem_of_mem_take hx)) (hd.sublist (List.take_sublist _ _))]
  exact cnt_bd _
end Go.Proofs.YtglanlpjoaholaaGreat

namespace Go.Proofs.YtglanlpjoaholaaGreat
open Go.RowKit Go.Shelf
set_option linter.unusedVariables false
set_option linter.unusedSimpArgs false

theorem rectsP_rev (p : Ln → Bool) (L : List Ln) (x y : Int) : inL (rectsP p L.reverse) x y = inL (rectsP p L) x y := by rw [rectsP_in, rectsP_in, List.any_reverse]
theorem validL_rev (L : List Ln) : validL L.reverse = validL L := by unfold validL; rw [List.all_reverse]
theorem claimed_rev {L : List Ln} (hv : validL L = true) (s : Int) : claimedP L.reverse s = claimedP L s := by
  have h := canonP_congr _ _ (rectsP_pos (by rw [validL_rev]; exact hv : validL L.reverse = true) (bitP s)) (rectsP_pos hv (bitP s)) (rectsP_rev (bitP s) L)
  unfold claimedP
  rw [List.length_reverse, validL_rev, h]
theorem rest_rev {L : List Ln} (hv : validL L = true) (p : Int) {r : List R4} (hr : ∀ q ∈ r, q.l < q.r) : restCP L.reverse p r = restCP L p r := by
  have h := choose_eq (how := notB) (how' := notB) rfl rfl hr (rectsP_pos (by rw [validL_rev]; exact hv : validL L.reverse = true) (onP p)) hr (rectsP_pos hv (onP p)) (fun x y => by rw [rectsP_rev])
  unfold restCP
  rw [List.length_reverse, validL_rev, h]
theorem rectsP_rev_len {R : List (List R4)} {nc k : Nat} {L : List Ln} (h : LsOk R nc k L) (hk : k ≤ 4) (p : Ln → Bool) : (rectsP p L.reverse).length ≤ 480 := by
  have h1 := rectsP_len p 120 L.reverse fun x hx => (h.ok x (List.mem_reverse.1 hx)).reg.len
  have hl := h.len
  rw [List.length_reverse] at h1
  exact Nat.le_trans h1 (Nat.mul_le_mul_right 120 (by omega : L.length ≤ 4))
/-- What is left of a parcel. -/
theorem left_reg {R : List (List R4)} {nc k : Nat} {L : List Ln} (hR : PcOk R) (h : LsOk R nc k L) (hk : k ≤ 4) (p : Ln → Bool) {i : Nat} (hi : i < R.length) :
    Reg 30 99 (chooseP notB R[i] (rectsP p L)) ∧ ∀ x y, inL (chooseP notB R[i] (rectsP p L)) x y = (inL R[i] x y && !(L.any fun z => p z && inL z.rg x y)) := by
  have hri := (hR.at' i hi).ins (by have := hR.m; omega)
  have hpos := rectsP_pos h.valid p
  have hc := choose_canon notB rfl R[i] (rectsP p L) hri.pos hpos
  have hP : ∀ x y, notB (inL R[i] x y) (inL (rectsP p L) x y) = true → 0 ≤ x ∧ x < 30 ∧ 0 ≤ y ∧ y < 9 := fun x y hxy => by
    unfold notB at hxy
    rw [Bool.and_eq_true] at hxy
    have := (hR.at' i hi).in x y hxy.1
    have := hR.m
    omega
  obtain ⟨X, x1, x2, x3⟩ := h.cut
  have hb := hc.bd 0 30 0 30 (fun x y hxy => by have := hP x y hxy; omega)
  refine ⟨⟨hb, hc.own fun q hq => (hb q hq).2.1, ?_⟩, fun x y => by rw [hc.mem, rectsP_in]; rfl⟩
  have h2 := canon_len hc (X := X) (fun y => Cut.how notB (x3 _ (List.getElem_mem hi) y) (by
    have e : (fun x => inL (rectsP p L) x y) = fun x => L.any fun z => p z && inL z.rg x y := by funext x; rw [rectsP_in]
    rw [e]
    exact cut_anyL L fun x hx => x2 x hx y)) 9 (fun x y hxy => by have := hP x y hxy; omega)
  have h3 : X.length / 2 ≤ 11 := by omega
  have := Nat.mul_le_mul_left 9 h3
  omega
theorem rest_eq {R : List (List R4)} {nc k : Nat} {L : List Ln} (hR : PcOk R) (h : LsOk R nc k L) (hk : k ≤ 4) (p : Int) {i : Nat} (hi : i < R.length) : restCP L p R[i] = (chooseP notB R[i] (rectsP (onP p) L), 0) := by
  obtain ⟨h2, -⟩ := left_reg hR h hk (onP p) hi
  have hl := h.len
  have := h2.len
  have hv : validP R[i] = true := ((hR.at' i hi).reg (by have := hR.m; omega)).valid (by omega) (by omega)
  unfold restCP
  rw [if_neg (by omega), if_pos (by rw [h.valid, hv]; rfl)]
  unfold limP
  rw [if_neg (by omega)]
theorem nums_get (n i : Nat) (h : i < (nums n).length) : (nums n)[i] = (i : Int) + 1 := by simp [nums]
theorem lns_rev (l : LL) : lns l.reverse = (lns l).reverse := by simp [lns]
set_option maxHeartbeats 8000000 in
set_option maxRecDepth 100000 in
theorem orderLaw13 (A : Option Addr) (n c : Nat) (zs : List Int) (sc tu : Int) (w : World) (hn : zs.length = n) (hc : n ≤ c) (hm : c ≤ maxLen) (hw : ∀ z ∈ zs, (Lit.int .i64 z).wf = true) (hA : Lies w A n (zs.map (.int .i64))) (hsc : 0 ≤ sc ∧ sc ≤ 255) (htu : 0 ≤ tu ∧ tu ≤ 255) :
    Calls Tryz.prog 4 #[.slice A n c, .int .u8 sc, .int .u8 tu] w fun e w' => e = .returned (.bool true) ∧ Below w.heap.size w w' := by
  obtain ⟨i2, hi2, hi2z, hl1, hl2⟩ := info_parts Tryz.infoLine
  have HN := Lib.hid (new_any A n c zs w hn hc hm hw hA)
  clear hn hc hm hw hA
  go_enter Tryz.func4, Tryz.ntmps4
  go_wp2_with fail
  refine HN.out.mono ?_
  rintro e w1 ⟨g, rfl, hwg, ht1, hb1⟩
  have Ht1 := Lib.hid ht1
  have Hb1 := Lib.hid hb1
  have hg1 := ht1.lt
  have hs1 := hb1.size
  clear ht1 hb1 HN
  go_wp2_with fail
  refine (crops_any g _ w1 Ht1.out).mono ?_
  rintro e w2 ⟨C, CA, cc, r2, rfl, hC, ht2, hg2, hCl, -⟩
  have Ht2 := Lib.hid ht2
  have Hg2 := Lib.hid hg2
  obtain ⟨nc, hnc⟩ : ∃ nc, C.length = nc := ⟨_, rfl⟩
  rw [hnc] at hCl ⊢
  clear hC ht2 hg2 Ht1 hnc
  go_wp2_with fail
  refine (lines_any g r2 CA nc cc 4 w2 Ht2.out (by omega) (Nat.le_refl _)).mono ?_
  rintro e w3 ⟨L, LA, lc, R, NA, kc, RA, rc, r3, k, rfl, hL, hnu, hRo, -, hg3, hpc, hm1, hok, hk4⟩
  have HSL := Lib.hid hL.sll
  have HSR := Lib.hid hRo.slg
  have HSN : Hid (SlI w3 NA R.length kc (nums R.length)) := Lib.hid (by
    obtain ⟨A', c', e, h1, h2, h3⟩ := own_slice hnu
    injection e with e1 e2 e3
    subst e1 e3
    exact ⟨nums_len _, h2, h3, h1⟩)
  have Hb3 : Hid (Below w.heap.size w w3) := Lib.hid (below_only Hb1.out (only_trans Hg2.out hg3) hwg hs1)
  have Hpc := Lib.hid hpc
  have Hok := Lib.hid hok
  have hLl : L.length ≤ 4 := by have := hok.len; rw [lns_len] at this; omega
  have hR3 : R.length ≤ 3 := by have := hpc.m; rwa [rgs_len] at this
  clear hL hnu hRo hg3 hpc hok Hg2 Ht2 Hb1
  have hs3 := Hb3.out.size
  have hwl : IntKind.i64.wrap ((L.length : Int) - 1) = (L.length : Int) - 1 := IntWalk.i64_in _ (by omega)
  obtain ⟨ln, hln⟩ : ∃ ln, L.length = ln := ⟨_, rfl⟩
  have Hln := Lib.hid hln
  rw [hln] at HSL hLl hwl ⊢
  clear hln
  go_upto_region 4 with fail
  go_wp2_with fail
  go_loopw [11, 12] (fun bv iv wr => ∃ t : Nat, t ≤ ln ∧ iv = .int .i64 ((ln : Int) - 1 - (t : Int)) ∧ wr.ownsRow w3.heap.size 38 4 bv t (lnCells (L.reverse.take t)) ∧ Below w3.heap.size w3 wr) (fun _ iv _ => (intOf iv + 1).toNat)
  case atStart => exact ⟨0, Nat.zero_le _, by simp, World.ownsRow_nil _ _ _ _, Below.refl _ _⟩
  case round =>
    obtain ⟨t, ht, rfl, hown, hbw⟩ := hrel
    have Hown := Lib.hid hown
    have Hbw := Lib.hid hbw
    have hsw := hbw.size
    clear hown hbw
    by_cases htl : t < ln
    · have hge : (0 : Int) ≤ (ln : Int) - 1 - (t : Int) := by omega
      obtain ⟨j, hj⟩ : ∃ j : Nat, ln - 1 - t = j := ⟨_, rfl⟩
      have hji : (ln : Int) - 1 - (t : Int) = (j : Int) := by omega
      have hjl : j < L.length := by have := Hln.out; omega
      have Hrt : Hid (lnCells (L.reverse.take (t + 1)) = lnCells (L.reverse.take t) ++ lnC L[j]) := Lib.hid (by
        have htr : t < L.reverse.length := by rw [List.length_reverse]; have := Hln.out; omega
        rw [List.take_succ_eq_append_getElem htr, lnCells_app, List.getElem_reverse]
        have e : L.length - 1 - t = j := by have := Hln.out; omega
        simp only [e, lnCells, List.flatMap_cons, List.flatMap_nil, List.append_nil])
      rw [hji]
      have hjn : (j : Int) < (ln : Int) := by omega
      have hj0 : (0 : Int) ≤ (j : Int) := by omega
      have hwj : IntKind.i64.wrap ((j : Int) - 1) = (j : Int) - 1 := IntWalk.i64_in _ (by omega)
      obtain ⟨b2, o2, rfl, hb2, g0, g1, g2, g3, -⟩ := (HSL.out.below Hbw.out).at j hjl
      generalize L[j] = y at *
      obtain ⟨⟨ypc, yrg, ycr, ysch⟩, ⟨ya, yc⟩⟩ := y
      dsimp only [lnC] at *
      generalize lnCells (L.reverse.take t) = Q at *
      have Hji := Lib.hid hji
      clear hji hj hge
      go_wp2_with (first
        | (at_builtin
           refine wpList_append_any _ rfl (.tmp 39) (.tmp 44) _ rfl w3.heap.size 38 i2 _ 4 48 Tryz.underlying25 hi2 hi2z hl1 hl2 rfl (by omega) _ t Q rfl
             (Hown.out.alloc _) _ _ 1 1 [.int .i64 ypc, .slice ya yrg.length yc, .int .i64 ycr, .int .i64 ysch] rfl ⟨rfl, fun _ => ⟨_, rfl, Nat.lt_succ_self _, fun j u hu => (by exact news_any _ _ _ j u hu)⟩⟩ (by simp [Value.oneCell']) (by simp only [maxLen]; omega) (by omega) (by simp; omega) ?_
           intro v5 w5 hown5 hg5 hat5)
        | fail)
      go_roundw
      case rel => exact ⟨t + 1, by omega, by rw [show (ln : Int) - 1 - ((t + 1 : Nat) : Int) = (j : Int) - 1 by have := Hji.out; omega], by rw [Hrt.out]; exact hown5, Below.grown (Hbw.out.alloc hsw _) hg5 (by simp; omega) (own_base Hown.out)⟩
      case measure => simp [intOf] <;> omega
    · obtain rfl : t = ln := by omega
      have hge : ¬ (0 : Int) ≤ (t : Int) - 1 - (t : Int) := by omega
      obtain ⟨BA, bc, rfl, h1, h2, h3⟩ := own_slice Hown.out
      rw [List.take_of_length_le (by rw [List.length_reverse]; have := Hln.out; omega)] at h1
      have HSB : Hid (SlL wr BA t bc L.reverse) := Lib.hid ⟨by rw [List.length_reverse]; exact Hln.out, h2, h3, h1, fun x hx => (HSL.out.fits x (List.mem_reverse.1 hx)).below Hbw.out⟩
      obtain ⟨wq, rfl⟩ : ∃ wq : World, wq = wr := ⟨_, rfl⟩
      clear h1 h2 h3 Hown
      have HSLq := Lib.hid (HSL.out.below Hbw.out)
      have HSRq := Lib.hid (HSR.out.below Hbw.out)
      have HSNq := Lib.hid (HSN.out.below Hbw.out)
      have Hb0 := Lib.hid (Hb3.out.trans (Hbw.out.mono hs3))
      have hsq := Hb0.out.size
      clear HSL HSR HSN Hb3 Hbw hsw
      have hmz : ¬ (R.length : Int) = 0 := by omega
      obtain ⟨kq, hkq⟩ : ∃ kq : Nat, tu % (R.length : Int) = (kq : Int) := ⟨(tu % (R.length : Int)).toNat, by have := Int.emod_nonneg tu hmz; omega⟩
      have hkR : kq < R.length := by have := Int.emod_lt_of_pos tu (by omega : (0 : Int) < (R.length : Int)); omega
      have hval := Hok.out.valid
      have Hcr := Lib.hid (chosen_reg Hpc.out Hok.out hk4 (bitP (sc % 4)))
      have hceq := claimed_eq Hpc.out Hok.out hk4 (sc % 4) (by omega)
      have HC1 := Lib.hid (claimed_any LA t lc L (sc % 4) wq HSLq.out (Nat.le_trans Hcr.out.1 (by omega)))
      have HC2 := Lib.hid (fun W (hW : Below wq.heap.size wq W) => claimed_any BA t bc L.reverse (sc % 4) W (HSB.out.below hW) (by rw [lns_rev]; exact Nat.le_trans (rectsP_rev_len Hok.out hk4 _) (by omega)))
      rw [lns_rev, claimed_rev hval, hceq] at HC2
      rw [hceq] at HC1
      clear hceq Hcr
      generalize canonP (rectsP (bitP (sc % 4)) (lns L)) = a at *
      go_upto_region 9 with fail
      rw [hkq]
      clear hkq
      go_wp2_with fail
      refine HC1.out.mono ?_
      rintro e w4 ⟨v4, rfl, hown4, hb4⟩
      dsimp only at hown4 ⊢
      obtain ⟨D1, d1, rfl, hD1⟩ := SlR.of_own hown4
      have HD1 := Lib.hid hD1
      have Hb4 := Lib.hid hb4
      have hs4 := hb4.size
      clear hown4 hb4 hD1 HC1
      go_upto_region 10 with fail
      obtain ⟨w5, hw5⟩ : ∃ w5 : World, w5 = w4.alloc (.cells #[.slice D1 a.length d1] 33) := ⟨_, rfl⟩
      rw [← hw5]
      have HZ1 : Hid (w5.heap[w4.heap.size]? = some (.cells #[.slice D1 a.length d1] 33 (0, 0))) := Lib.hid (by rw [hw5]; exact heap_alloc_new w4 _)
      have HD15 : Hid (SlR w5 D1 a.length d1 a) := Lib.hid (by rw [hw5]; exact HD1.out.alloc _)
      have Hb5 : Hid (Below wq.heap.size wq w5) := Lib.hid (by rw [hw5]; exact Hb4.out.alloc hs4 _)
      have hlZ1 : w4.heap.size < w5.heap.size := by rw [hw5]; simp
      obtain ⟨Z1, hZ1⟩ : ∃ Z, w4.heap.size = Z := ⟨_, rfl⟩
      rw [hZ1] at HZ1 hlZ1 ⊢
      clear hw5 hZ1 HD1 Hb4 hs4
      have hs5 := Hb5.out.size
      go_wp2_with fail
      refine (HC2.out _ Hb5.out).mono ?_
      rintro e w6 ⟨v6, rfl, hown6, hb6⟩
      dsimp only at hown6 ⊢
      obtain ⟨D2, d2, rfl, hD2⟩ := SlR.of_own hown6
      have HD2 := Lib.hid hD2
      have Hb6 := Lib.hid hb6
      have hs6 := hb6.size
      clear hown6 hb6 hD2 HC2
      go_upto_region 11 with fail
      obtain ⟨w7, hw7⟩ : ∃ w7 : World, w7 = w6.alloc (.cells #[.slice D2 a.length d2] 33) := ⟨_, rfl⟩
      rw [← hw7]
      have HZ2 : Hid (w7.heap[w6.heap.size]? = some (.cells #[.slice D2 a.length d2] 33 (0, 0))) := Lib.hid (by rw [hw7]; exact heap_alloc_new w6 _)
      have HD27 : Hid (SlR w7 D2 a.length d2 a) := Lib.hid (by rw [hw7]; exact HD2.out.alloc _)
      have Hb57 : Hid (Below w5.heap.size w5 w7) := Lib.hid (by rw [hw7]; exact Hb6.out.alloc hs6 _)
      have hlZ2 : w6.heap.size < w7.heap.size := by rw [hw7]; simp
      obtain ⟨Z2, hZ2⟩ : ∃ Z, w6.heap.size = Z := ⟨_, rfl⟩
      rw [hZ2] at HZ2 hlZ2 ⊢
      clear hw7 hZ2 HD2 Hb6 hs6
      have HZ17 := Lib.hid ((Hb57.out.block _ hlZ1).trans HZ1.out)
      have HD17 := Lib.hid (HD15.out.below Hb57.out)
      have Hb7 := Lib.hid (Hb5.out.trans (Hb57.out.mono hs5))
      have hs7 := Hb57.out.size
      clear HZ1 HD15 Hb5 Hb57
      obtain ⟨br, or, rfl, hbr, cR, hSk⟩ := HSRq.out.at kq hkR
      obtain ⟨bn, on, rfl, hbn, cN⟩ := HSNq.out.at kq (by rw [nums_len]; exact hkR)
      rw [nums_get] at cN
      have HSk := Lib.hid hSk
      have hreq := rest_eq Hpc.out Hok.out hk4 ((kq : Int) + 1) (i := kq) (by rw [rgs_len]; exact hkR)
      have e2 : (rgs R)[kq]'(by rw [rgs_len]; exact hkR) = R[kq].1 := by simp [rgs]
      rw [e2] at hreq
      clear e2 hSk
      have Hrl := Lib.hid (Nat.le_trans (rectsP_rev_len Hok.out hk4 (onP ((kq : Int) + 1))) (by omega : 480 ≤ 750))
      have Hrl2 := Lib.hid (Nat.le_trans (chosen_reg Hpc.out Hok.out hk4 (onP ((kq : Int) + 1))).1 (by omega : 480 ≤ 750))
      have hpos : ∀ q ∈ R[kq].1, q.l < q.r := by
        have := (Hpc.out.at' kq (by rw [rgs_len]; exact hkR)).ins (by omega)
        have e : (rgs R)[kq]'(by rw [rgs_len]; exact hkR) = R[kq].1 := by simp [rgs]
        rw [e] at this
        exact this.pos
      have hrev := rest_rev hval ((kq : Int) + 1) hpos
      rw [hreq] at hrev
      have HR1 := Lib.hid (fun W (hW : Below wq.heap.size wq W) => restC_any LA t lc L ((kq : Int) + 1) R[kq].2.a R[kq].1.length R[kq].2.c R[kq].1 W (HSLq.out.below hW) (HSk.out.below hW) Hrl2.out)
      have HR2 := Lib.hid (fun W (hW : Below wq.heap.size wq W) => restC_any BA t bc L.reverse ((kq : Int) + 1) R[kq].2.a R[kq].1.length R[kq].2.c R[kq].1 W (HSB.out.below hW) (HSk.out.below hW) (by rw [lns_rev]; exact Hrl.out))
      rw [hreq] at HR1
      rw [lns_rev, hrev] at HR2
      clear hreq hrev hpos Hrl Hrl2 hval
      obtain ⟨b, hb⟩ : ∃ b, chooseP notB R[kq].1 (rectsP (onP ((kq : Int) + 1)) (lns L)) = b := ⟨_, rfl⟩
      rw [hb] at HR1 HR2
      clear hb
      obtain ⟨rk, hrk⟩ : ∃ rk, R[kq] = rk := ⟨_, rfl⟩
      rw [hrk] at cR HR1 HR2
      clear hrk HSk HSRq HSNq HSLq HSB
      have hqR : (kq : Int) < (R.length : Int) := by omega
      have hbr7 : br < w7.heap.size := by have := Hb7.out.size; omega
      have hbn7 : bn < w7.heap.size := by have := Hb7.out.size; omega
      have cR7 : w7.drew.cell? ⟨br, or + kq, none⟩ = some (.slice rk.2.a rk.1.length rk.2.c) := (Hb7.out.cell (p := ⟨br, or + kq, none⟩) hbr).trans cR
      have cN7 : w7.drew.cell? ⟨bn, on + kq, none⟩ = some (.int .i64 ((kq : Int) + 1)) := (Hb7.out.cell (p := ⟨bn, on + kq, none⟩) hbn).trans cN
      have cNa : ∀ o, (w7.alloc o).drew.cell? ⟨bn, on + kq, none⟩ = some (.int .i64 ((kq : Int) + 1)) := fun o => by show (w7.alloc o).cell? _ = _; rw [World.cell?_alloc_lt w7 o _ hbn7]; exact cN7
      have cRa : ∀ o, (w7.alloc o).drew.cell? ⟨br, or + kq, none⟩ = some (.slice rk.2.a rk.1.length rk.2.c) := fun o => by show (w7.alloc o).cell? _ = _; rw [World.cell?_alloc_lt w7 o _ hbr7]; exact cR7
      go_cut [18, 19] (fun s18 s19 wx => ∃ (Z : Nat) (D : Option Addr) (dc : Nat), s18 = .pointer (some ⟨Z, 0, none⟩) ∧ s19 = .int .i64 0 ∧ wx.heap[Z]? = some (.cells #[.slice D b.length dc] 33 (0, 0)) ∧ Z < wx.heap.size ∧ SlR wx D b.length dc b ∧ Below w7.heap.size w7 wx)
      case first =>
        go_region_held3 (fun w' => w'.cell? ⟨bn, on + kq, none⟩ = some (.int .i64 ((kq : Int) + 1)) ∧ w'.cell? ⟨br, or + kq, none⟩ = some (.slice rk.2.a rk.1.length rk.2.c)) (first | with_reducible exact ⟨cN7, cR7⟩ | with_reducible exact ⟨cNa _, cRa _⟩ | with_reducible exact ⟨cNs _, cRs _⟩ | with_reducible exact ⟨cN8a _, cR8a _⟩ | go_keep | ((repeat' apply And.intro) <;> go_keep))
          (first
            | (go_at_call 17
               refine (HR1.out _ (Hb7.out.trans (Below.mono (show Below w7.heap.size w7 _ from (by repeat' (first | with_reducible exact Below.refl _ _ | with_reducible refine below_drewN ?_ _ | with_reducible refine Below.drew ?_ | with_reducible refine Below.alloc ?_ ?_ _ | with_reducible refine Below.setCell ?_ ?_ _ | with_reducible refine Below.trans ?_ (Below.mono (by with_reducible assumption) ?_) | (simp; done) | (simp; omega) | omega))) (by have := Hb7.out.size; omega)))).mono ?_
               rintro e w8 ⟨v8, rfl, hown8, hb8⟩
               dsimp only at hown8 ⊢
               obtain ⟨D3, d3, rfl, hD3⟩ := SlR.of_own hown8
               have HD3 := Lib.hid hD3
               have HO8 := Lib.hid hown8
               have Hb8 : Hid (Below w7.heap.size w7 w8) := Lib.hid (show Below w7.heap.size w7 w8 from (by have hbq := hb8; exact (by repeat' (first | with_reducible exact Below.refl _ _ | with_reducible assumption | with_reducible refine below_drewN ?_ _ | with_reducible refine Below.drew ?_ | with_reducible refine Below.alloc ?_ ?_ _ | with_reducible refine Below.setCell ?_ ?_ _ | with_reducible refine Below.trans ?_ (Below.mono (by with_reducible assumption) ?_) | with_reducible refine below_only ?_ (by with_reducible assumption) ?_ ?_ | (simp; done) | (simp; omega) | omega))))
               have hs8 := Hb8.out.size
               have cR8 := (Hb8.out.cell (p := ⟨br, or + kq, none⟩) hbr7).trans cR7
               have cN8 := (Hb8.out.cell (p := ⟨bn, on + kq, none⟩) hbn7).trans cN7
               have hbn8 : bn < w8.heap.size := by omega
               have hbr8 : br < w8.heap.size := by omega
               have cNs : ∀ v, (w8.setCell ⟨w7.heap.size, 0, none⟩ v).cell? ⟨bn, on + kq, none⟩ = some (.int .i64 ((kq : Int) + 1)) := fun v => by rw [World.cell?_of_block (Below.heap_setCell _ _ _ _ (by show bn ≠ w7.heap.size; omega))]; exact cN8
               have cRs : ∀ v, (w8.setCell ⟨w7.heap.size, 0, none⟩ v).cell? ⟨br, or + kq, none⟩ = some (.slice rk.2.a rk.1.length rk.2.c) := fun v => by rw [World.cell?_of_block (Below.heap_setCell _ _ _ _ (by show br ≠ w7.heap.size; omega))]; exact cR8
               have cN8a : ∀ o, (w8.alloc o).cell? ⟨bn, on + kq, none⟩ = some (.int .i64 ((kq : Int) + 1)) := fun o => by rw [World.cell?_alloc_lt w8 o _ hbn8]; exact cN8
               have cR8a : ∀ o, (w8.alloc o).cell? ⟨br, or + kq, none⟩ = some (.slice rk.2.a rk.1.length rk.2.c) := fun o => by rw [World.cell?_alloc_lt w8 o _ hbr8]; exact cR8
               try (have hl78 : w7.heap.size < w8.heap.size := (by have := hb8.size; simp at this; omega); have hz8 := (hb8.block w7.heap.size (by simp)).trans (heap_alloc_new w7 (.cells #[.slice none 0 0] 33)); have zc8 := cell_of_row w8 w7.heap.size 0 _ _ _ hz8; have zf8 := frozen_of_row w8 w7.heap.size 0 _ _ hz8; have Hz8 := Lib.hid hz8; clear hz8)
               clear hown8 hD3)
            | fail)
        · go_wp2
          go_meet
          case rel => exact ⟨w8.heap.size, D3, d3, rfl, rfl, heap_alloc_new w8 _, by simp, HD3.out.alloc _, Hb8.out.alloc hs8 _⟩
        · go_wp2
          go_meet
          case rel =>
            have hss := heap_setCell_same w8 w7.heap.size 0 _ _ (.slice D3 b.length d3) Hz8.out
            have hlow := own_base HO8.out
            refine ⟨w7.heap.size, D3, d3, rfl, rfl, by simpa using hss, by simp; omega, ?_, Hb8.out.setCell (Nat.le_refl _) _⟩
            obtain ⟨D4, d4, e4, hS4⟩ := SlR.of_own (own_setNe HO8.out (p := ⟨w7.heap.size, 0, none⟩) (fun q hq => by have := hlow q hq; simp at this; show q ≠ w7.heap.size; omega) (.slice D3 b.length d3))
            injection e4 with e4 e5 e6
            subst e4 e6
            exact hS4
      case rest =>
        obtain ⟨w9, rfl⟩ : ∃ w9 : World, w9 = wc := ⟨_, rfl⟩
        obtain ⟨Z3, D3, d3, rfl, rfl, hZ3, hlZ3, hD3, hb9⟩ := hcut
        have HZ3 := Lib.hid hZ3
        have HD39 := Lib.hid hD3
        have hs79 := hb9.size
        have HZ19 := Lib.hid ((hb9.block _ (by omega)).trans HZ17.out)
        have HZ29 := Lib.hid ((hb9.block _ hlZ2).trans HZ2.out)
        have HD19 := Lib.hid (HD17.out.below hb9)
        have HD29 := Lib.hid (HD27.out.below hb9)
        have Hb79 := Lib.hid (Hb7.out.trans (hb9.mono (by have := Hb7.out.size; omega)))
        clear hZ3 hD3 hb9 HZ17 HZ2 HD17 HD27 cR7 cN7 cNa cRa HR1 hbr7 hbn7
        have hbr9 : br < w9.heap.size := by have := Hb79.out.size; omega
        have hbn9 : bn < w9.heap.size := by have := Hb79.out.size; omega
        have cR9 : w9.drew.cell? ⟨br, or + kq, none⟩ = some (.slice rk.2.a rk.1.length rk.2.c) := (Hb79.out.cell (p := ⟨br, or + kq, none⟩) hbr).trans cR
        have cN9 : w9.drew.cell? ⟨bn, on + kq, none⟩ = some (.int .i64 ((kq : Int) + 1)) := (Hb79.out.cell (p := ⟨bn, on + kq, none⟩) hbn).trans cN
        have cNb : ∀ o, (w9.alloc o).drew.cell? ⟨bn, on + kq, none⟩ = some (.int .i64 ((kq : Int) + 1)) := fun o => by show (w9.alloc o).cell? _ = _; rw [World.cell?_alloc_lt w9 o _ hbn9]; exact cN9
        have cRb : ∀ o, (w9.alloc o).drew.cell? ⟨br, or + kq, none⟩ = some (.slice rk.2.a rk.1.length rk.2.c) := fun o => by show (w9.alloc o).cell? _ = _; rw [World.cell?_alloc_lt w9 o _ hbr9]; exact cR9
        go_upto_region 12 with fail
        go_cut [20, 21] (fun s20 s21 wx => ∃ (Z : Nat) (D : Option Addr) (dc : Nat), s20 = .pointer (some ⟨Z, 0, none⟩) ∧ s21 = .int .i64 0 ∧ wx.heap[Z]? = some (.cells #[.slice D b.length dc] 33 (0, 0)) ∧ Z < wx.heap.size ∧ SlR wx D b.length dc b ∧ Below w9.heap.size w9 wx)
        case first =>
          go_region_held3 (fun w' => w'.cell? ⟨bn, on + kq, none⟩ = some (.int .i64 ((kq : Int) + 1)) ∧ w'.cell? ⟨br, or + kq, none⟩ = some (.slice rk.2.a rk.1.length rk.2.c)) (first | with_reducible exact ⟨cN9, cR9⟩ | with_reducible exact ⟨cNb _, cRb _⟩ | with_reducible exact ⟨cNt _, cRt _⟩ | with_reducible exact ⟨cNAa _, cRAa _⟩ | go_keep | ((repeat' apply And.intro) <;> go_keep))
            (first
              | (go_at_call 17
                 refine (HR2.out _ (Hb79.out.trans (Below.mono (show Below w9.heap.size w9 _ from (by repeat' (first | with_reducible exact Below.refl _ _ | with_reducible refine below_drewN ?_ _ | with_reducible refine Below.drew ?_ | with_reducible refine Below.alloc ?_ ?_ _ | with_reducible refine Below.setCell ?_ ?_ _ | with_reducible refine Below.trans ?_ (Below.mono (by with_reducible assumption) ?_) | (simp; done) | (simp; omega) | omega))) (by have := Hb79.out.size; omega)))).mono ?_
                 rintro e wA ⟨vA, rfl, hownA, hbA⟩
                 dsimp only at hownA ⊢
                 obtain ⟨D5, d5, rfl, hD5⟩ := SlR.of_own hownA
                 have HD5 := Lib.hid hD5
                 have HOA := Lib.hid hownA
                 have HbA : Hid (Below w9.heap.size w9 wA) := Lib.hid (show Below w9.heap.size w9 wA from (by have hbq := hbA; exact (by repeat' (first | with_reducible exact Below.refl _ _ | with_reducible assumption | with_reducible refine below_drewN ?_ _ | with_reducible refine Below.drew ?_ | with_reducible refine Below.alloc ?_ ?_ _ | with_reducible refine Below.setCell ?_ ?_ _ | with_reducible refine Below.trans ?_ (Below.mono (by with_reducible assumption) ?_) | with_reducible refine below_only ?_ (by with_reducible assumption) ?_ ?_ | (simp; done) | (simp; omega) | omega))))
                 have hsA := HbA.out.size
                 have cRA := (HbA.out.cell (p := ⟨br, or + kq, none⟩) hbr9).trans cR9
                 have cNA := (HbA.out.cell (p := ⟨bn, on + kq, none⟩) hbn9).trans cN9
                 have hbnA : bn < wA.heap.size := by omega
                 have hbrA : br < wA.heap.size := by omega
                 have cNt : ∀ v, (wA.setCell ⟨w9.heap.size, 0, none⟩ v).cell? ⟨bn, on + kq, none⟩ = some (.int .i64 ((kq : Int) + 1)) := fun v => by rw [World.cell?_of_block (Below.heap_setCell _ _ _ _ (by show bn ≠ w9.heap.size; omega))]; exact cNA
                 have cRt : ∀ v, (wA.setCell ⟨w9.heap.size, 0, none⟩ v).cell? ⟨br, or + kq, none⟩ = some (.slice rk.2.a rk.1.length rk.2.c) := fun v => by rw [World.cell?_of_block (Below.heap_setCell _ _ _ _ (by show br ≠ w9.heap.size; omega))]; exact cRA
                 have cNAa : ∀ o, (wA.alloc o).cell? ⟨bn, on + kq, none⟩ = some (.int .i64 ((kq : Int) + 1)) := fun o => by rw [World.cell?_alloc_lt wA o _ hbnA]; exact cNA
                 have cRAa : ∀ o, (wA.alloc o).cell? ⟨br, or + kq, none⟩ = some (.slice rk.2.a rk.1.length rk.2.c) := fun o => by rw [World.cell?_alloc_lt wA o _ hbrA]; exact cRA
                 try (have hl9A : w9.heap.size < wA.heap.size := (by have := hbA.size; simp at this; omega); have hzA := (hbA.block w9.heap.size (by simp)).trans (heap_alloc_new w9 (.cells #[.slice none 0 0] 33)); have zcA := cell_of_row wA w9.heap.size 0 _ _ _ hzA; have zfA := frozen_of_row wA w9.heap.size 0 _ _ hzA; have HzA := Lib.hid hzA; clear hzA)
                 clear hownA hD5)
              | fail)
          · go_wp2
            go_meet
            case rel => exact ⟨wA.heap.size, D5, d5, rfl, rfl, heap_alloc_new wA _, by simp, HD5.out.alloc _, HbA.out.alloc hsA _⟩
          · go_wp2
            go_meet
            case rel =>
              have hss := heap_setCell_same wA w9.heap.size 0 _ _ (.slice D5 b.length d5) HzA.out
              have hlow := own_base HOA.out
              refine ⟨w9.heap.size, D5, d5, rfl, rfl, by simpa using hss, by simp; omega, ?_, HbA.out.setCell (Nat.le_refl _) _⟩
              obtain ⟨D6, d6, e7, hS6⟩ := SlR.of_own (own_setNe HOA.out (p := ⟨w9.heap.size, 0, none⟩) (fun q hq => by have := hlow q hq; simp at this; show q ≠ w9.heap.size; omega) (.slice D5 b.length d5))
              injection e7 with e7 e5 e6
              subst e7 e6
              exact hS6
        case rest =>
          obtain ⟨wB, rfl⟩ : ∃ wB : World, wB = wc := ⟨_, rfl⟩
          obtain ⟨Z4, D5, d5, rfl, rfl, hZ4, hlZ4, hD5, hbB⟩ := hcut
          have z1 := cell_of_row wB Z1 0 _ _ _ ((hbB.block _ (by omega)).trans HZ19.out)
          have z2 := cell_of_row wB Z2 0 _ _ _ ((hbB.block _ (by omega)).trans HZ29.out)
          have z3 := cell_of_row wB Z3 0 _ _ _ ((hbB.block _ hlZ3).trans HZ3.out)
          have z4 := cell_of_row wB Z4 0 _ _ _ hZ4
          have HSa := Lib.hid (fun W (hW : Below wB.heap.size wB W) => sameRef_any D1 D2 a.length d1 a.length d2 a a W ((HD19.out.below hbB).below hW) ((HD29.out.below hbB).below hW))
          have HSb := Lib.hid (fun W (hW : Below wB.heap.size wB W) => sameRef_any D3 D5 b.length d3 b.length d5 b b W ((HD39.out.below hbB).below hW) (hD5.below hW))
          rw [decide_eq_true rfl] at HSa HSb
          have HbB := Lib.hid (Hb79.out.trans (hbB.mono (by have := Hb79.out.size; omega)))
          have hlZ3B : Z3 < wB.heap.size := by have := hbB.size; omega
          clear hZ4 hD5 hbB HZ19 HZ29 HZ3 HD19 HD29 HD39
          go_wp2_with (first
            | (go_at_call_of 18 (Value.agg #[.slice D1 a.length d1])
               refine (HSa.out _ (Below.refl _ _)).mono ?_
               rintro e wC ⟨rfl, hbC⟩
               have z3C := (hbC.cell (p := ⟨Z3, 0, none⟩) hlZ3B).trans z3
               have z4C := (hbC.cell (p := ⟨Z4, 0, none⟩) hlZ4).trans z4
               have HbC := Lib.hid hbC
               clear hbC)
            | (go_at_call 18
               refine (HSb.out _ HbC.out).mono ?_
               rintro e wD ⟨rfl, hbD⟩
               have HbD := Lib.hid (HbC.out.trans (hbD.mono HbC.out.size))
               clear hbD)
            | (go_at_call 16
               refine (awake13_any _).mono ?_
               rintro e wE ⟨rfl, hbE⟩
               have HbE := Lib.hid (HbD.out.trans (hbE.mono HbD.out.size))
               clear hbE)
            | fail)
          go_ret
          exact ⟨rfl, Hb0.out.trans ((HbB.out.trans (HbE.out.mono HbB.out.size)).mono hsq)⟩
end Go.Proofs.YtglanlpjoaholaaGreat

namespace Go.Proofs.YtglanlpjoaholaaGreat
open Go.RowKit Go.Shelf
set_option linter.unusedVariables false
set_option linter.unusedSimpArgs false

/-- Lines that lie in a world. -/
abbrev LS (w : World) := { x : Ln × LV // SlR w x.2.a x.1.rg.length x.2.c x.1.rg }
instance (w : World) : Inhabited (LS w) := ⟨⟨(⟨0, [], 0, 0⟩, ⟨none, 0⟩), SlR.nil w⟩⟩
def lsOf {w : World} {l : LL} (h : ∀ x ∈ l, SlR w x.2.a x.1.rg.length x.2.c x.1.rg) : List (LS w) := l.attach.map fun x => ⟨x.1, h x.1 x.2⟩
theorem lsOf_len {w : World} {l : LL} (h : ∀ x ∈ l, SlR w x.2.a x.1.rg.length x.2.c x.1.rg) : (lsOf h).length = l.length := by simp [lsOf]
theorem lsOf_get {w : World} {l : LL} (h : ∀ x ∈ l, SlR w x.2.a x.1.rg.length x.2.c x.1.rg) (j : Nat) (hj : j < l.length) : ((lsOf h)[j]'(by rw [lsOf_len]; exact hj)).1 = l[j] := by simp [lsOf]
theorem lsOf_any {w : World} {l : LL} (h : ∀ x ∈ l, SlR w x.2.a x.1.rg.length x.2.c x.1.rg) (q : Ln × LV → Bool) : (lsOf h).any (fun x => q x.1) = l.any q := by
  rw [Bool.eq_iff_iff, List.any_eq_true, List.any_eq_true]
  constructor
  · rintro ⟨x, hx, hq⟩
    obtain ⟨y, hy, rfl⟩ := List.mem_map.1 hx
    exact ⟨y.1, y.2, hq⟩
  · rintro ⟨x, hx, hq⟩
    exact ⟨⟨x, h x hx⟩, List.mem_map.2 ⟨⟨x, hx⟩, List.mem_attach _ _, rfl⟩, hq⟩

set_option maxHeartbeats 1000000 in
theorem containsL_any (p : Ln × LV → Bool) (f : Nat) (lb : Array Value) (eg : ∀ args w, (callFunc f args).run Tryz.prog w = .ok (.enter f args) w) (A : Option Addr) (n c : Nat) (l : LL) (w : World) (hA : SlL w A n c l)
    (hp : PredBelow Tryz.prog f lb (fun x : LS w => .agg (lnC x.1).toArray) (fun x => p x.1) w) :
    Calls Tryz.prog 49 #[.slice A n c, .func (.func f) #[] lb] w fun e w' => e = .returned (.bool (l.any p)) ∧ Below w.heap.size w w' := by
  have hx := hA.len
  have hn := Nat.le_trans hA.cap hA.top
  unfold maxLen at hn
  rcases Nat.eq_zero_or_pos n with h0 | h0
  · subst h0
    obtain rfl : l = [] := List.length_eq_zero_iff.1 hx
    clear hA hp eg
    go_enter Tryz.func49, Tryz.ntmps49
    go_wp2
    go_loop [8] (fun i => i = .int .i64 0) (fun _ => 0)
    case atStart => rfl
    case round =>
      subst hrel
      go_wp2
      go_ret
      exact ⟨rfl, Below.refl _ _⟩
  · obtain ⟨b1, o1, rfl, hb1, hc1⟩ := hA.lies.resolve_left (by omega)
    have hgl := lsOf_len hA.fits
    refine (AnyQ.slices_ContainsFunc Tryz.layContainsLine 4 Tryz.isAgg38 Tryz.sizeOf38 (fun x : LS w => lnC x.1) (fun _ => rfl) (fun x => p x.1) f lb eg b1 o1 n c (lsOf hA.fits) w hp (by omega) (by omega) hb1 ?_).mono ?_
    · intro j hj i v hv
      have hj' : j < l.length := by omega
      rw [getElem!_pos (lsOf hA.fits) j (by omega), lsOf_get hA.fits j hj'] at hv
      obtain ⟨h0, h1, h2, h3⟩ := lnCells_at l j hj'
      have hi : i < 4 := by
        rcases Nat.lt_or_ge i 4 with h | h
        · exact h
        · rw [List.getElem?_eq_none (by simpa [lnC] using h)] at hv; cases hv
      rcases (show i = 0 ∨ i = 1 ∨ i = 2 ∨ i = 3 by omega) with rfl | rfl | rfl | rfl
      · simp [lnC] at hv; subst hv; exact hc1 _ _ h0
      · simp [lnC] at hv; subst hv; rw [Nat.add_assoc]; exact hc1 _ _ h1
      · simp [lnC] at hv; subst hv; rw [Nat.add_assoc]; exact hc1 _ _ h2
      · simp [lnC] at hv; subst hv; rw [Nat.add_assoc]; exact hc1 _ _ h3
    · rintro e w' ⟨rfl, hb⟩
      rw [List.take_of_length_le (by omega), lsOf_any hA.fits p]
      exact ⟨rfl, hb⟩

set_option maxHeartbeats 1000000 in
theorem meetPred (T : Nat) (x : Ln) (v : LV) (w : World) (hT : w.cell? ⟨T, 1, none⟩ = some (.slice v.a x.rg.length v.c)) (hlT : T < w.heap.size) (hx : SlR w v.a x.rg.length v.c x.rg) :
    PredBelow Tryz.prog 50 #[.pointer (some ⟨T, 0, none⟩)] (fun y : LS w => .agg (lnC y.1).toArray) (fun y => meetsP x.rg y.1.1.rg) w := by
  intro W y hb
  obtain ⟨⟨⟨pc, rg, cr, sch⟩, ⟨ya, yc⟩⟩, hy⟩ := y
  dsimp only at hy ⊢
  refine Calls.mono (show Calls Tryz.prog 50 #[.agg #[.int .i64 pc, .slice ya rg.length yc, .int .i64 cr, .int .i64 sch], .pointer (some ⟨T, 0, none⟩)] W fun e w' => e = .returned (.bool (meetsP x.rg rg)) ∧ Below W.heap.size W w' from ?_) ?_
  · have HM := Lib.hid (fun W' (hW : Below W.heap.size W W') => meets_any v.a ya x.rg.length v.c rg.length yc x.rg rg W' ((hx.below hb).below hW) ((hy.below hb).below hW))
    have t1 := (hb.cell (p := ⟨T, 1, none⟩) hlT).trans hT
    have hlW : T < W.heap.size := Nat.lt_of_lt_of_le hlT hb.size
    generalize meetsP x.rg rg = res at *
    clear hx hy hT
    go_enter Tryz.func50, Tryz.ntmps50
    go_wp2_with (first | (go_at_call 51; refine (HM.out _ (by repeat' (first | with_reducible exact Below.refl _ _ | with_reducible refine below_drewN ?_ _ | with_reducible refine Below.drew ?_ | with_reducible refine Below.alloc ?_ ?_ _ | with_reducible refine Below.setCell ?_ ?_ _ | with_reducible refine Below.trans ?_ (Below.mono (by with_reducible assumption) ?_) | (simp; done) | (simp; omega) | omega))).mono ?_; rintro e w1 ⟨rfl, hb1⟩) | fail)
    go_ret
    exact ⟨rfl, (by repeat' (first | with_reducible exact Below.refl _ _ | with_reducible assumption | with_reducible refine below_drewN ?_ _ | with_reducible refine Below.drew ?_ | with_reducible refine Below.alloc ?_ ?_ _ | with_reducible refine Below.setCell ?_ ?_ _ | with_reducible refine Below.trans ?_ (Below.mono (by with_reducible assumption) ?_) | with_reducible refine below_only ?_ (by with_reducible assumption) ?_ ?_ | (simp; done) | (simp; omega) | omega))⟩
  · rintro e w' ⟨rfl, h⟩
    exact ⟨rfl, hb.trans (h.mono hb.size)⟩
theorem SlL.take {w : World} {A : Option Addr} {n c : Nat} {l : LL} (h : SlL w A n c l) {k : Nat} (hk : k ≤ n) : SlL w A k c (l.take k) := by
  refine ⟨by rw [List.length_take, h.len]; omega, Nat.le_trans hk h.cap, h.top, ?_, fun x hx => h.fits x (List.mem_of_mem_take hx)⟩
  rcases h.lies with h0 | ⟨b, off, e, hb, hc⟩
  · exact .inl (by omega)
  · refine .inr ⟨b, off, e, hb, fun j u hu => hc j u ?_⟩
    have e2 : lnCells l = lnCells (l.take k) ++ lnCells (l.drop k) := by rw [← lnCells_app, List.take_append_drop]
    have hj : j < (lnCells (l.take k)).length := by
      rcases Nat.lt_or_ge j (lnCells (l.take k)).length with h1 | h1
      · exact h1
      · rw [List.getElem?_eq_none h1] at hu; cases hu
    rw [e2, List.getElem?_append_left hj]
    exact hu

set_option maxHeartbeats 8000000 in
set_option maxRecDepth 100000 in
theorem allC_any (LA : Option Addr) (n lc : Nat) (l : LL) (NA : Option Addr) (m kc : Nat) (N : List Int) (RA : Option Addr) (rc : Nat) (R : RL) (CA : Option Addr) (q cc : Nat) (C : List Cp) (mask : Int) (w : World) (hL : SlL w LA n lc l) (hP : PcV w NA m kc N RA rc R CA q cc C) (hf : ∀ x ∈ l, LnFine N R q mask x.1) (hn : n ≤ 20) (t0 : Nat) (ht0 : t0 ≤ n)
    (hcl : ∀ i (h : i < l.length), i < t0 → (l.take i).any (fun y => meetsP l[i].1.rg y.1.rg) = false) (hend : t0 = n ∨ ∃ h : t0 < l.length, (l.take t0).any (fun y => meetsP l[t0].1.rg y.1.rg) = true) (r1 r2 : Int) (hr : r1 = (if t0 = n then -1 else (t0 : Int)) ∧ r2 = (if t0 = n then 0 else 11)) :
    Calls Tryz.prog 19 #[.slice LA n lc, .slice NA m kc, .slice RA m rc, .slice CA q cc, .int .i64 mask] w fun e w' => e = .returned (.tuple #[.int .i64 r1, .int .i64 r2]) ∧ Below w.heap.size w w' := by
  have hlen := hL.len
  have HL := Lib.hid hL
  have HP := Lib.hid hP
  have Hf := Lib.hid hf
  have Hcl := Lib.hid hcl
  have Hend := Lib.hid hend
  have Hr := Lib.hid hr
  have eg : ∀ args w, (callFunc 50 args).run Tryz.prog w = .ok (.enter 50 args) w := enters_of Tryz.func50 (by kernel_rfl) rfl
  have Eg := Lib.hid eg
  clear hL hP hf hcl hend hr eg
  have hbig : ¬ (20 : Int) < (n : Int) := by omega
  go_enter Tryz.func19, Tryz.ntmps19
  go_upto_region 4 with fail
  obtain ⟨wa, hwa⟩ : ∃ wa : World, wa = w.alloc (.cells #[.slice NA m kc, .slice RA m rc, .slice CA q cc, .int .i64 mask] 77) := ⟨_, rfl⟩
  rw [← hwa]
  have HB : Hid (wa.heap[w.heap.size]? = some (.cells #[.slice NA m kc, .slice RA m rc, .slice CA q cc, .int .i64 mask] 77 (0, 0))) := Lib.hid (by rw [hwa]; exact heap_alloc_new w _)
  have Hba : Hid (Below w.heap.size w wa) := Lib.hid (by rw [hwa]; exact (by repeat' (first | with_reducible exact Below.refl _ _ | with_reducible refine below_drewN ?_ _ | with_reducible refine Below.drew ?_ | with_reducible refine Below.alloc ?_ ?_ _ | with_reducible refine Below.setCell ?_ ?_ _ | with_reducible refine Below.trans ?_ (Below.mono (by with_reducible assumption) ?_) | (simp; done) | (simp; omega) | omega)))
  have hla : w.heap.size < wa.heap.size := by rw [hwa]; simp
  obtain ⟨P, hPe⟩ : ∃ P, w.heap.size = P := ⟨_, rfl⟩
  have HLa := Lib.hid (HL.out.below Hba.out)
  have HPa := Lib.hid (HP.out.below Hba.out)
  have Hba0 := Lib.hid Hba.out
  have hla0 : w.heap.size ≤ wa.heap.size := Nat.le_of_lt hla
  rw [hPe] at HB hla ⊢
  clear hwa hPe HL HP Hba
  go_wp2_with fail
  go_loopw [13, 15, 26] (fun _ _ iv wr => ∃ k : Nat, k ≤ n ∧ k ≤ t0 ∧ iv = .int .i64 (k : Int) ∧ Below wa.heap.size wa wr) (fun _ _ iv _ => n - (intOf iv).toNat)
  case atStart => exact ⟨0, Nat.zero_le _, Nat.zero_le _, rfl, Below.refl _ _⟩
  case round =>
    obtain ⟨k, hk, hkt, rfl, hbw⟩ := hrel
    have Hbw := Lib.hid hbw
    have hsw := hbw.size
    have HBr := Lib.hid ((hbw.block _ hla).trans HB.out)
    clear hbw
    by_cases hkn : k < n
    · have hkn' : (k : Int) < (n : Int) := by omega
      have hkl : k < l.length := by omega
      have Hfk := Lib.hid (Hf.out l[k] (List.getElem_mem hkl))
      have Hck := Lib.hid (fun h : k < t0 => Hcl.out k hkl h)
      have Hek : Hid (k = t0 → (l.take k).any (fun y => meetsP l[k].1.rg y.1.rg) = true) := Lib.hid (fun h => by
        subst h
        rcases Hend.out with h1 | ⟨h1, h2⟩
        · omega
        · exact h2)
      have HTk := Lib.hid ((HLa.out.below Hbw.out).take hk)
      obtain ⟨b2, o2, hA2, hb2, g0, g1, g2, g3, hS⟩ := (HLa.out.below Hbw.out).at k hkl
      have HS := Lib.hid hS
      clear hS
      generalize l[k] = y at *
      obtain ⟨⟨ypc, yrg, ycr, ysch⟩, ⟨ya, yc⟩⟩ := y
      dsimp only at *
      generalize l.take k = lk at *
      subst hA2
      have hrow := heap_alloc_new wr (.cells #[.int .i64 ypc, .slice ya yrg.length yc, .int .i64 ycr, .int .i64 ysch] 38)
      have Hb6 : Hid (Below wr.heap.size wr (wr.alloc (.cells #[.int .i64 ypc, .slice ya yrg.length yc, .int .i64 ycr, .int .i64 ysch] 38))) := Lib.hid (by repeat' (first | with_reducible exact Below.refl _ _ | with_reducible refine below_drewN ?_ _ | with_reducible refine Below.drew ?_ | with_reducible refine Below.alloc ?_ ?_ _ | with_reducible refine Below.setCell ?_ ?_ _ | with_reducible refine Below.trans ?_ (Below.mono (by with_reducible assumption) ?_) | (simp; done) | (simp; omega) | omega))
      have hlb : wr.heap.size < (wr.alloc (.cells #[.int .i64 ypc, .slice ya yrg.length yc, .int .i64 ycr, .int .i64 ysch] 38)).heap.size := by simp
      go_upto_region 7 with fail
      obtain ⟨T, hT⟩ : ∃ T, wr.heap.size = T := ⟨_, rfl⟩
      rw [hT] at hrow hlb ⊢
      generalize wr.alloc (.cells #[.int .i64 ypc, .slice ya yrg.length yc, .int .i64 ycr, .int .i64 ysch] 38) = wb at *
      have t0' := cell_of_row wb T 0 _ _ _ hrow
      have t1' := cell_of_row wb T 1 _ _ _ hrow
      have t2' := cell_of_row wb T 2 _ _ _ hrow
      have t3' := cell_of_row wb T 3 _ _ _ hrow
      have hPr : P < wr.heap.size := by omega
      have hrP := (Hb6.out.block _ hPr).trans HBr.out
      have p0 := cell_of_row wb P 0 _ _ _ hrP
      have p1 := cell_of_row wb P 1 _ _ _ hrP
      have p2 := cell_of_row wb P 2 _ _ _ hrP
      have p3 := cell_of_row wb P 3 _ _ _ hrP
      have Hbab := Lib.hid (Hbw.out.trans (Hb6.out.mono hsw))
      have hsb := Hb6.out.size
      have Hrow := Lib.hid hrow
      have HPl := Lib.hid (pline_any NA m kc N RA rc R CA q cc C mask ⟨ypc, yrg, ycr, ysch⟩ ⟨ya, yc⟩ wb (HPa.out.below Hbab.out) (HS.out.below Hb6.out) 0 (.inl ⟨rfl, Hfk.out⟩))
      clear g0 g1 g2 g3 hrow hrP hT
      go_wp2_with fail
      refine HPl.out.mono ?_
      rintro e w5 ⟨rfl, hb5⟩
      have Hb5 := Lib.hid hb5
      have hs5 := hb5.size
      have t15 := cell_of_row w5 T 1 _ _ _ ((hb5.block _ hlb).trans Hrow.out)
      have hlT5 : T < w5.heap.size := by omega
      have Hb65 := Lib.hid (Hb6.out.trans (hb5.mono hsb))
      have HCo := Lib.hid (containsL_any (fun y => meetsP yrg y.1.rg) 50 #[.pointer (some ⟨T, 0, none⟩)] Eg.out (some ⟨b2, o2, none⟩) k lc lk w5 (HTk.out.below Hb65.out) (meetPred T ⟨ypc, yrg, ycr, ysch⟩ ⟨ya, yc⟩ w5 t15 hlT5 (HS.out.below Hb65.out)))
      clear t0' t1' t2' t3' p0 p1 p2 p3 hb5 HPl
      have hkc : k ≤ lc := HTk.out.cap
      have hkc' : (k : Int) ≤ (lc : Int) := by omega
      have hkc0 : ¬ (k : Int) < 0 := by omega
      by_cases hkt0 : k < t0
      · rw [Hck.out hkt0] at HCo
        go_wp2_with (first | (go_at_call 49; refine HCo.out.mono ?_; rintro e w6 ⟨rfl, hb6⟩) | fail)
        go_roundw
        case rel => exact ⟨k + 1, by omega, by omega, by go_num, Hbw.out.trans ((Hb65.out.trans (hb6.mono (by omega))).mono hsw)⟩
        case measure => simp [intOf]; omega
      · have hkt1 : k = t0 := by omega
        rw [Hek.out hkt1] at HCo
        have hr1 : r1 = (k : Int) := by rw [Hr.out.1, if_neg (by omega), hkt1]
        have hr2 : r2 = 11 := by rw [Hr.out.2, if_neg (by omega)]
        have Hr1 := Lib.hid hr1
        have Hr2 := Lib.hid hr2
        clear hkt1 hr1 hr2
        go_wp2_with (first | (go_at_call 49; refine HCo.out.mono ?_; rintro e w6 ⟨rfl, hb6⟩) | fail)
        refine bodyPost_ret (v := .tuple #[.int .i64 (k : Int), .int .i64 11]) (by simp [results, Tryz.results19, go_sem, *]) rfl ?_
        exact ⟨by rw [Hr1.out, Hr2.out], Hba0.out.trans ((Hbw.out.trans ((Hb65.out.trans (hb6.mono (by omega))).mono hsw)).mono hla0)⟩
    · have hkn' : ¬ (k : Int) < (n : Int) := by omega
      have Hr1 : Hid (r1 = -1) := Lib.hid (by rw [Hr.out.1, if_pos (by omega)])
      have Hr2 : Hid (r2 = 0) := Lib.hid (by rw [Hr.out.2, if_pos (by omega)])
      go_wp2
      refine bodyPost_ret (v := .tuple #[.int .i64 (-1), .int .i64 0]) (by simp [results, Tryz.results19, go_sem, *]) rfl ?_
      exact ⟨by rw [Hr1.out, Hr2.out], Hba0.out.trans (Hbw.out.mono hla0)⟩

def cropB (i : Nat) : ByteArray := match i with
  | 0 => ⟨#[98, 97, 114, 108, 101, 121]⟩
  | 1 => ⟨#[99, 108, 111, 118, 101, 114]⟩
  | 2 => ⟨#[103, 114, 97, 115, 115]⟩
  | 3 => ⟨#[109, 97, 105, 122, 101]⟩
  | 4 => ⟨#[111, 97, 116, 115]⟩
  | 5 => ⟨#[114, 121, 101]⟩
  | 6 => ⟨#[118, 101, 116, 99, 104]⟩
  | 7 => ⟨#[119, 104, 101, 97, 116]⟩
  | _ => ⟨#[]⟩
theorem cropN_B (i : Nat) (h : i < 8) : cropN i = .string (cropB i) := by
  rcases (show i = 0 ∨ i = 1 ∨ i = 2 ∨ i = 3 ∨ i = 4 ∨ i = 5 ∨ i = 6 ∨ i = 7 by omega) with rfl | rfl | rfl | rfl | rfl | rfl | rfl | rfl <;> rfl
theorem cropB_letters (i : Nat) (h : i < 8) : lettersB (cropB i) = true := by
  rcases (show i = 0 ∨ i = 1 ∨ i = 2 ∨ i = 3 ∨ i = 4 ∨ i = 5 ∨ i = 6 ∨ i = 7 by omega) with rfl | rfl | rfl | rfl | rfl | rfl | rfl | rfl <;> decide
theorem cropB_less (i : Nat) (h : i + 1 < 8) : leqS (cropB (i + 1)) (cropB i) = false := by
  rcases (show i = 0 ∨ i = 1 ∨ i = 2 ∨ i = 3 ∨ i = 4 ∨ i = 5 ∨ i = 6 by omega) with rfl | rfl | rfl | rfl | rfl | rfl | rfl <;> decide +kernel
def cpK : Nat → List (Int × Int) → List Cp
  | _, [] => []
  | i, x :: t => ⟨cropB i, x.1, x.2⟩ :: cpK (i + 1) t
theorem cpK_len : ∀ (l : List (Int × Int)) (i : Nat), (cpK i l).length = l.length
  | [], _ => rfl
  | x :: t, i => by simp [cpK, cpK_len t]
theorem cpK_get : ∀ (l : List (Int × Int)) (i j : Nat) (h : j < l.length), (cpK i l)[j]'(by rw [cpK_len]; exact h) = ⟨cropB (i + j), l[j].1, l[j].2⟩
  | x :: t, i, 0, _ => by simp [cpK]
  | x :: t, i, j + 1, h => by
    have := cpK_get t (i + 1) j (by simpa using h)
    simp only [cpK, List.getElem_cons_succ]
    rw [this, show i + 1 + j = i + (j + 1) by omega]
theorem cpK_cells : ∀ (l : List (Int × Int)) (i : Nat), i + l.length ≤ 8 → cpFrom i l = kCells (cpK i l)
  | [], _, _ => rfl
  | x :: t, i, h => by
    have ih := cpK_cells t (i + 1) (by simp at h; omega)
    have e : kCells (cpK i (x :: t)) = [.string (cropB i), .int .i64 x.1, .int .i64 x.2] ++ kCells (cpK (i + 1) t) := by simp [kCells, cpK]
    rw [e, ← ih]
    simp only [cpFrom, cpC]
    rw [cropN_B i (by simp at h; omega)]
theorem cpK_ok (l : List (Int × Int)) (h8 : l.length ≤ 8) (hb : ∀ x ∈ l, (0 ≤ x.1 ∧ x.1 ≤ 2) ∧ 0 ≤ x.2 ∧ x.2 ≤ 31) : cropsB (cpK 0 l) := by
  refine ⟨by rw [cpK_len]; omega, fun x hx => ?_, fun i h => ?_⟩
  · obtain ⟨j, hj, rfl⟩ := List.getElem_of_mem hx
    have hj' : j < l.length := by rw [cpK_len] at hj; exact hj
    rw [cpK_get l 0 j hj', Nat.zero_add]
    obtain ⟨h1, h2⟩ := hb l[j] (List.getElem_mem hj')
    exact ⟨cropB_letters j (by omega), ⟨h1.1, by dsimp only; omega⟩, h2⟩
  · have hi : i + 1 < l.length := by rw [cpK_len] at h; exact h
    rw [cpK_get l 0 i (by omega), cpK_get l 0 (i + 1) hi, Nat.zero_add, Nat.zero_add]
    exact cropB_less i (by omega)
theorem nums_sorted (n : Nat) : (nums n).Pairwise (· < ·) := by
  rw [List.pairwise_iff_getElem]
  intro i j hi hj hij
  rw [nums_get, nums_get]
  omega
theorem sch_mask (s : Int) (h : 1 ≤ s ∧ s ≤ 15) : bits BinOp.andNot IntKind.i64 s 31 = 0 := by
  rcases (show s = 1 ∨ s = 2 ∨ s = 3 ∨ s = 4 ∨ s = 5 ∨ s = 6 ∨ s = 7 ∨ s = 8 ∨ s = 9 ∨ s = 10 ∨ s = 11 ∨ s = 12 ∨ s = 13 ∨ s = 14 ∨ s = 15 by omega) with rfl | rfl | rfl | rfl | rfl | rfl | rfl | rfl | rfl | rfl | rfl | rfl | rfl | rfl | rfl <;> decide
/-- A drawn line is right. -/
theorem LnOk.fine {R : RL} {nc : Nat} {x : Ln} (hR : PcOk (rgs R)) (h : LnOk (rgs R) nc x) : LnFine (nums R.length) R nc 31 x := by
  obtain ⟨p, hp, hpc, hin⟩ := h.pc
  have hp' : p < R.length := by rw [rgs_len] at hp; exact hp
  have hm := hR.m
  rw [rgs_len] at hm
  have hv := h.reg.valid (by omega) (by omega)
  refine ⟨?_, h.ne, hv, fun i hi hat => ?_, h.cr, by have := h.sch; omega, sch_mask _ h.sch⟩
  · rw [hpc]
    exact List.mem_map.2 ⟨p, List.mem_range.2 hp', rfl⟩
  · have hi' : i < (nums R.length).length := by rw [nums_len]; exact hi
    rw [List.getElem?_eq_getElem hi', nums_get, hpc] at hat
    injection hat with hat
    obtain rfl : i = p := by omega
    have e : (rgs R)[i]'hp = R[i].1 := by simp [rgs]
    have hr := (hR.at' i hp).reg (by omega)
    rw [e] at hr hin
    exact within_of h.reg.ins hr.ins hv (hr.valid (by omega) (by omega)) hin
/-- Lines do not meet. -/
theorem LsOk.apart {R : List (List R4)} {nc k : Nat} {L : LL} (h : LsOk R nc k (lns L)) (i : Nat) (hi : i < L.length) : (L.take i).any (fun y => meetsP L[i].1.rg y.1.rg) = false := by
  rw [List.any_eq_false]
  intro y hy
  obtain ⟨j, hj, rfl⟩ := List.mem_take_iff_getElem.1 hy
  have hji : j < i := by omega
  have hjl : j < L.length := by omega
  have hd := List.pairwise_iff_getElem.1 h.dis j i (by rw [lns_len]; exact hjl) (by rw [lns_len]; exact hi) hji
  have e1 : (lns L)[j]'(by rw [lns_len]; exact hjl) = L[j].1 := by simp [lns]
  have e2 : (lns L)[i]'(by rw [lns_len]; exact hi) = L[i].1 := by simp [lns]
  rw [e1, e2] at hd
  have h1 := h.ok _ (List.mem_map_of_mem (List.getElem_mem hi))
  have h2 := h.ok _ (List.mem_map_of_mem (List.getElem_mem hjl))
  rw [meets_not h1.reg.ins h2.reg.ins (fun u v huv => by
    cases hc : inL L[j].1.rg u v with
    | false => rfl
    | true => rw [hd u v hc] at huv; cases huv)]
  simp
/-- What is left of a parcel and its lines. -/
theorem rests_law {R : List (List R4)} {nc k : Nat} {L : List Ln} (hR : PcOk R) (h : LsOk R nc k L) (hk : k ≤ 4) {i : Nat} (hi : i < R.length) :
    areaP (chooseP notB R[i] (rectsP (onP ((i : Int) + 1)) L)) + sumA (onP ((i : Int) + 1)) L = areaP R[i] ∧ withinP (chooseP notB R[i] (rectsP (onP ((i : Int) + 1)) L)) R[i] = true ∧ ∀ x ∈ L, onP ((i : Int) + 1) x = true → meetsP (chooseP notB R[i] (rectsP (onP ((i : Int) + 1)) L)) x.rg = false := by
  obtain ⟨h2, h3⟩ := left_reg hR h hk (onP ((i : Int) + 1)) hi
  have hr := (hR.at' i hi).reg (by have := hR.m; omega)
  have hsub : ∀ x ∈ L, onP ((i : Int) + 1) x = true → ∀ u v, inL x.rg u v = true → inL R[i] u v = true := fun x hx hp u v huv => by
    obtain ⟨p, hpl, hpc, hin⟩ := (h.ok x hx).pc
    have he : x.pc = (i : Int) + 1 := by simpa [onP] using hp
    obtain rfl : p = i := by omega
    exact hin u v huv
  refine ⟨?_, ?_, fun x hx hp => ?_⟩
  · rw [h2.cnt (by omega), sum_cnt _ L h.ok h.dis, hr.cnt (by omega), ← cnt_or (fun x y hxy => by
      rw [h3, Bool.and_eq_true, Bool.not_eq_true'] at hxy
      exact hxy.2)]
    refine cnt_congr fun x y => ?_
    rw [h3]
    cases ha : L.any fun z => onP ((i : Int) + 1) z && inL z.rg x y with
    | false => simp
    | true =>
      obtain ⟨z, hz, hzz⟩ := List.any_eq_true.1 ha
      rw [Bool.and_eq_true] at hzz
      rw [hsub z hz hzz.1 x y hzz.2]
      rfl
  · exact within_of h2.ins hr.ins (h2.valid (by omega) (by omega)) (hr.valid (by omega) (by omega)) fun u v huv => by
      rw [h3, Bool.and_eq_true] at huv
      exact huv.1
  · refine meets_not h2.ins (h.ok x hx).reg.ins fun u v huv => ?_
    rw [h3, Bool.and_eq_true, Bool.not_eq_true'] at huv
    cases hc : inL x.rg u v with
    | false => rfl
    | true =>
      have := List.any_eq_false.1 huv.2 x hx
      rw [hp, hc] at this
      simp at this
end Go.Proofs.YtglanlpjoaholaaGreat
