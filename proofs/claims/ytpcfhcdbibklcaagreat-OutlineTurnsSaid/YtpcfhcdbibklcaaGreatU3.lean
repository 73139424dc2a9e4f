/- Contract: Choose (regions). -/
import Derived.Test.YtpcfhcdbibklcaaGreatU2
import Derived.Test.YtpcfhcdbibklcaaGreatR7
namespace Go.Proofs.YtpcfhcdbibklcaaGreat
open Go.RowKit
set_option linter.unusedVariables false
set_option linter.unusedSimpArgs false

/-- A function of two truth values that changes nothing. -/
def BoolFn (f : Nat) (lb : Array Value) (how : Bool → Bool → Bool) (w : World) : Prop :=
  ∀ W x y, Below w.heap.size w W → Calls Tryz.prog f (#[.bool x, .bool y] ++ lb) W fun e w' => e = .returned (.bool (how x y)) ∧ Below W.heap.size W w'
theorem BoolFn.below {f : Nat} {lb : Array Value} {how : Bool → Bool → Bool} {w w' : World} (h : BoolFn f lb how w) (hb : Below w.heap.size w w') : BoolFn f lb how w' := fun W x y hW => h W x y (hb.trans (hW.mono hb.size))
/-- The three boxes that Choose makes. -/
structure ChB (W : World) (g : Nat) (A : Option Addr) (n c : Nat) (B : Option Addr) (m d f : Nat) (lb : Array Value) : Prop where
  size : g + 1 + 1 < W.heap.size
  c0 : W.cell? ⟨g, 0, none⟩ = some (.slice A n c)
  c1 : W.cell? ⟨g + 1, 0, none⟩ = some (.slice B m d)
  c2 : W.cell? ⟨g + 1 + 1, 0, none⟩ = some (.func (.func f) #[] lb)
theorem ChB.below {W W' : World} {g : Nat} {A : Option Addr} {n c : Nat} {B : Option Addr} {m d f : Nat} {lb : Array Value} (h : ChB W g A n c B m d f lb) (hb : Below W.heap.size W W') : ChB W' g A n c B m d f lb :=
  have hs := h.size
  ⟨Nat.lt_of_lt_of_le h.size hb.size, (hb.cell (p := ⟨g, 0, none⟩) (by show g < _; omega)).trans h.c0, (hb.cell (p := ⟨g + 1, 0, none⟩) (by show g + 1 < _; omega)).trans h.c1, (hb.cell (p := ⟨g + 1 + 1, 0, none⟩) h.size).trans h.c2⟩

set_option maxHeartbeats 4000000 in
set_option maxRecDepth 100000 in
theorem chooseRow_any (g : Nat) (A B : Option Addr) (n c m d f : Nat) (lb : Array Value) (how : Bool → Bool → Bool) (a b : List R4) (y : Int) (w : World) (hg : ChB w g A n c B m d f lb) (hA : SlR w A n c a) (hB : SlR w B m d b) (hn : n ≤ 100000) (hm : m ≤ 100000) (ha : ∀ q ∈ a, q.l < q.r) (hb : ∀ q ∈ b, q.l < q.r)
    (eg : ∀ args w, (callFunc f args).run Tryz.prog w = .ok (.enter f args) w) (HF : BoolFn f lb how w) :
    Calls Tryz.prog 117 #[.int .i64 y, .pointer (some ⟨g, 0, none⟩), .pointer (some ⟨g + 1, 0, none⟩), .pointer (some ⟨g + 1 + 1, 0, none⟩)] w fun e w' => ∃ v, e = .returned v ∧ w'.ownsRow w.heap.size 111 2 v (mergeP how (rowP a y) (rowP b y)).length (sCells (mergeP how (rowP a y) (rowP b y))) ∧ Below w.heap.size w w' := by
  have hra := rowP_len a y
  have hrb := rowP_len b y
  have hna := hA.len
  have hnb := hB.len
  have Hg := Lib.hid hg
  have HA := Lib.hid hA
  have HB := Lib.hid hB
  have Ha := Lib.hid ha
  have Hb := Lib.hid hb
  have HFh := Lib.hid HF
  have Eg := Lib.hid eg
  have hr1 : (rowP a y).length ≤ 100000 := by omega
  have hr2 : (rowP b y).length ≤ 100000 := by omega
  have HRa := Lib.hid (fun W (hW : Below w.heap.size w W) => row_any A n c a y W (HA.out.below hW) hn Ha.out)
  have HRb := Lib.hid (fun W (hW : Below w.heap.size w W) => row_any B m d b y W (HB.out.below hW) hm Hb.out)
  generalize rowP a y = ra at *
  generalize rowP b y = rb at *
  have c0 := hg.c0
  have c1 := hg.c1
  have c2 := hg.c2
  clear hg hA hB ha hb HF eg hra hrb
  go_enter Tryz.func117, Tryz.ntmps117
  go_upto_region 1 with fail
  go_region_held3 (fun w' => w'.cell? ⟨g, 0, none⟩ = some (.slice A n c) ∧ w'.cell? ⟨g + 1, 0, none⟩ = some (.slice B m d) ∧ w'.cell? ⟨g + 1 + 1, 0, none⟩ = some (.func (.func f) #[] lb))
    (first | go_keep | ((repeat' apply And.intro) <;> go_keep))
    (first
      | (go_at_call_of 71 (Value.slice A n c)
         refine (HRa.out _ (by repeat' (first | with_reducible exact Below.refl _ _ | with_reducible refine below_drewN ?_ _ | with_reducible refine Below.drew ?_ | with_reducible refine Below.alloc ?_ ?_ _ | with_reducible refine Below.setCell ?_ ?_ _ | with_reducible refine Below.trans ?_ (Below.mono (by with_reducible assumption) ?_) | (simp; done) | (simp; omega) | omega))).mono ?_
         rintro e w1 ⟨v1, rfl, hown1, hb1⟩
         have HS1 := Lib.hid (SlS.of_own hown1)
         obtain ⟨V1, k1, rfl, _, _, _⟩ := own_slice hown1
         have Hb1 : Hid (Below w.heap.size w w1) := Lib.hid (show Below w.heap.size w w1 from (by have hbq := hb1; exact (by repeat' (first | with_reducible exact Below.refl _ _ | with_reducible assumption | with_reducible refine below_drewN ?_ _ | with_reducible refine Below.drew ?_ | with_reducible refine Below.alloc ?_ ?_ _ | with_reducible refine Below.setCell ?_ ?_ _ | with_reducible refine Below.trans ?_ (Below.mono (by with_reducible assumption) ?_) | with_reducible refine below_only ?_ (by with_reducible assumption) ?_ ?_ | (simp; done) | (simp; omega) | omega))))
         have Hg1 := Lib.hid (Hg.out.below Hb1.out)
         have c01 := Hg1.out.c0
         have c11 := Hg1.out.c1
         have c21 := Hg1.out.c2
         clear hown1 hb1)
      | (go_at_call_of 71 (Value.slice B m d)
         refine (HRb.out _ (Hb1.out.trans (Below.mono (by repeat' (first | with_reducible exact Below.refl _ _ | with_reducible refine below_drewN ?_ _ | with_reducible refine Below.drew ?_ | with_reducible refine Below.alloc ?_ ?_ _ | with_reducible refine Below.setCell ?_ ?_ _ | with_reducible refine Below.trans ?_ (Below.mono (by with_reducible assumption) ?_) | (simp; done) | (simp; omega) | omega)) Hb1.out.size))).mono ?_
         rintro e w2 ⟨v2, rfl, hown2, hb2⟩
         have HS2 := Lib.hid (SlS.of_own hown2)
         obtain ⟨V2, k2, rfl, _, _, _⟩ := own_slice hown2
         have Hb2 : Hid (Below w1.heap.size w1 w2) := Lib.hid (show Below w1.heap.size w1 w2 from (by have hbq := hb2; exact (by repeat' (first | with_reducible exact Below.refl _ _ | with_reducible assumption | with_reducible refine below_drewN ?_ _ | with_reducible refine Below.drew ?_ | with_reducible refine Below.alloc ?_ ?_ _ | with_reducible refine Below.setCell ?_ ?_ _ | with_reducible refine Below.trans ?_ (Below.mono (by with_reducible assumption) ?_) | with_reducible refine below_only ?_ (by with_reducible assumption) ?_ ?_ | (simp; done) | (simp; omega) | omega))))
         have Hg2 := Lib.hid (Hg1.out.below Hb2.out)
         have c02 := Hg2.out.c0
         have c12 := Hg2.out.c1
         have c22 := Hg2.out.c2
         clear hown2 hb2)
      | (go_at_call 118
         refine (merge_any f lb how _ _ ra rb _ ((HS1.out.below Hb2.out).below (Below.mono (by repeat' (first | with_reducible exact Below.refl _ _ | with_reducible refine below_drewN ?_ _ | with_reducible refine Below.drew ?_ | with_reducible refine Below.alloc ?_ ?_ _ | with_reducible refine Below.setCell ?_ ?_ _ | with_reducible refine Below.trans ?_ (Below.mono (by with_reducible assumption) ?_) | (simp; done) | (simp; omega) | omega)) (Nat.le_refl _))) (HS2.out.below (by repeat' (first | with_reducible exact Below.refl _ _ | with_reducible refine below_drewN ?_ _ | with_reducible refine Below.drew ?_ | with_reducible refine Below.alloc ?_ ?_ _ | with_reducible refine Below.setCell ?_ ?_ _ | with_reducible refine Below.trans ?_ (Below.mono (by with_reducible assumption) ?_) | (simp; done) | (simp; omega) | omega))) hr1 hr2 Eg.out (fun W x y hW => HFh.out W x y (Hb1.out.trans ((Hb2.out.trans ((Below.trans (show Below w2.heap.size w2 _ from (by repeat' (first | with_reducible exact Below.refl _ _ | with_reducible refine below_drewN ?_ _ | with_reducible refine Below.drew ?_ | with_reducible refine Below.alloc ?_ ?_ _ | with_reducible refine Below.setCell ?_ ?_ _ | with_reducible refine Below.trans ?_ (Below.mono (by with_reducible assumption) ?_) | (simp; done) | (simp; omega) | omega))) (hW.mono (by first | exact Nat.le_refl _ | (simp; done)))).mono Hb2.out.size)).mono Hb1.out.size)))).mono ?_
         rintro e w3 ⟨v3, rfl, hown3, hb3⟩
         have Hown3 := Lib.hid hown3
         have Hb3 : Hid (Below w2.heap.size w2 w3) := Lib.hid (show Below w2.heap.size w2 w3 from (by have hbq := hb3; exact (by repeat' (first | with_reducible exact Below.refl _ _ | with_reducible assumption | with_reducible refine below_drewN ?_ _ | with_reducible refine Below.drew ?_ | with_reducible refine Below.alloc ?_ ?_ _ | with_reducible refine Below.setCell ?_ ?_ _ | with_reducible refine Below.trans ?_ (Below.mono (by with_reducible assumption) ?_) | with_reducible refine below_only ?_ (by with_reducible assumption) ?_ ?_ | (simp; done) | (simp; omega) | omega))))
         have Hg3 := Lib.hid (Hg2.out.below Hb3.out)
         have c03 := Hg3.out.c0
         have c13 := Hg3.out.c1
         have c23 := Hg3.out.c2
         clear hown3 hb3)
      | fail)
  all_goals go_wp2
  all_goals go_ret
  all_goals exact ⟨v3, rfl, own_rebase Hown3.out (Nat.le_trans Hb1.out.size Hb2.out.size), Hb1.out.trans ((Hb2.out.trans (Hb3.out.mono Hb2.out.size)).mono Hb1.out.size)⟩

set_option maxHeartbeats 4000000 in
set_option maxRecDepth 100000 in
theorem choose_any (A B : Option Addr) (n c m d f : Nat) (lb : Array Value) (how : Bool → Bool → Bool) (a b : List R4) (w : World) (hA : SlR w A n c a) (hB : SlR w B m d b) (hn : n ≤ 750) (hm : m ≤ 750) (ha : ∀ q ∈ a, q.l < q.r) (hb : ∀ q ∈ b, q.l < q.r)
    (eg : ∀ args w, (callFunc f args).run Tryz.prog w = .ok (.enter f args) w) (HF : BoolFn f lb how w) :
    Calls Tryz.prog 93 #[.slice A n c, .slice B m d, .func (.func f) #[] lb] w fun e w' => ∃ v, e = .returned v ∧ w'.ownsRow w.heap.size 58 4 v (chooseP how a b).length (rCells (chooseP how a b)) ∧ Below w.heap.size w w' := by
  have hna := hA.len
  have hnb := hB.len
  have HA := Lib.hid hA
  have HB := Lib.hid hB
  have Ha := Lib.hid ha
  have Hb := Lib.hid hb
  have HFh := Lib.hid HF
  have Eg := Lib.hid eg
  have Hcl : Hid ((cutsP (a ++ b)).length ≤ 2 * (n + m)) := Lib.hid (by have h1 := (asc_all (yEdges (a ++ b))).2.2; rw [yEdges_len, List.length_append] at h1; unfold cutsP; omega)
  have Hflat : Hid (cutsP [a, b].flatten = cutsP (a ++ b)) := Lib.hid (by simp)
  have Hch : Hid (buildP (fun y => mergeP how (rowP a y) (rowP b y)) (cutsP (a ++ b)) = chooseP how a b) := Lib.hid rfl
  have Hrl : Hid (∀ y, (mergeP how (rowP a y) (rowP b y)).length ≤ 2 * (n + m)) := Lib.hid (fun y => by have h1 := merge_len2 how (rowP a y) (rowP b y); have h2 := rowP_len a y; have h3 := rowP_len b y; omega)
  have eg1 : ∀ args w, (callFunc 117 args).run Tryz.prog w = .ok (.enter 117 args) w := enters_of Tryz.func117 (by kernel_rfl) rfl
  have Eg1 := Lib.hid eg1
  clear hA hB ha hb HF eg eg1
  go_enter Tryz.func93, Tryz.ntmps93
  go_upto_region 1 with fail
  obtain ⟨w1, hw1⟩ : ∃ w1 : World, w1 = ((w.alloc (.cells #[.slice A n c] 23)).alloc (.cells #[.slice B m d] 23)).alloc (.cells #[.func (.func f) #[] lb] 134) := ⟨_, rfl⟩
  rw [← hw1]
  have hg1 : ChB w1 w.heap.size A n c B m d f lb := by
    subst hw1
    refine ⟨by simp, ?_, ?_, ?_⟩
    · exact cell_of_row _ w.heap.size 0 _ _ _ ((Below.heap_alloc _ _ _ (by simp; omega)).trans ((Below.heap_alloc _ _ _ (by simp)).trans (heap_alloc_new w _)))
    · exact cell_of_row _ (w.heap.size + 1) 0 _ _ _ ((Below.heap_alloc _ _ _ (by simp)).trans (heap_alloc2_new w _ _))
    · have h3 := heap_alloc_new ((w.alloc (.cells #[.slice A n c] 23)).alloc (.cells #[.slice B m d] 23)) (.cells #[.func (.func f) #[] lb] 134)
      have h4 : (((w.alloc (.cells #[.slice A n c] 23)).alloc (.cells #[.slice B m d] 23)).alloc (.cells #[.func (.func f) #[] lb] 134)).heap[w.heap.size + 1 + 1]? = some (.cells #[.func (.func f) #[] lb] 134 (0, 0)) := by simpa using h3
      exact cell_of_row _ (w.heap.size + 1 + 1) 0 _ _ _ h4
  have c0 := hg1.c0
  have c1 := hg1.c1
  have c2 := hg1.c2
  have Hg1 := Lib.hid hg1
  have Hw1 : Hid (Below w.heap.size w w1) := Lib.hid (by rw [hw1]; exact (by repeat' (first | with_reducible exact Below.refl _ _ | with_reducible refine below_drewN ?_ _ | with_reducible refine Below.drew ?_ | with_reducible refine Below.alloc ?_ ?_ _ | with_reducible refine Below.setCell ?_ ?_ _ | with_reducible refine Below.trans ?_ (Below.mono (by with_reducible assumption) ?_) | (simp; done) | (simp; omega) | omega)))
  have hs1 := Hw1.out.size
  clear hw1 hg1
  go_wp2_with (first
    | (go_at_call 69
       refine (cuts_any (some ⟨w1.heap.size, 0, none⟩) 2 2 [a, b] _ rfl (by omega) (fun i hi => by
         rcases (show i = 0 ∨ i = 1 by simp at hi; omega) with rfl | rfl
         · exact ⟨w1.heap.size, 0, A, n, c, rfl, by simp, cell_of_row _ w1.heap.size 0 _ _ _ (heap_alloc_new w1 _), HA.out.below (Hw1.out.trans (Below.mono (by repeat' (first | with_reducible exact Below.refl _ _ | with_reducible refine below_drewN ?_ _ | with_reducible refine Below.drew ?_ | with_reducible refine Below.alloc ?_ ?_ _ | with_reducible refine Below.setCell ?_ ?_ _ | with_reducible refine Below.trans ?_ (Below.mono (by with_reducible assumption) ?_) | (simp; done) | (simp; omega) | omega)) hs1))⟩
         · exact ⟨w1.heap.size, 0, B, m, d, rfl, by simp, cell_of_row _ w1.heap.size 1 _ _ _ (heap_alloc_new w1 _), HB.out.below (Hw1.out.trans (Below.mono (by repeat' (first | with_reducible exact Below.refl _ _ | with_reducible refine below_drewN ?_ _ | with_reducible refine Below.drew ?_ | with_reducible refine Below.alloc ?_ ?_ _ | with_reducible refine Below.setCell ?_ ?_ _ | with_reducible refine Below.trans ?_ (Below.mono (by with_reducible assumption) ?_) | (simp; done) | (simp; omega) | omega)) hs1))⟩) (by simp; omega)).mono ?_
       rintro e w2 ⟨v2, rfl, hown2, hb2⟩
       rw [Hflat.out] at hown2
       obtain ⟨C, cc, rfl, hC⟩ := SlI.of_own hown2
       have HC := Lib.hid hC
       have Hb2 : Hid (Below w1.heap.size w1 w2) := Lib.hid (show Below w1.heap.size w1 w2 from (by have hbq := hb2; exact (by repeat' (first | with_reducible exact Below.refl _ _ | with_reducible assumption | with_reducible refine below_drewN ?_ _ | with_reducible refine Below.drew ?_ | with_reducible refine Below.alloc ?_ ?_ _ | with_reducible refine Below.setCell ?_ ?_ _ | with_reducible refine Below.trans ?_ (Below.mono (by with_reducible assumption) ?_) | with_reducible refine below_only ?_ (by with_reducible assumption) ?_ ?_ | (simp; done) | (simp; omega) | omega))))
       have hs2 := Hb2.out.size
       have Hg2 := Lib.hid (Hg1.out.below Hb2.out)
       clear hown2 hb2 hC)
    | (go_at_call 53
       refine (build_any 117 #[.pointer (some ⟨w.heap.size, 0, none⟩), .pointer (some ⟨w.heap.size + 1, 0, none⟩), .pointer (some ⟨w.heap.size + 1 + 1, 0, none⟩)] (fun y => mergeP how (rowP a y) (rowP b y)) (2 * (n + m)) C (cutsP (a ++ b)).length cc (cutsP (a ++ b)) w2 HC.out (by have := Hcl.out; omega) Hrl.out (by omega) (by have h1 := Nat.mul_le_mul_right (2 * (n + m)) Hcl.out; have h2 : (2 * (n + m)) * (2 * (n + m)) ≤ 3000 * 3000 := Nat.mul_le_mul (by omega) (by omega); omega) Eg1.out (fun W y hW => chooseRow_any w.heap.size A B n c m d f lb how a b y W (Hg2.out.below hW) (HA.out.below (Hw1.out.trans ((Hb2.out.trans (hW.mono hs2)).mono hs1))) (HB.out.below (Hw1.out.trans ((Hb2.out.trans (hW.mono hs2)).mono hs1))) (by omega) (by omega) Ha.out Hb.out Eg.out (HFh.out.below (Hw1.out.trans ((Hb2.out.trans (hW.mono hs2)).mono hs1))))).mono ?_
       rintro e w3 ⟨v3, rfl, hown3, hb3⟩
       rw [Hch.out] at hown3
       have Hown3 := Lib.hid hown3
       have Hb3 := Lib.hid hb3
       clear hown3 hb3)
    | fail)
  go_ret
  exact ⟨v3, rfl, own_rebase Hown3.out (Nat.le_trans hs1 hs2), Hw1.out.trans ((Hb2.out.trans (Hb3.out.mono hs2)).mono hs1)⟩
end Go.Proofs.YtpcfhcdbibklcaaGreat
