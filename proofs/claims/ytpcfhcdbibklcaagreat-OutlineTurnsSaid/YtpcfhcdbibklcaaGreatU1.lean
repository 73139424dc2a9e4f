/- Contracts: Grow and Concat of spans (the library's slices); ContainsFunc of spans; region's inside. -/
import Derived.Test.YtpcfhcdbibklcaaGreatS4
import Derived.Test.YtpcfhcdbibklcaaGreatR3
import Derived.Outline
import Derived.Lib.AppendZerosOnto
namespace Go.Proofs.YtpcfhcdbibklcaaGreat
open Go.RowKit Go.Shelf Go.Lib Go.Sort
set_option linter.unusedVariables false
set_option linter.unusedSimpArgs false

theorem sCells_app (a b : List (Sg Unit)) : sCells (a ++ b) = sCells a ++ sCells b := by simp [sCells]
theorem sCells_one (l : List (Sg Unit)) : ∀ u ∈ sCells l, u.oneCell' = true := by
  intro u hu
  simp only [sCells, List.mem_flatMap] at hu
  obtain ⟨s, _, hu⟩ := hu
  simp [encSp] at hu
  rcases hu with rfl | rfl <;> rfl

/-- A row of spans of one's own. -/
def SpPost (w : World) (l : List (Sg Unit)) (e : Ending) (w' : World) : Prop := ∃ v, e = .returned v ∧ w'.ownsRow w.heap.size 111 2 v l.length (sCells l) ∧ Below w.heap.size w w'

set_option maxHeartbeats 1000000 in
set_option maxRecDepth 100000 in
theorem growS_any (k : Nat) (w : World) (hn : k ≤ 2000000) :
    Calls Tryz.prog 140 #[.slice none 0 0, .int .i64 (k : Int)] w (SpPost w []) := by
  obtain ⟨i0, hi, hz0, hz1, hz2⟩ := info_parts Tryz.infoSpan
  by_cases h0 : k = 0
  · subst h0
    go_enter Tryz.func140, Tryz.ntmps140
    go_wp2
    go_ret
    exact ⟨_, rfl, World.ownsRow_nil _ _ _ _, Below.refl _ _⟩
  · have tb : Tryz.t111.bytes = 16 := by kernel_rfl
    have hf : ¬ 281474976710656 < Builtin.nextslicecap k 0 * 16 := by
      have := growslice_fits (need := k) (old := 0) (bytes := 16) (by omega) (by omega)
      omega
    have key : Hid (SpPost w [] (.returned (.slice (some ⟨w.heap.size, 0, none⟩) 0 (grownCap w k 0 111))) ((w.alloc (Obj.cells (Builtin.zeroCells #[Value.int IntKind.i64 0, Value.int IntKind.i64 0] k ++ Builtin.zeroCells #[Value.int IntKind.i64 0, Value.int IntKind.i64 0] (grownCap w k 0 111 - k)) 111)).drew)) := by
      have hGn := grownCap_ge w k 0 111
      have hGm := grownCap_le_maxLen w k 0 111 (by unfold maxLen; omega)
      generalize grownCap w k 0 111 = G at *
      refine ⟨_, rfl, World.ownsRow.drew (World.ownsRow_made w _ G (Nat.le_refl _) hGm ?_), (by repeat' (first | with_reducible exact Below.refl _ _ | with_reducible refine below_drewN ?_ _ | with_reducible refine Below.drew ?_ | with_reducible refine Below.alloc ?_ ?_ _ | with_reducible refine Below.setCell ?_ ?_ _ | with_reducible refine Below.trans ?_ (Below.mono (by with_reducible assumption) ?_) | (simp; done) | (simp; omega) | omega))⟩
      rw [Array.size_append, size_zeroCells, size_zeroCells]
      simp
      omega
    go_enter Tryz.func140, Tryz.ntmps140
    go_wp2
    go_ret
    exact key.out

/-- How many spans the first of two slices have, and which. -/
def lenS2 (n m : Nat) : Nat → Nat
  | 0 => 0
  | 1 => n
  | _ => n + m
def catS2 (xs ys : List (Sg Unit)) : Nat → List (Sg Unit)
  | 0 => []
  | 1 => [] ++ xs
  | _ => ([] ++ xs) ++ ys
theorem SlS.reads {w : World} {A : Option Addr} {n c : Nat} {l : List (Sg Unit)} (h : SlS w (.slice A n c) l) : n = l.length ∧ Reads w w.heap.size 2 A l.length (sCells l) ∧ n ≤ c ∧ c ≤ maxLen := by
  obtain ⟨A', c', he, h1, h2, h3⟩ := h
  injection he with e1 e2 e3
  subst e1 e2 e3
  exact ⟨rfl, h3.reads (sCells_len l), h1, h2⟩

set_option maxHeartbeats 4000000 in
set_option maxRecDepth 100000 in
theorem concatS_any (g : Nat) (A B : Option Addr) (n c m d : Nat) (xs ys : List (Sg Unit)) (w : World)
    (h0 : w.cell? ⟨g, 0, none⟩ = some (.slice A n c)) (h1 : w.cell? ⟨g, 1, none⟩ = some (.slice B m d)) (hg : g < w.heap.size)
    (hn : xs.length ≤ 100000) (hm : ys.length ≤ 100000) (hA : SlS w (.slice A n c) xs) (hB : SlS w (.slice B m d) ys) :
    Calls Tryz.prog 128 #[.slice (some ⟨g, 0, none⟩) 2 2] w (SpPost w (xs ++ ys)) := by
  obtain ⟨i0, hi, hz0, hz1, hz2⟩ := info_parts Tryz.infoSpan
  obtain ⟨hx, HA, _, _⟩ := hA.reads
  obtain ⟨hy, HB, _, _⟩ := hB.reads
  rw [← hx] at HA hn
  rw [← hy] at HB hm
  have Hx := Lib.hid hx
  have Hy := Lib.hid hy
  have HA := Lib.hid HA
  have HB := Lib.hid HB
  clear hx hy hA hB
  go_enter Tryz.func128, Tryz.ntmps128
  go_wp2
  go_loop [3, 11] (fun s i => ∃ k : Nat, k ≤ 2 ∧ i = .int .i64 (k : Int) ∧ s = .int .i64 (lenS2 n m k : Nat)) (fun _ i => 2 - (intOf i).toNat)
  case atStart => exact ⟨0, by omega, rfl, rfl⟩
  case round =>
    obtain ⟨k, hk, rfl, rfl⟩ := hrel
    rcases (show k = 0 ∨ k = 1 ∨ k = 2 by omega) with rfl | rfl | rfl
    · have e1 : lenS2 n m 0 = 0 := rfl
      rw [e1]
      clear e1
      go_wp2
      go_round
      case rel => exact ⟨1, by omega, rfl, by simp [lenS2]⟩
      case measure => simp [intOf]
    · have e1 : lenS2 n m 1 = n := rfl
      rw [e1]
      clear e1
      go_wp2
      go_round
      case rel => exact ⟨2, by omega, rfl, by simp [lenS2]⟩
      case measure => simp [intOf]
    · have e1 : lenS2 n m 2 = n + m := rfl
      rw [e1]
      clear e1
      go_wp2_with fail
      refine (growS_any (n + m) w (by omega)).mono ?_
      rintro e w1 ⟨v1, rfl, hown1, hb1⟩
      have Hown1 := Lib.hid hown1
      clear hown1
      go_wp2
      go_loopw [6, 27] (fun v i wr => ∃ k : Nat, k ≤ 2 ∧ i = .int .i64 (k : Int) ∧ SpPost w (catS2 xs ys k) (.returned v) wr) (fun _ i _ => 2 - (intOf i).toNat)
      case atStart => exact ⟨0, by omega, rfl, v1, rfl, Hown1.out, hb1⟩
      case round =>
        obtain ⟨k, hk, rfl, v, hv, hown, hb⟩ := hrel
        injection hv with hv
        subst hv
        have c0 := (hb.cell (p := ⟨g, 0, none⟩) hg).trans h0
        have c1 := (hb.cell (p := ⟨g, 1, none⟩) hg).trans h1
        have Hown := Lib.hid hown
        clear hown
        have hsz := hb.size
        rcases (show k = 0 ∨ k = 1 ∨ k = 2 by omega) with rfl | rfl | rfl
        · go_wp2_with (at_builtin
                       refine wpList_append_any _ rfl (.tmp 31) (.tmp 32) _ rfl w.heap.size 111 i0 _ 2 16 Tryz.underlying96 hi hz0 hz1 hz2 rfl (by omega) _ 0 [] rfl
                         Hown.out w.heap.size A n c (sCells xs) rfl (HA.out.below hb) (sCells_one xs) (by simp only [maxLen]; omega) (by omega) hsz ?_
                       intro v2 w2 hown2 hg2 hat2)
          go_roundw
          case rel =>
            refine ⟨1, by omega, rfl, v2, rfl, ?_, hb.grown hg2 hsz (own_base Hown.out)⟩
            have e1 : (catS2 xs ys 1).length = 0 + n := by simp [catS2, Hx.out]
            rw [e1]
            exact hown2
          case measure => simp [intOf]
        · have e1 : Hid ((catS2 xs ys 1).length = n) := by show (catS2 xs ys 1).length = n; simp [catS2, Hx.out]
          rw [e1.out] at Hown
          go_wp2_with (at_builtin
                       refine wpList_append_any _ rfl (.tmp 31) (.tmp 32) _ rfl w.heap.size 111 i0 _ 2 16 Tryz.underlying96 hi hz0 hz1 hz2 rfl (by omega) _ n (sCells (catS2 xs ys 1)) rfl
                         Hown.out w.heap.size B m d (sCells ys) rfl (HB.out.below hb) (sCells_one ys) (by simp only [maxLen]; omega) (by omega) hsz ?_
                       intro v2 w2 hown2 hg2 hat2)
          go_roundw
          case rel =>
            refine ⟨2, by omega, rfl, v2, rfl, ?_, hb.grown hg2 hsz (own_base Hown.out)⟩
            have e1 : (catS2 xs ys 2).length = n + m := by simp [catS2, Hx.out, Hy.out]
            have e2 : sCells (catS2 xs ys 2) = sCells (catS2 xs ys 1) ++ sCells ys := by simp only [catS2]; rw [sCells_app]
            rw [e1, e2]
            exact hown2
          case measure => simp [intOf]
        · go_wp2
          go_ret
          exact ⟨_, rfl, Hown.out, hb⟩

set_option maxHeartbeats 1000000 in
theorem containsS_any (p : Sg Unit → Bool) (f : Nat) (lb : Array Value) (eg : ∀ args w, (callFunc f args).run Tryz.prog w = .ok (.enter f args) w) (u : Value) (l : List (Sg Unit)) (w : World) (hA : SlS w u l)
    (hp : PredBelow Tryz.prog f lb (fun q : Sg Unit => .agg (encSp q).toArray) p w) :
    Calls Tryz.prog 141 #[u, .func (.func f) #[] lb] w fun e w' => e = .returned (.bool (l.any p)) ∧ Below w.heap.size w w' := by
  obtain ⟨A, c, rfl, hc1, hm1, hl1⟩ := hA
  have hn := Nat.le_trans hc1 hm1
  unfold maxLen at hn
  rcases Nat.eq_zero_or_pos l.length with h0 | h0
  · obtain rfl : l = [] := List.length_eq_zero_iff.1 h0
    clear hl1 hp eg
    go_enter Tryz.func141, Tryz.ntmps141
    go_wp2
    go_loop [8] (fun i => i = .int .i64 0) (fun _ => 0)
    case atStart => rfl
    case round =>
      subst hrel
      go_wp2
      go_ret
      exact ⟨rfl, Below.refl _ _⟩
  · obtain ⟨b1, o1, rfl, hb1, hcc1⟩ := hl1.resolve_left (by omega)
    refine (AnyQ.slices_ContainsFunc Tryz.layContainsSpan 2 Tryz.isAgg111 Tryz.sizeOf111 encSp (fun _ => rfl) p f lb eg b1 o1 l.length c l w hp (by omega) (by omega) hb1 ?_).mono ?_
    · intro j hj i v hv
      obtain ⟨h0, h1⟩ := sCells_at l j hj
      rw [getElem!_pos l j hj] at hv
      have hi : i < 2 := by
        rcases Nat.lt_or_ge i 2 with h | h
        · exact h
        · rw [List.getElem?_eq_none (by simpa [encSp] using h)] at hv; cases hv
      rcases (show i = 0 ∨ i = 1 by omega) with rfl | rfl
      · simp [encSp] at hv; subst hv; exact hcc1 _ _ h0
      · simp [encSp] at hv; subst hv; rw [Nat.add_assoc]; exact hcc1 _ _ h1
    · rintro e w' ⟨rfl, hb⟩
      rw [List.take_of_length_le (by omega)]
      exact ⟨rfl, hb⟩

set_option maxHeartbeats 1000000 in
theorem insidePred (gx : Nat) (x : Int) (w : World) (hx : w.cell? ⟨gx, 0, none⟩ = some (.int .i64 x)) (hgx : gx < w.heap.size) :
    PredBelow Tryz.prog 142 #[.pointer (some ⟨gx, 0, none⟩)] (fun q : Sg Unit => .agg (encSp q).toArray) (fun q => inS q x) w := by
  intro W q hb
  refine Calls.mono (show Calls Tryz.prog 142 #[.agg #[.int .i64 q.1, .int .i64 q.2.1], .pointer (some ⟨gx, 0, none⟩)] W fun e w' => e = .returned (.bool (inS q x)) ∧ Below W.heap.size W w' from ?_) ?_
  · have cx := (hb.cell (p := ⟨gx, 0, none⟩) hgx).trans hx
    have hgx' : gx < W.heap.size := Nat.lt_of_lt_of_le hgx hb.size
    have Hh : Hid (inS q x = (decide (q.1 ≤ x) && decide (x < q.2.1))) := Lib.hid rfl
    generalize inS q x = res at *
    clear hx hb hgx
    by_cases h1 : q.1 ≤ x
    · by_cases h2 : x < q.2.1
      · have hR : res = true := by rw [Hh.out]; simp [h1, h2]
        subst hR
        go_enter Tryz.func142, Tryz.ntmps142
        go_wp2
        go_ret
        exact ⟨rfl, (by repeat' (first | with_reducible exact Below.refl _ _ | with_reducible refine below_drewN ?_ _ | with_reducible refine Below.drew ?_ | with_reducible refine Below.alloc ?_ ?_ _ | with_reducible refine Below.setCell ?_ ?_ _ | with_reducible refine Below.trans ?_ (Below.mono (by with_reducible assumption) ?_) | (simp; done) | (simp; omega) | omega))⟩
      · have hR : res = false := by rw [Hh.out]; simp [h2]
        subst hR
        go_enter Tryz.func142, Tryz.ntmps142
        go_wp2
        go_ret
        exact ⟨rfl, (by repeat' (first | with_reducible exact Below.refl _ _ | with_reducible refine below_drewN ?_ _ | with_reducible refine Below.drew ?_ | with_reducible refine Below.alloc ?_ ?_ _ | with_reducible refine Below.setCell ?_ ?_ _ | with_reducible refine Below.trans ?_ (Below.mono (by with_reducible assumption) ?_) | (simp; done) | (simp; omega) | omega))⟩
    · have hR : res = false := by rw [Hh.out]; simp [h1]
      subst hR
      go_enter Tryz.func142, Tryz.ntmps142
      go_wp2
      go_ret
      exact ⟨rfl, (by repeat' (first | with_reducible exact Below.refl _ _ | with_reducible refine below_drewN ?_ _ | with_reducible refine Below.drew ?_ | with_reducible refine Below.alloc ?_ ?_ _ | with_reducible refine Below.setCell ?_ ?_ _ | with_reducible refine Below.trans ?_ (Below.mono (by with_reducible assumption) ?_) | (simp; done) | (simp; omega) | omega))⟩
  · rintro e w' ⟨rfl, h⟩
    exact ⟨rfl, hb.trans (h.mono hb.size)⟩

set_option maxHeartbeats 1000000 in
set_option maxRecDepth 100000 in
theorem insideS_any (u : Value) (l : List (Sg Unit)) (x : Int) (w : World) (hA : SlS w u l) :
    Calls Tryz.prog 129 #[u, .int .i64 x] w fun e w' => e = .returned (.bool (inR l x)) ∧ Below w.heap.size w w' := by
  have HA := Lib.hid hA
  have Hr : Hid (inR l x = l.any fun q => inS q x) := Lib.hid rfl
  generalize inR l x = res at *
  have eg : ∀ args w, (callFunc 142 args).run Tryz.prog w = .ok (.enter 142 args) w := enters_of Tryz.func142 (by kernel_rfl) rfl
  have Eg := Lib.hid eg
  clear hA eg
  go_enter Tryz.func129, Tryz.ntmps129
  go_wp2_with (first
    | (go_at_call 141
       refine (containsS_any (fun q => inS q x) 142 #[.pointer (some ⟨w.heap.size, 0, none⟩)] Eg.out u l _ (HA.out.below (by repeat' (first | with_reducible exact Below.refl _ _ | with_reducible refine below_drewN ?_ _ | with_reducible refine Below.drew ?_ | with_reducible refine Below.alloc ?_ ?_ _ | with_reducible refine Below.setCell ?_ ?_ _ | with_reducible refine Below.trans ?_ (Below.mono (by with_reducible assumption) ?_) | (simp; done) | (simp; omega) | omega))) (insidePred _ x _ (cell_of_row _ w.heap.size 0 _ _ _ (heap_alloc_new w _)) (by simp))).mono ?_
       rintro e w1 ⟨rfl, hb1⟩
       rw [← Hr.out])
    | fail)
  go_ret
  exact ⟨rfl, (by repeat' (first | with_reducible exact Below.refl _ _ | with_reducible assumption | with_reducible refine below_drewN ?_ _ | with_reducible refine Below.drew ?_ | with_reducible refine Below.alloc ?_ ?_ _ | with_reducible refine Below.setCell ?_ ?_ _ | with_reducible refine Below.trans ?_ (Below.mono (by with_reducible assumption) ?_) | with_reducible refine below_only ?_ (by with_reducible assumption) ?_ ?_ | (simp; done) | (simp; omega) | omega))⟩
end Go.Proofs.YtpcfhcdbibklcaaGreat
