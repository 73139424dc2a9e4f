/- Contracts: the limits of a right fact. -/
import Derived.Test.YtepcelekjjalfaaCk
namespace Go.Proofs.Ytepcelekjjalfaa
open Go.RowKit
set_option linter.unusedVariables false

theorem Try.infoLimit : (Try.prog.info? 56).map (fun i => (i.zero, i.size, i.bytes)) = some (some (.agg #[.int .i64 0, .int .i64 0]), 2, 16) := by kernel_rfl

/-- The limits as cells: the due area, and a second one. -/
def two (u r n : Int) : List Value := [.int .i64 1, .int .i64 u, .int .i64 r, .int .i64 n]

theorem two_news (w : World) (g : Nat) (a b : Value) (h0 : w.cell? ⟨g, 0, none⟩ = some a) (h1 : w.cell? ⟨g, 1, none⟩ = some b) : ∀ j u, [a, b][j]? = some u → w.cell? (Addr.add ⟨g, 0, none⟩ j) = some u := by
  intro j u hj
  match j, hj with
  | 0, hj => simp at hj; subst hj; simpa [Addr.add] using h0
  | 1, hj => simp at hj; subst hj; simpa [Addr.add] using h1

/-- What the call of limits leaves: a slice of its own with these cells. -/
def LimPost (w : World) (n : Nat) (xs : List Value) (e : Ending) (w' : World) : Prop :=
  ∃ v, e = .returned (.tuple #[v, .int .i64 0]) ∧ w'.ownsRow w.heap.size 56 2 v n xs ∧ Below w.heap.size w w'

theorem own_lim (w : World) (o : Obj) (u : Value) (t : TypeId) : ((w.alloc o).alloc (.cells #[.int .i64 1, u] t)).ownsRow w.heap.size t 2 (.slice (some ⟨w.heap.size + 1, 0, none⟩) 1 1) 1 [.int .i64 1, u] := by
  have h := World.ownsRow_lit (base := w.heap.size) (e := t) (size := 2) (w.alloc o) #[.int .i64 1, u] 1 (by simp) (by unfold maxLen; omega) rfl
  simpa using h
theorem one2 (a b : Int) : ∀ x ∈ [Value.int .i64 a, .int .i64 b], x.oneCell' = true := by
  intro x hx
  simp at hx
  rcases hx with rfl | rfl <;> rfl

set_option maxHeartbeats 400000 in
theorem limits_one (d u s a b wd : Int) (w : World) (hs : (s == -1) = false) :
    Calls Try.prog 23 #[.agg #[.int .i64 d, .int .i64 u, .int .i64 s, .int .i64 0, .int .i64 a, .int .i64 b], .int .i64 wd] w (LimPost w 1 [.int .i64 1, .int .i64 u]) := by
  go_enter Try.func23, Try.ntmps23
  go_wp2
  go_ret2
  exact ⟨_, rfl, own_lim _ _ _ _, (by repeat' (first | exact Below.refl _ _ | refine below_drewN ?_ _ | refine Below.drew ?_ | refine Below.alloc ?_ ?_ _ | refine Below.setCell ?_ ?_ _ | refine Below.trans ?_ (Below.mono (by assumption) ?_) | (simp; done) | (simp; omega) | omega))⟩

set_option maxHeartbeats 400000 in
theorem limits_two (d u s k a b wd r : Int) (w : World) (h : (k = 0 ∧ s = -1 ∧ r = 2) ∨ (k = 4 ∧ r = 3) ∨ (k = 3 ∧ r = 4) ∨ (k = 2 ∧ r = 5)) :
    Calls Try.prog 23 #[.agg #[.int .i64 d, .int .i64 u, .int .i64 s, .int .i64 k, .int .i64 a, .int .i64 b], .int .i64 wd] w (LimPost w 2 (two u r 0)) := by
  obtain ⟨i0, hi, hz0, hz1, hz2⟩ := info_parts Try.infoLimit
  rcases h with ⟨rfl, rfl, hr⟩ | ⟨rfl, hr⟩ | ⟨rfl, hr⟩ | ⟨rfl, hr⟩
  all_goals
    have Hr := Lib.hid hr
    clear hr
    go_enter Try.func23, Try.ntmps23
    go_wp2_with (at_builtin
                 go_must (refine wpList_append_own _ rfl _ _ 52 rfl w.heap.size 56 i0 (.agg #[.int .i64 0, .int .i64 0]) 2 16 Try.underlying52 hi hz0 hz1 hz2 rfl (by decide) _ 1 [.int .i64 1, .int .i64 u] rfl ?_ ⟨w.heap.size + 1 + 1, 0, none⟩ 1 1 [.int .i64 r, .int .i64 0] rfl rfl ?_ ?_ ?_ ?_ ?_ ?_)
                 · go_must (exact (own_lim _ _ _ _).alloc _)
                 · go_must (refine two_news _ _ _ _ ?_ ?_ <;> (try rw [Hr.out]) <;> go_simp)
                 · exact one2 _ _
                 · unfold maxLen; omega
                 · omega
                 · go_must (simp; omega)
                 intro v' w1 hown' hgrow _)
    go_wp2
    go_ret2
    refine ⟨_, rfl, hown', ((by repeat' (first | exact Below.refl _ _ | refine below_drewN ?_ _ | refine Below.drew ?_ | refine Below.alloc ?_ ?_ _ | refine Below.setCell ?_ ?_ _ | refine Below.trans ?_ (Below.mono (by assumption) ?_) | (simp; done) | (simp; omega) | omega)) : Below w.heap.size w _).grown hgrow (by simp; omega) (by rintro _ ⟨⟩; simp)⟩

theorem ownsRow_below {w w' : World} {base : Nat} {e : TypeId} {size : Nat} {v : Value} {n : Nat} {xs : List Value} (h : w.ownsRow base e size v n xs) (hb : Below w.heap.size w w') : w'.ownsRow base e size v n xs := by
  obtain ⟨h1, h2⟩ := h
  refine ⟨h1, ?_⟩
  rcases h2 with h2 | ⟨g, cap, cur, hv, hg, hh, r⟩
  · exact Or.inl h2
  · have hlt : g < w.heap.size := by
      rcases Nat.lt_or_ge g w.heap.size with h | h
      · exact h
      · rw [Array.getElem?_eq_none h] at hh; cases hh
    exact Or.inr ⟨g, cap, cur, hv, hg, (hb.block g hlt).trans hh, r⟩

set_option maxHeartbeats 400000 in
theorem limits_area (d u s a b wd : Int) (w : World) (hz : checkT d a b wd = 0) :
    Calls Try.prog 23 #[.agg #[.int .i64 d, .int .i64 u, .int .i64 s, .int .i64 1, .int .i64 a, .int .i64 b], .int .i64 wd] w (LimPost w 2 (two u 6 (acceptV d a b wd))) := by
  obtain ⟨i0, hi, hz0, hz1, hz2⟩ := info_parts Try.infoLimit
  have hv := Lib.hid (acceptT_any d a b wd)
  rw [hz] at hv
  generalize acceptV d a b wd = r at *
  clear hz
  go_enter Try.func23, Try.ntmps23
  go_wp2_with (first
    | (go_at_call 28; refine (hv.out _).mono ?_; rintro e w2 ⟨rfl, hb2⟩; obtain ⟨hc2, hf2⟩ := bcell hb2; have hl2 : w.heap.size < w2.heap.size := (by have := hb2.size; (try simp at this); omega); have hk2 : w.heap.size + 1 < w2.heap.size := (by have := hb2.size; (try simp at this); omega))
    | (at_builtin
       refine wpList_append_own _ rfl _ _ 52 rfl w.heap.size 56 i0 (.agg #[.int .i64 0, .int .i64 0]) 2 16 Try.underlying52 hi hz0 hz1 hz2 rfl (by decide) _ 1 [.int .i64 1, .int .i64 u] rfl ?_ ⟨w2.heap.size, 0, none⟩ 1 1 [.int .i64 6, .int .i64 r] rfl rfl ?_ ?_ ?_ ?_ ?_ ?_
       · go_must (exact (ownsRow_below (own_lim _ _ _ _) hb2).alloc _)
       · go_must (refine two_news _ _ _ _ ?_ ?_ <;> go_simp)
       · exact one2 _ _
       · unfold maxLen; omega
       · omega
       · go_must (simp; omega)
       intro v' w1 hown' hgrow _))
  go_wp2
  go_ret2
  refine ⟨_, rfl, hown', ((by repeat' (first | exact Below.refl _ _ | refine below_drewN ?_ _ | refine Below.drew ?_ | refine Below.alloc ?_ ?_ _ | refine Below.setCell ?_ ?_ _ | refine Below.trans ?_ (Below.mono (by assumption) ?_) | (simp; done) | (simp; omega) | omega)) : Below w.heap.size w _).grown hgrow (by simp; omega) (by rintro _ ⟨⟩; simp)⟩
end Go.Proofs.Ytepcelekjjalfaa
