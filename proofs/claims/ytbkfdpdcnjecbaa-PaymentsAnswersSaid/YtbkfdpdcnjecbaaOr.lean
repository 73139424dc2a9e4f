/- Contract: orders (payments): the orders at the beginning of bytes, and how many bytes are behind them. -/
import Derived.Test.YtbkfdpdcnjecbaaRd
import Derived.Test.YtbkfdpdcnjecbaaC1
namespace Go.Proofs.Ytbkfdpdcnjecbaa
open Go.RowKit
set_option linter.unusedVariables false

def Ord4.cells (o : Ord4) : List Value := [.int .i64 o.n, .int .i64 o.f, .int .i64 o.a, .int .i64 o.d]
def ordCells (l : List Ord4) : List Value := l.flatMap Ord4.cells
theorem ordCells_len (l : List Ord4) : (ordCells l).length = l.length * 4 := by
  induction l with
  | nil => rfl
  | cons o r ih => simp [ordCells, Ord4.cells] at *; omega
theorem ordCells_snoc (l : List Ord4) (o : Ord4) : ordCells (l ++ [o]) = ordCells l ++ [.int .i64 o.n, .int .i64 o.f, .int .i64 o.a, .int .i64 o.d] := by simp [ordCells, Ord4.cells]
theorem ordCells_at (l : List Ord4) (i : Nat) (h : i < l.length) : (ordCells l)[i * 4]? = some (.int .i64 l[i].n) ∧ (ordCells l)[i * 4 + 1]? = some (.int .i64 l[i].f) ∧ (ordCells l)[i * 4 + 2]? = some (.int .i64 l[i].a) ∧ (ordCells l)[i * 4 + 3]? = some (.int .i64 l[i].d) := by
  induction l generalizing i with
  | nil => simp at h
  | cons o r ih =>
    have hc : ordCells (o :: r) = o.cells ++ ordCells r := by simp [ordCells]
    rw [hc]
    rcases i with _ | i
    · simp [Ord4.cells]
    · have := ih i (by simpa using h)
      have hl : o.cells.length = 4 := rfl
      refine ⟨?_, ?_, ?_, ?_⟩ <;> (rw [List.getElem?_append_right (by rw [hl]; omega), hl])
      · rw [show (i + 1) * 4 - 4 = i * 4 from by omega]; exact this.1
      · rw [show (i + 1) * 4 + 1 - 4 = i * 4 + 1 from by omega]; exact this.2.1
      · rw [show (i + 1) * 4 + 2 - 4 = i * 4 + 2 from by omega]; exact this.2.2.1
      · rw [show (i + 1) * 4 + 3 - 4 = i * 4 + 3 from by omega]; exact this.2.2.2
theorem ordCells_one (l : List Ord4) : ∀ u ∈ ordCells l, u.oneCell' = true := by
  intro u hu
  simp only [ordCells, List.mem_flatMap, Ord4.cells] at hu
  obtain ⟨o, _, hu⟩ := hu
  simp at hu
  rcases hu with rfl | rfl | rfl | rfl <;> rfl

/-- The number of the last order. -/
def lastN (l : List Ord4) : Int := match l.getLast? with
  | some o => o.n
  | none => 0
theorem lastN_snoc (l : List Ord4) (o : Ord4) : lastN (l ++ [o]) = o.n := by simp [lastN]
/-- Whether bytes begin with the record of an order behind others. -/
def takes (acc : List Ord4) (l : List Int) : Bool := decide (28 ≤ l.length) && okB (l.take 28) && decide (lastN acc < (ordOf (l.take 28)).n)
/-- The orders at the beginning of bytes, put behind others, and the bytes behind them. -/
def ordsA : Nat → List Ord4 → List Int → List Ord4 × List Int
  | 0, acc, l => (acc, l)
  | k + 1, acc, l => if takes acc l then ordsA k (acc ++ [ordOf (l.take 28)]) (l.drop 28) else (acc, l)
def ordsB (l : List Int) : List Ord4 × List Int := ordsA l.length [] l
theorem ordsA_stop (k : Nat) (acc : List Ord4) (l : List Int) (h : takes acc l = false) : ordsA k acc l = (acc, l) := by
  cases k with
  | zero => rfl
  | succ k => simp [ordsA, h]
theorem ordsA_step (k : Nat) (acc : List Ord4) (l : List Int) (h : takes acc l = true) (hk : l.length ≤ k) : ∃ j, (l.drop 28).length ≤ j ∧ ordsA k acc l = ordsA j (acc ++ [ordOf (l.take 28)]) (l.drop 28) := by
  have h28 : 28 ≤ l.length := by simp [takes] at h; omega
  cases k with
  | zero => omega
  | succ k => exact ⟨k, by rw [List.length_drop]; omega, by simp [ordsA, h]⟩
theorem takes_short (acc : List Ord4) (l : List Int) (h : l.length < 28) : takes acc l = false := by simp [takes]; omega
theorem ord_wf (l : List Int) : -9223372036854775808 ≤ (ordOf l).n ∧ (ordOf l).n ≤ 9223372036854775807 := by
  show -9223372036854775808 ≤ numS (seg l 0) ∧ numS (seg l 0) ≤ 9223372036854775807
  unfold numS wrap64
  omega

theorem heap_alloc_new_drew (w : World) (o : Obj) : (w.alloc o).drew.heap[w.heap.size]? = some o := heap_alloc_new w o
/-- What a call leaves that returns orders in a row of its own, and a number. -/
def OrdsPost (w : World) (l : List Ord4) (r : Int) (e : Ending) (w' : World) : Prop :=
  ∃ v, e = .returned (.tuple #[v, .int .i64 r]) ∧ w'.ownsRow w.heap.size 32 4 v l.length (ordCells l) ∧ Below w.heap.size w w'

theorem Try.infoOrder : (Try.prog.info? 32).map (fun i => (i.zero, i.size, i.bytes)) = some (some (.agg #[.int .i64 0, .int .i64 0, .int .i64 0, .int .i64 0]), 4, 32) := by kernel_rfl
/-- Some bytes, read off a slice. -/
def BySl (w : World) (v : Value) (l : List Int) : Prop := ∃ A n c, v = .slice A n c ∧ l.length = n ∧ n ≤ c ∧ c ≤ maxLen ∧ Lies w A n (l.map (.int .u8))

set_option maxHeartbeats 2000000 in
theorem orders_any (A : Option Addr) (n c : Nat) (l : List Int) (w : World) (hl : l.length = n) (hs : n ≤ 2000000) (hc : n ≤ c) (hm : c ≤ maxLen) (hb : Bytes l) (hA : Lies w A n (l.map (.int .u8))) :
    Calls Try.prog 38 #[.slice A n c] w (OrdsPost w (ordsB l).1 (ordsB l).2.length) := by
  obtain ⟨i0, hi, hz0, hz1, hz2⟩ := info_parts Try.infoOrder
  have Hl := Lib.hid hl
  have HA := Lib.hid hA
  have Hm := Lib.hid hm
  clear hl hA hm
  go_enter Try.func38, Try.ntmps38
  go_wp2
  go_loopw [0, 4, 5] (fun b o last wr => ∃ (acc : List Ord4) (r : List Int) (k : Nat), BySl w b r ∧ Bytes r ∧ r.length ≤ k ∧ r.length ≤ n ∧ acc.length * 28 + r.length = n ∧ last = .int .i64 (lastN acc) ∧ wr.ownsRow w.heap.size 32 4 o acc.length (ordCells acc) ∧ ordsA k acc r = ordsB l ∧ Below w.heap.size w wr) (fun b _ _ _ => match b with | .slice _ n _ => n | _ => 0)
  case atStart => exact ⟨[], l, n, ⟨A, n, c, rfl, Hl.out, hc, Hm.out, HA.out⟩, hb, by have := Hl.out; omega, by have := Hl.out; omega, by have := Hl.out; simp; omega, rfl, World.ownsRow_nil _ _ _ _, by unfold ordsB; rw [Hl.out], Below.refl _ _⟩
  case round =>
    obtain ⟨acc, r, k, ⟨A1, n1, c1, rfl, hr1, hc1, hm1, hA1⟩, hbr, hrk, hrn, hlen, rfl, hown, hrun, hbw⟩ := hrel
    have Hr1 := Lib.hid hr1
    have HA1 := Lib.hid hA1
    have Hown := Lib.hid hown
    have Hrun := Lib.hid hrun
    have Hlen := Lib.hid hlen
    have hacc : acc.length ≤ 2000000 := by omega
    have hn1 : n1 ≤ 2000000 := by omega
    have hn1k : n1 ≤ k := by omega
    have hn1n : n1 ≤ n := by omega
    have hsz := hbw.size
    have Hm1 := Lib.hid hm1
    clear hr1 hA1 hown hrun hlen hm1 hrk hrn
    by_cases h28 : 28 ≤ n1
    · have hA28 : Lies wr A1 28 ((r.take 28).map (.int .u8)) := by
        rcases HA1.out.below hbw with h0 | ⟨b, off, e, hlt, hcell⟩
        · omega
        · refine .inr ⟨b, off, e, hlt, fun j u hu => hcell j u ?_⟩
          rw [List.map_take, List.getElem?_take] at hu
          split at hu
          · exact hu
          · cases hu
      have Hread := Lib.hid (read_any A1 c1 (r.take 28) wr (by rw [List.length_take, Hr1.out]; omega) (by omega) Hm1.out (hbr.take 28) hA28)
      have hwf := ord_wf (r.take 28)
      have Hstep := Lib.hid (ordsA_step k acc r)
      have Hstop := Lib.hid (ordsA_stop k acc r)
      have Htk : Hid (takes acc r = (okB (r.take 28) && decide (lastN acc < (ordOf (r.take 28)).n))) := by
        show takes acc r = _
        unfold takes
        rw [Hr1.out, decide_eq_true h28, Bool.true_and]
      generalize okB (r.take 28) = ok at *
      generalize ordOf (r.take 28) = o at *
      clear hA28
      have hc28 : (28 : Int) ≤ (c1 : Int) := by omega
      have hg28 : (28 : Int) ≤ (n1 : Int) := by omega
      have Hend : Hid (takes acc r = false → ∀ W, Below wr.heap.size wr W → OrdsPost w (ordsB l).1 (ordsB l).2.length (.returned (.tuple #[u4, .int .i64 (n1 : Int)])) W) := fun h W hW => by
        rw [← Hrun.out, Hstop.out h]
        refine ⟨u4, ?_, ownsRow_below Hown.out hW, hbw.trans (hW.mono hsz)⟩
        rw [Hr1.out]
      by_cases hok : ok = true ∧ lastN acc < o.n
      · obtain ⟨hok1, hok2⟩ := hok
        have Htk1 : Hid (takes acc r = true) := by
          show takes acc r = true
          rw [Htk.out, hok1, decide_eq_true hok2]; rfl
        subst hok1
        obtain ⟨b, off, rfl, hbl, hcell⟩ := HA1.out.resolve_left (by omega)
        have Hcell := Lib.hid hcell
        clear hcell Hend Hstop
        have Hdrop : Hid (BySl w (.slice (if c1 = 28 then some ⟨b, off, none⟩ else some ⟨b, off + 28, none⟩) (n1 - 28) (c1 - 28)) (r.drop 28)) := by
          refine ⟨_, _, _, rfl, by rw [List.length_drop, Hr1.out], by omega, by have := Hm1.out; omega, ?_⟩
          by_cases h0 : n1 - 28 = 0
          · exact .inl h0
          · rw [if_neg (by omega)]
            refine .inr ⟨b, off + 28, rfl, hbl, fun j u hu => ?_⟩
            rw [Nat.add_assoc]
            exact Hcell.out (28 + j) u (by rw [← hu, List.map_drop, List.getElem?_drop])
        go_wp2_with fail
        refine Hread.out.mono ?_
        rintro e w2 ⟨rfl, hb2⟩
        have hs2 := hb2.size
        go_wp2
        obtain ⟨w3, hw3⟩ : ∃ w3 : World, w3 = w2.alloc (.cells #[.int .i64 o.n, .int .i64 o.f, .int .i64 o.a, .int .i64 o.d] 32) := ⟨_, rfl⟩
        rw [← hw3]
        have n0 : w3.cell? ⟨w2.heap.size, 0, none⟩ = some (.int .i64 o.n) := by rw [hw3]; simp [go_sem]
        have n1' : w3.cell? ⟨w2.heap.size, 1, none⟩ = some (.int .i64 o.f) := by rw [hw3]; simp [go_sem]
        have n2 : w3.cell? ⟨w2.heap.size, 2, none⟩ = some (.int .i64 o.a) := by rw [hw3]; simp [go_sem]
        have n3 : w3.cell? ⟨w2.heap.size, 3, none⟩ = some (.int .i64 o.d) := by rw [hw3]; simp [go_sem]
        have hs3 : w2.heap.size < w3.heap.size := by rw [hw3]; simp
        have hb3 : Below wr.heap.size wr w3 := by rw [hw3]; exact (by repeat' (first | with_reducible exact Below.refl _ _ | with_reducible refine below_drewN ?_ _ | with_reducible refine Below.drew ?_ | with_reducible refine Below.alloc ?_ ?_ _ | with_reducible refine Below.setCell ?_ ?_ _ | with_reducible refine Below.trans ?_ (Below.mono (by with_reducible assumption) ?_) | (simp; done) | (simp; omega) | omega))
        have hown3 : w3.ownsRow w.heap.size 32 4 u4 acc.length (ordCells acc) := ownsRow_below Hown.out hb3
        have hnew := own_fresh Hown.out
        have hub := own_base Hown.out
        have hfar : ∀ k, u4.ownBlock = some k → k < wr.heap.size := fun k hk => (Hown.out.lt k hk).2
        have hne3 : w3.heap.size ≠ w2.heap.size := by omega
        have hne4 : w2.heap.size ≠ w3.heap.size := by omega
        have Hown3 := Lib.hid hown3
        have Hb3 := Lib.hid hb3
        have Hw3 := Lib.hid hw3
        clear hown3 hw3 hb3 hnew
        go_region_held3 (fun w' => w'.cell? ⟨w2.heap.size, 0, none⟩ = some (.int .i64 o.n) ∧ w'.cell? ⟨w2.heap.size, 1, none⟩ = some (.int .i64 o.f) ∧ w'.cell? ⟨w2.heap.size, 2, none⟩ = some (.int .i64 o.a) ∧ w'.cell? ⟨w2.heap.size, 3, none⟩ = some (.int .i64 o.d))
          (first
            | go_keep
            | (refine ⟨?_, ?_, ?_, ?_⟩ <;> (rw [hg4.cell_far _ (by simp; omega) (by intro e; have := hfar _ e.symm; simp at this; omega)]; go_keep)))
          (first
            | (refine step_append_lies _ rfl (.tmp 25) (.tmp 27) 29 rfl w.heap.size 32 i0 (.agg #[.int .i64 0, .int .i64 0, .int .i64 0, .int .i64 0]) 4 32 Try.underlying29 hi hz0 hz1 hz2 rfl (by omega) u4 acc.length (ordCells acc) rfl ?_ ⟨w3.heap.size, 0, none⟩ 1 1 [.int .i64 o.n, .int .i64 o.f, .int .i64 o.a, .int .i64 o.d] rfl rfl ?_ (by simp [Value.oneCell']) (by omega) (by unfold maxLen; omega) (by omega) (by first | (simp; done) | (simp; omega) | omega) _ rfl ?_
               · first
                   | with_reducible exact Hown3.out
                   | with_reducible exact Hown3.out.alloc _
                   | with_reducible exact (Hown3.out.alloc _).drew
               · first
                   | exact World.news_of_block (cs := #[.int .i64 o.n, .int .i64 o.f, .int .i64 o.a, .int .i64 o.d]) (t := 32) (fr := (0, 0)) (heap_alloc_new_drew w3 _)
                   | with_reducible exact World.news_of_block (cs := #[.int .i64 o.n, .int .i64 o.f, .int .i64 o.a, .int .i64 o.d]) (t := 32) (fr := (0, 0)) (heap_alloc_new w3 _)
               intro gg cap w4 hown4 hg4 hat4 hlt4))
        all_goals
          go_wp2
          go_roundw
          case rel =>
            have hW : Below w.heap.size w w4 := by
              refine Below.grown (row := u4.ownBlock) ?_ hg4 (by first | (simp; omega) | (simp; done)) hub
              have hb3 := Hb3.out
              exact (by repeat' (first | with_reducible exact Below.refl _ _ | with_reducible assumption | with_reducible refine below_drewN ?_ _ | with_reducible refine Below.drew ?_ | with_reducible refine Below.alloc ?_ ?_ _ | with_reducible refine Below.setCell ?_ ?_ _ | with_reducible refine Below.trans ?_ (Below.mono (by with_reducible assumption) ?_) | with_reducible refine below_only ?_ (by with_reducible assumption) ?_ ?_ | (simp; done) | (simp; omega) | omega))
            obtain ⟨j, hj1, hj2⟩ := Hstep.out Htk1.out (by rw [Hr1.out]; exact hn1k)
            refine ⟨acc ++ [o], r.drop 28, j, Hdrop.out, hbr.drop 28, hj1, by rw [List.length_drop, Hr1.out]; omega, ?_, ?_, ?_, ?_, hW⟩
            · have := Hlen.out
              have := Hr1.out
              simp
              omega
            · rw [lastN_snoc]
            · rw [ordCells_snoc, List.length_append]
              exact hown4
            · rw [← Hrun.out, hj2]
          case measure => simp; omega
      · have Htk1 : Hid (takes acc r = false) := by
          show takes acc r = false
          rw [Htk.out]
          rcases ok with _ | _
          · rfl
          · simp at hok ⊢
            exact hok
        go_wp2_with fail
        refine Hread.out.mono ?_
        rintro e w2 ⟨rfl, hb2⟩
        have hs2 := hb2.size
        have Hq := Lib.hid (Hend.out Htk1.out)
        rcases ok with _ | _
        · go_wp2
          go_ret2
          exact Hq.out _ (by repeat' (first | with_reducible exact Below.refl _ _ | with_reducible refine below_drewN ?_ _ | with_reducible refine Below.drew ?_ | with_reducible refine Below.alloc ?_ ?_ _ | with_reducible refine Below.setCell ?_ ?_ _ | with_reducible refine Below.trans ?_ (Below.mono (by with_reducible assumption) ?_) | (simp; done) | (simp; omega) | omega))
        · have hle : o.n ≤ lastN acc := by
            have := hok
            simp at this
            exact this
          clear hok
          go_wp2
          go_ret2
          exact Hq.out _ (by repeat' (first | with_reducible exact Below.refl _ _ | with_reducible refine below_drewN ?_ _ | with_reducible refine Below.drew ?_ | with_reducible refine Below.alloc ?_ ?_ _ | with_reducible refine Below.setCell ?_ ?_ _ | with_reducible refine Below.trans ?_ (Below.mono (by with_reducible assumption) ?_) | (simp; done) | (simp; omega) | omega))
    · have Htk : Hid (takes acc r = false) := takes_short acc r (by rw [Hr1.out]; omega)
      go_wp2
      go_ret2
      refine ⟨u4, ?_, ?_, hbw⟩
      · rw [← Hrun.out, ordsA_stop k acc r Htk.out, Hr1.out]
        rfl
      · rw [← Hrun.out, ordsA_stop k acc r Htk.out]
        exact Hown.out
end Go.Proofs.Ytbkfdpdcnjecbaa
