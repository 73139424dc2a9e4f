/- A map of numbers to numbers as a function; rows of numbers in a block of slices. -/
import Derived.Test.YtjmbdfoegnfpnaaK1
import Derived.Test.YtjmbdfoegnfpnaaE7
import Derived.Test.YtjmbdfoegnfpnaaHT
import Derived.Maps.OwnSet
import Derived.Maps.OwnOps
import Derived.Maps.Own
import Derived.Deep.OwnRows
namespace Go.Proofs.Ytjmbdfoegnfpnaa
open Go.RowKit Go.Maps
set_option linter.unusedVariables false
set_option linter.unusedSimpArgs false

theorem lawInt : Keyed Try.prog 3 := int_keyed Try.underlying3
theorem zeroInt (w : World) : (zeroValue 3).run Try.prog w = .ok (.int .i64 0) w := by kernel_rfl
/-- What the map in block B holds. -/
def MapD (D : DataW Unit) (f : Int → Option Int) : Prop :=
  IsMap D ∧ ∀ x, Maps.has D (.int .i64 x) = (f x).isSome ∧ ∀ v, f x = some v → D.atKey (.int .i64 x) (.lit (.int .i64 0)) = .lit (.int .i64 v)
def MapIs (w : World) (B n : Nat) (f : Int → Option Int) : Prop :=
  ∃ D : DataW Unit, w.ownsMap Try.prog 3 (plainElem Try.prog 3) B n D ∧ MapD D f
theorem MapD.empty : MapD (.map []) (fun _ => none) := ⟨isMap_empty, fun x => ⟨rfl, fun v h => by cases h⟩⟩
theorem MapD.put {D : DataW Unit} {f : Int → Option Int} (h : MapD D f) (k v : Int) : MapD (D.put (.int .i64 k) (.lit (.int .i64 v))) (fun x => if x = k then some v else f x) := by
  refine ⟨h.1.put _ _, fun x => ?_⟩
  have hk : WideAt.IsKeyLit (Lit.int .i64 k) := trivial
  by_cases hx : x = k
  · subst hx
    dsimp only
    rw [if_pos rfl]
    refine ⟨has_put_same h.1 hk _, fun u hu => ?_⟩
    injection hu with hu
    subst hu
    exact atKey_put_same h.1 hk _ _
  · have hne : (Lit.int .i64 x) ≠ (Lit.int .i64 k) := fun e => hx (by injection e)
    dsimp only
    rw [if_neg hx, has_put_other hne, atKey_put_other hne]
    exact h.2 x
theorem MapD.congr {D : DataW Unit} {f g : Int → Option Int} (h : MapD D f) (e : ∀ x, f x = g x) : MapD D g := by
  have : f = g := funext e
  rwa [← this]
theorem MapIs.kept {w w' : World} {B n : Nat} {f : Int → Option Int} {row : Option Nat} (h : MapIs w B n f) (hg : w.grownBy w' row) (hne : some B ≠ row) : MapIs w' B n f := by
  obtain ⟨D, h1, h2⟩ := h
  exact ⟨D, h1.kept hg hne, h2⟩
theorem Below.grown_none {w w' : World} (h : Below w.heap.size w w') : w.grownBy w' none := ⟨h.os, h.tape, h.output, h.size, fun k hk _ => h.block k hk⟩
theorem MapIs.below {w w' : World} {B n : Nat} {f : Int → Option Int} (h : MapIs w B n f) (hb : Below w.heap.size w w') : MapIs w' B n f := h.kept (Below.grown_none hb) (by simp)
theorem MapIs.lt {w : World} {B n : Nat} {f : Int → Option Int} (h : MapIs w B n f) : B < w.heap.size := h.choose_spec.1.lt

theorem madeCells_list (z : Value) (n : Nat) : (madeCells #[z] n).toList = List.replicate n z := by
  refine List.ext_getElem (by simp [madeCells]) (fun i h1 h2 => ?_)
  simp [madeCells, Nat.mod_one]
theorem own_made (w : World) (e : TypeId) (z : Value) (n : Nat) (hn : n ≤ maxLen) : (w.alloc (.cells (madeCells #[z] n) e)).ownsRow w.heap.size e 1 (.slice (some ⟨w.heap.size, 0, none⟩) n n) n (List.replicate n z) :=
  ⟨by simp, .inr ⟨w.heap.size, n, madeCells #[z] n, rfl, Nat.le_refl _, heap_alloc_new w _, Nat.le_refl _, hn, by simp [size_madeCells], by rw [madeCells_list]; simp⟩⟩
theorem own_lt {w : World} {base : Nat} {e : TypeId} {size n : Nat} {v : Value} {xs : List Value} (h : w.ownsRow base e size v n xs) : ∀ g, v.ownBlock = some g → g < w.heap.size := by
  intro g hg
  rcases h.2 with ⟨rfl, _⟩ | ⟨g', cap, cur, rfl, _, hh, _⟩
  · simp [Value.ownBlock] at hg
  · have e : g' = g := by simpa [Value.ownBlock] using hg
    subst e
    rcases Nat.lt_or_ge g' w.heap.size with h | h
    · exact h
    · rw [Array.getElem?_eq_none h] at hh; cases hh
theorem own_grown {w w' : World} {base : Nat} {e : TypeId} {size n : Nat} {v : Value} {xs : List Value} {row : Option Nat} (h : w.ownsRow base e size v n xs) (hg : w.grownBy w' row) (hr : ∀ g, v.ownBlock = some g → row ≠ some g) : w'.ownsRow base e size v n xs := by
  obtain ⟨h1, h2⟩ := h
  refine ⟨h1, ?_⟩
  rcases h2 with h2 | ⟨g', cap, cur, rfl, hb, hh, r⟩
  · exact .inl h2
  · have hlt : g' < w.heap.size := by
      rcases Nat.lt_or_ge g' w.heap.size with h | h
      · exact h
      · rw [Array.getElem?_eq_none h] at hh; cases hh
    exact .inr ⟨g', cap, cur, rfl, hb, (hg.block g' hlt (fun e => hr g' (by simp [Value.ownBlock]) e.symm)).trans hh, r⟩
theorem own_setOut {w : World} {base : Nat} {e : TypeId} {size n : Nat} {v : Value} {xs : List Value} (h : w.ownsRow base e size v n xs) {p : Addr} (hp : p.block < base) (u : Value) : (w.setCell p u).ownsRow base e size v n xs :=
  own_keep h (fun b _ hb => Below.heap_setCell w p u b (by omega))

/-- Rows of numbers, each in a cell of block I; all of them younger than base. -/
structure InAt (W : World) (I base : Nat) (rows : List (List Int)) (vs : List Value) : Prop where
  len : vs.length = rows.length
  blk : W.ownsRow I 22 1 (.slice (some ⟨I, 0, none⟩) rows.length rows.length) rows.length vs
  own : ∀ k (h : k < rows.length) (h' : k < vs.length), W.ownsRow base 3 1 vs[k] rows[k].length (rows[k].map (.int .i64))
  ap : ∀ j k (hj : j < vs.length) (hk : k < vs.length), j ≠ k → ∀ g, vs[j].ownBlock = some g → vs[k].ownBlock ≠ some g
  lt : I < base
theorem InAt.keep {W W' : World} {I base : Nat} {rows : List (List Int)} {vs : List Value} (h : InAt W I base rows vs) (hk : ∀ b, b < W.heap.size → I ≤ b → W'.heap[b]? = W.heap[b]?) : InAt W' I base rows vs :=
  ⟨h.len, own_keep h.blk hk, fun k h1 h2 => own_keep (h.own k h1 h2) (fun b hb hB => hk b hb (by have := h.lt; omega)), h.ap, h.lt⟩
theorem InAt.below {W W' : World} {I base : Nat} {rows : List (List Int)} {vs : List Value} (h : InAt W I base rows vs) (hb : Below W.heap.size W W') : InAt W' I base rows vs := h.keep fun b hlt _ => hb.block b hlt
theorem InAt.grown {W W' : World} {I base : Nat} {rows : List (List Int)} {vs : List Value} {g : Nat} (h : InAt W I base rows vs) (hg : W.grownBy W' (some g)) (hlt : g < I) : InAt W' I base rows vs :=
  h.keep fun b hb hB => hg.block b hb (fun e => by injection e; omega)
theorem InAt.cell {W : World} {I base : Nat} {rows : List (List Int)} {vs : List Value} (h : InAt W I base rows vs) {k : Nat} (hk : k < vs.length) : W.cell? ⟨I, k, none⟩ = some vs[k] := by
  have := World.ownsRow.cells (g := I) h.blk rfl k vs[k] (by simp [hk])
  rwa [add_none, Nat.zero_add] at this
theorem InAt.frozen {W : World} {I base : Nat} {rows : List (List Int)} {vs : List Value} (h : InAt W I base rows vs) (hn : 0 < rows.length) (k : Nat) : W.frozen? ⟨I, k, none⟩ = false := by
  obtain ⟨g, cap, e, _, _, _, _, _, hf⟩ := own_at h.blk hn
  injection e with e1 _ _
  injection e1 with e2
  injection e2 with e3
  rw [e3]
  exact hf k
theorem InAt.push {W Wa W5 : World} {I base : Nat} {rows : List (List Int)} {vs : List Value} (h : InAt W I base rows vs) {k : Nat} (hk : k < rows.length) (hk' : k < vs.length) {x : Int} {v5 : Value} (ha : Below W.heap.size W Wa) (hg : Wa.grownBy W5 vs[k].ownBlock)
    (hown : W5.ownsRow base 3 1 v5 (rows[k].length + 1) (rows[k].map (Value.int .i64) ++ [.int .i64 x])) (hat : v5.ownBlock = vs[k].ownBlock ∨ v5.ownBlock = some Wa.heap.size) : InAt (W5.setCell ⟨I, k, none⟩ v5) I base (rows.set k (rows[k] ++ [x])) (vs.set k v5) := by
  have hlt := h.lt
  have hI : ∀ g, vs[k].ownBlock = some g → base ≤ g := own_base (h.own k hk hk')
  refine ⟨by simp [h.len], ?_, ?_, ?_, hlt⟩
  · have h1 := ownsRow_below h.blk ha
    have h2 := own_grown h1 hg (fun g hg2 e => by
      have := hI g e
      have : I = g := by simpa [Value.ownBlock] using hg2
      omega)
    have h3 := own_setN h2 k v5
    simpa using h3
  · intro j h1 h2
    rw [List.getElem_set, List.getElem_set]
    by_cases he : k = j
    · subst he
      simp only [if_true]
      have := own_setOut hown (p := ⟨I, k, none⟩) hlt v5
      simpa using this
    · simp only [he, if_false]
      have hj : j < vs.length := by simpa using h2
      have hj' : j < rows.length := by simpa using h1
      refine own_setOut (own_grown (ownsRow_below (h.own j hj' hj) ha) hg (fun g hg2 e => ?_)) hlt v5
      exact h.ap j k hj hk' (fun e => he e.symm) g hg2 e
  · intro i j hi hj hij g hg2
    have hi' : i < vs.length := by simpa using hi
    have hj' : j < vs.length := by simpa using hj
    have hnew : ∀ m (hm : m < vs.length), m ≠ k → ∀ g, v5.ownBlock = some g → vs[m].ownBlock ≠ some g := by
      intro m hm hmk g hv e
      have hml : m < rows.length := by have := h.len; omega
      rcases hat with h0 | h0
      · exact h.ap k m hk' hm (fun e => hmk e.symm) g (by rw [← h0]; exact hv) e
      · rw [h0] at hv
        injection hv with hv
        have := own_lt (h.own m hml hm) g e
        have := ha.size
        omega
    rw [List.getElem_set] at hg2 ⊢
    by_cases h1 : k = i
    · subst h1
      simp only [if_true] at hg2
      rw [if_neg hij]
      exact hnew j hj' (fun e => hij e.symm) g hg2
    · simp only [h1, if_false] at hg2
      by_cases h2 : k = j
      · subst h2
        simp only [if_true]
        exact fun e => hnew i hi' hij g e hg2
      · rw [if_neg h2]
        exact h.ap i j hi' hj' hij g hg2
theorem InAt.setOut {W : World} {I base : Nat} {rows : List (List Int)} {vs : List Value} (h : InAt W I base rows vs) {p : Addr} (h1 : I < p.block) (h2 : p.block < base) (u : Value) : InAt (W.setCell p u) I base rows vs := by
  refine ⟨h.len, ?_, fun k h3 h4 => own_setOut (h.own k h3 h4) h2 u, h.ap, h.lt⟩
  obtain ⟨e1, e2⟩ := h.blk
  refine ⟨e1, ?_⟩
  rcases e2 with e2 | ⟨g, cap, cur, hv, hb, hh, r⟩
  · exact .inl e2
  · have hg : g = I := by
      injection hv with a _ _
      injection a with b
      injection b with d
      exact d.symm
    exact .inr ⟨g, cap, cur, hv, hb, (Below.heap_setCell W p u g (by omega)).trans hh, r⟩
theorem own_setTop {w : World} {base : Nat} {e : TypeId} {size n : Nat} {g cap : Nat} {xs : List Value} (h : w.ownsRow base e size (.slice (some ⟨g, 0, none⟩) n cap) n xs) {p : Addr} (hp : p.block ≠ g) (u : Value) : (w.setCell p u).ownsRow base e size (.slice (some ⟨g, 0, none⟩) n cap) n xs := by
  obtain ⟨e1, e2⟩ := h
  refine ⟨e1, ?_⟩
  rcases e2 with e2 | ⟨g', cap, cur, hv, hb, hh, r⟩
  · exact .inl e2
  · have hg : g' = g := by
      injection hv with a _ _
      injection a with b
      injection b with d
      exact d.symm
    exact .inr ⟨g', cap, cur, hv, hb, (Below.heap_setCell w p u g' (by omega)).trans hh, r⟩
def lensP (rows : List (List Int)) : List Int := rows.map fun r => (r.length : Int)
theorem lensP_len (rows : List (List Int)) : (lensP rows).length = rows.length := by simp [lensP]
theorem lensP_set (rows : List (List Int)) (k : Nat) (r : List Int) : (lensP (rows.set k r)).map (Value.int .i64) = ((lensP rows).map (Value.int .i64)).set k (.int .i64 (r.length : Int)) := by simp [lensP, List.map_set]
theorem own_top {w : World} {base : Nat} {e : TypeId} {n g cap : Nat} {xs : List Value} (h : w.ownsRow base e 1 (.slice (some ⟨g, 0, none⟩) n cap) n xs) (hn : 0 < n) : g < w.heap.size ∧ (∀ j u, xs[j]? = some u → w.cell? ⟨g, j, none⟩ = some u) ∧ ∀ j, w.frozen? ⟨g, j, none⟩ = false := by
  obtain ⟨g', cap', e1, _, h2, _, _, h3, h4⟩ := own_at h hn
  injection e1 with a _ _
  injection a with b
  injection b with d
  subst d
  exact ⟨h2, h3, h4⟩
theorem InAt.mid {W Wa W5 : World} {I base : Nat} {rows : List (List Int)} {vs : List Value} (h : InAt W I base rows vs) {k : Nat} (hk : k < rows.length) (hk' : k < vs.length) (ha : Below W.heap.size W Wa) (hg : Wa.grownBy W5 vs[k].ownBlock) : W5.ownsRow I 22 1 (.slice (some ⟨I, 0, none⟩) rows.length rows.length) rows.length vs := by
  have hlt := h.lt
  have hI : ∀ g, vs[k].ownBlock = some g → base ≤ g := own_base (h.own k hk hk')
  exact own_grown (ownsRow_below h.blk ha) hg (fun g hg2 e => by
    have := hI g e
    have : I = g := by simpa [Value.ownBlock] using hg2
    omega)
theorem rowsP_nil (q : Pl) (R : List Int) (m : Nat) : rowsP q R m [] = List.replicate m [] := by
  unfold rowsP
  refine List.ext_getElem (by simp) (fun i h1 h2 => by simp [farms])
theorem lensP_nil (q : Pl) (R : List Int) (m : Nat) : lensP (rowsP q R m []) = List.replicate m 0 := by rw [rowsP_nil]; simp [lensP]
theorem InAt.made (w : World) (base n : Nat) (hn : n ≤ maxLen) (hb : w.heap.size < base) : InAt (w.alloc (.cells (madeCells #[.slice none 0 0] n) 22)) w.heap.size base (List.replicate n []) (List.replicate n (.slice none 0 0)) := by
  refine ⟨by simp, by simpa using own_made w 22 (.slice none 0 0) n hn, ?_, ?_, hb⟩
  · intro k h1 h2
    simp only [List.getElem_replicate]
    exact World.ownsRow_nil _ _ _ _
  · intro j k hj hk _ g hg
    simp [Value.ownBlock] at hg
end Go.Proofs.Ytjmbdfoegnfpnaa
