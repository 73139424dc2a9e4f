/- Regions, plain: what region's Build and the reference's Combine compute is the canonical form of the same set of squares. No function of the program is met here. -/
import Derived.Test.YtpcfhcdbibklcaaGreatGp
import Derived.Lib.SlicesCompact
namespace Go.Proofs.YtpcfhcdbibklcaaGreat
set_option linter.unusedVariables false

/-- Ascending. -/
def srt (l : List Int) : List Int := l.mergeSort fun x y => decide (x ≤ y)
theorem srt_le (l : List Int) : (srt l).Pairwise (· ≤ ·) := by
  have := List.pairwise_mergeSort (le := fun x y : Int => decide (x ≤ y)) (by intro a b c h1 h2; simp at *; omega) (by intro a b; simp; omega) l
  exact this.imp fun h => by simpa using h
theorem srt_mem (l : List Int) (k : Int) : k ∈ srt l ↔ k ∈ l := (List.mergeSort_perm l _).mem_iff
theorem srt_len (l : List Int) : (srt l).length = l.length := (List.mergeSort_perm l _).length_eq
/-- Ascending, each once. -/
def asc (l : List Int) : List Int := Lib.compact (srt l)
theorem compact_upto (d : Array Int) (hd : ∀ i j, i ≤ j → j < d.size → d[i]! ≤ d[j]!) : ∀ m, m ≤ d.size → (Lib.compactUpTo d m).Pairwise (· < ·) ∧ (∀ k, k ∈ Lib.compactUpTo d m ↔ ∃ j, j < m ∧ d[j]! = k) ∧ (Lib.compactUpTo d m).length ≤ m
  | 0, _ => by simp [Lib.compactUpTo]
  | m + 1, hm => by
    obtain ⟨h1, h2, h3⟩ := compact_upto d hd m (by omega)
    rw [Lib.compactUpTo_succ]
    by_cases hk : Lib.keeps d m
    · rw [if_pos hk]
      refine ⟨?_, fun k => ?_, by simp; omega⟩
      · rw [List.pairwise_append]
        refine ⟨h1, by simp, fun a ha b hb => ?_⟩
        simp at hb
        subst hb
        obtain ⟨j, hj, rfl⟩ := (h2 a).1 ha
        have e1 := hd j (m - 1) (by omega) (by omega)
        have e2 := hd (m - 1) m (by omega) (by omega)
        have e3 : d[m]! ≠ d[m - 1]! := by
          simp [Lib.keeps] at hk
          rcases hk with hk | hk
          · omega
          · simpa using hk
        omega
      · simp only [List.mem_append, h2, List.mem_singleton]
        constructor
        · rintro (⟨j, hj, e⟩ | e)
          · exact ⟨j, by omega, e⟩
          · exact ⟨m, by omega, e.symm⟩
        · rintro ⟨j, hj, e⟩
          by_cases hjm : j = m
          · exact .inr (by rw [← e, hjm])
          · exact .inl ⟨j, by omega, e⟩
    · rw [if_neg hk, List.append_nil]
      refine ⟨h1, fun k => ?_, by omega⟩
      rw [h2]
      constructor
      · rintro ⟨j, hj, e⟩
        exact ⟨j, by omega, e⟩
      · rintro ⟨j, hj, e⟩
        by_cases hjm : j = m
        · subst hjm
          have hm0 : j ≠ 0 := by intro h; simp [Lib.keeps, h] at hk
          refine ⟨j - 1, by omega, ?_⟩
          simp [Lib.keeps, hm0] at hk
          rw [← e]
          simpa using hk.symm
        · exact ⟨j, by omega, e⟩
theorem asc_all (l : List Int) : (asc l).Pairwise (· < ·) ∧ (∀ k, k ∈ asc l ↔ k ∈ l) ∧ (asc l).length ≤ l.length := by
  have hd : ∀ i j, i ≤ j → j < (srt l).toArray.size → (srt l).toArray[i]! ≤ (srt l).toArray[j]! := by
    intro i j hij hj
    have hj' : j < (srt l).length := by simpa using hj
    have := List.pairwise_iff_getElem.1 (srt_le l) i j (by omega) hj'
    by_cases h : i = j
    · subst h; exact Int.le_refl _
    · simpa [getElem!_pos, hj', show i < (srt l).length by omega] using this (by omega)
  obtain ⟨h1, h2, h3⟩ := compact_upto (srt l).toArray hd (srt l).length (by simp)
  refine ⟨h1, fun k => ?_, by unfold asc Lib.compact; exact Nat.le_trans h3 (Nat.le_of_eq (srt_len l))⟩
  rw [← srt_mem l k]
  unfold asc Lib.compact
  rw [h2]
  constructor
  · rintro ⟨j, hj, rfl⟩
    simp [getElem!_pos, hj]
  · intro h
    obtain ⟨j, hj, e⟩ := List.getElem_of_mem h
    exact ⟨j, hj, by simpa [getElem!_pos, hj] using e⟩

/-- The rows, the columns at which rectangles begin or end. -/
def yEdges (l : List R4) : List Int := l.flatMap fun q => [q.b, q.t]
def xEdges (l : List R4) : List Int := l.flatMap fun q => [q.l, q.r]
theorem yEdges_mem {l : List R4} {q : R4} (h : q ∈ l) : q.b ∈ yEdges l ∧ q.t ∈ yEdges l := by
  simp only [yEdges, List.mem_flatMap]
  exact ⟨⟨q, h, by simp⟩, ⟨q, h, by simp⟩⟩
theorem xEdges_mem {l : List R4} {q : R4} (h : q ∈ l) : q.l ∈ xEdges l ∧ q.r ∈ xEdges l := by
  simp only [xEdges, List.mem_flatMap]
  exact ⟨⟨q, h, by simp⟩, ⟨q, h, by simp⟩⟩
theorem yEdges_len (l : List R4) : (yEdges l).length = 2 * l.length := by
  induction l with
  | nil => rfl
  | cons q t ih => simp [yEdges] at ih ⊢; omega

/-- A number put into an ascending list, once. -/
def putL : List Int → Int → List Int
  | [], n => [n]
  | x :: t, n => if x < n then x :: putL t n else if x = n then x :: t else n :: x :: t
theorem putL_mem : ∀ (l : List Int) (n k : Int), k ∈ putL l n ↔ k = n ∨ k ∈ l
  | [], n, k => by simp [putL]
  | x :: t, n, k => by
    unfold putL
    split
    · simp [putL_mem t n k]; constructor <;> (intro h; rcases h with h | h | h <;> simp [h])
    · split
      · rename_i h; simp [h]
      · simp
theorem putL_lt : ∀ (l : List Int) (n : Int), l.Pairwise (· < ·) → (putL l n).Pairwise (· < ·)
  | [], n, _ => by simp [putL]
  | x :: t, n, h => by
    obtain ⟨h1, h2⟩ := List.pairwise_cons.1 h
    unfold putL
    split
    · rename_i hx
      refine List.pairwise_cons.2 ⟨fun k hk => ?_, putL_lt t n h2⟩
      rcases (putL_mem t n k).1 hk with rfl | hk
      · exact hx
      · exact h1 k hk
    · split
      · exact h
      · rename_i h3 h4
        refine List.pairwise_cons.2 ⟨fun k hk => ?_, h⟩
        rcases List.mem_cons.1 hk with rfl | hk
        · omega
        · have := h1 k hk; omega
theorem puts_lt : ∀ (es l : List Int), l.Pairwise (· < ·) → (es.foldl putL l).Pairwise (· < ·)
  | [], l, h => h
  | e :: es, l, h => puts_lt es _ (putL_lt l e h)
theorem puts_mem : ∀ (es l : List Int) (k : Int), k ∈ es.foldl putL l ↔ k ∈ es ∨ k ∈ l
  | [], l, k => by simp
  | e :: es, l, k => by
    rw [List.foldl_cons, puts_mem es, putL_mem]
    simp only [List.mem_cons]
    constructor
    · rintro (h | h | h) <;> simp [h]
    · rintro ((h | h) | h) <;> simp [h]

theorem has_same_x {q : R4} {x z y : Int} (h1 : q.l ≤ x ∨ z < q.l) (h2 : q.r ≤ x ∨ z < q.r) (hxz : x ≤ z) : q.has z y = q.has x y := by
  unfold R4.has
  rw [show decide (q.l ≤ z) = decide (q.l ≤ x) from by simp; omega, show decide (z < q.r) = decide (x < q.r) from by simp; omega]
theorem has_same_y {q : R4} {x y z : Int} (h1 : q.b ≤ y ∨ z < q.b) (h2 : q.t ≤ y ∨ z < q.t) (hxz : y ≤ z) : q.has x z = q.has x y := by
  unfold R4.has
  rw [show decide (q.b ≤ z) = decide (q.b ≤ y) from by simp; omega, show decide (z < q.t) = decide (y < q.t) from by simp; omega]
theorem any_congr' {α : Type} {l : List α} {f g : α → Bool} (h : ∀ a ∈ l, f a = g a) : l.any f = l.any g := by
  induction l with
  | nil => rfl
  | cons a t ih => simp only [List.any_cons]; rw [h a (by simp), ih fun b hb => h b (by simp [hb])]
theorem any_false' {α : Type} {l : List α} {f : α → Bool} (h : ∀ a ∈ l, f a = false) : l.any f = false := by
  rw [any_congr' (g := fun _ => false) h]; simp
theorem inL_steady_x (l : List R4) (y : Int) (cuts : List Int) (h : ∀ q ∈ l, q.l ∈ cuts ∧ q.r ∈ cuts) : Steady (fun x => inL l x y) cuts := fun x z hx hz hk =>
  any_congr' fun q hq => has_same_x (hk _ (h q hq).1) (hk _ (h q hq).2) hz
theorem inL_steady_y (l : List R4) (x : Int) (cuts : List Int) (h : ∀ q ∈ l, q.b ∈ cuts ∧ q.t ∈ cuts) : Steady (fun y => inL l x y) cuts := fun y z hy hz hk =>
  any_congr' fun q hq => has_same_y (hk _ (h q hq).1) (hk _ (h q hq).2) hz
theorem inL_out_x (l : List R4) (y : Int) (cuts : List Int) (h : ∀ q ∈ l, q.l ∈ cuts ∧ q.r ∈ cuts) (z : Int) (hz : (∀ k ∈ cuts, z < k) ∨ ∀ k ∈ cuts, k ≤ z) : inL l z y = false :=
  any_false' fun q hq => by
    unfold R4.has
    rcases hz with hz | hz
    · have := hz _ (h q hq).1; simp; omega
    · have := hz _ (h q hq).2; simp; omega
theorem inL_out_y (l : List R4) (x : Int) (cuts : List Int) (h : ∀ q ∈ l, q.b ∈ cuts ∧ q.t ∈ cuts) (z : Int) (hz : (∀ k ∈ cuts, z < k) ∨ ∀ k ∈ cuts, k ≤ z) : inL l x z = false :=
  any_false' fun q hq => by
    unfold R4.has
    rcases hz with hz | hz
    · have := hz _ (h q hq).1; simp; omega
    · have := hz _ (h q hq).2; simp; omega
/-- The segments between cuts of a property that changes at cuts alone. -/
theorem segs_opt (p : Int → Bool) (cuts : List Int) (hp : cuts.Pairwise (· < ·)) (hs : Steady p cuts) (ho : ∀ z, (∀ k ∈ cuts, z < k) ∨ (∀ k ∈ cuts, k ≤ z) → p z = false) : Segs (fun x => opt (p x)) (foldC (fun x => opt (p x)) cuts []) :=
  segs_of_cuts cuts hp (Steady.adj hp fun x z hx hz hk => by rw [hs x z hx hz hk]) (fun z hz => by rw [ho z (.inl hz)]; rfl) (fun z hz => by rw [ho z (.inr hz)]; rfl)
theorem segs_none {p : Int → Bool} (h : ∀ x, p x = false) {l : List (Sg Unit)} (hl : Segs (fun x => opt (p x)) l) : l = [] :=
  hl.uniq ⟨0, fun x _ => by simp only; rw [h x]; rfl, fun x _ => by simp only; rw [h x]; rfl⟩

/-- The reference's Combine: rows between cuts, of each the spans between cuts; equal neighbours are one band. -/
def rowC (how : Bool → Bool → Bool) (a b : List R4) (xs : List Int) (y : Int) : List (Sg Unit) := foldC (fun x => opt (how (inL a x y) (inL b x y))) xs []
def bandsC (how : Bool → Bool → Bool) (a b : List R4) (xs : List Int) (ys : List Int) (acc : List (Sg (List (Sg Unit)))) : List (Sg (List (Sg Unit))) := foldC (fun y => nz (rowC how a b xs y)) ys acc
def xsC (a b : List R4) : List Int := (xEdges (a ++ b)).foldl putL []
def ysC (a b : List R4) : List Int := (yEdges (a ++ b)).foldl putL []
def combP (how : Bool → Bool → Bool) (a b : List R4) : List R4 := flat (bandsC how a b (xsC a b) (ysC a b) [])

theorem comb_canon (how : Bool → Bool → Bool) (h0 : how false false = false) (a b : List R4) : Canon (fun x y => how (inL a x y) (inL b x y)) (combP how a b) := by
  have hx : ∀ q, q ∈ a ∨ q ∈ b → q.l ∈ xsC a b ∧ q.r ∈ xsC a b := by
    intro q hq
    have := xEdges_mem (l := a ++ b) (List.mem_append.2 hq)
    exact ⟨(puts_mem _ _ _).2 (.inl this.1), (puts_mem _ _ _).2 (.inl this.2)⟩
  have hy : ∀ q, q ∈ a ∨ q ∈ b → q.b ∈ ysC a b ∧ q.t ∈ ysC a b := by
    intro q hq
    have := yEdges_mem (l := a ++ b) (List.mem_append.2 hq)
    exact ⟨(puts_mem _ _ _).2 (.inl this.1), (puts_mem _ _ _).2 (.inl this.2)⟩
  have hrow : ∀ y, Segs (fun x => opt (how (inL a x y) (inL b x y))) (rowC how a b (xsC a b) y) := fun y =>
    segs_opt (fun x => how (inL a x y) (inL b x y)) _ (puts_lt _ _ List.Pairwise.nil)
      (fun x z h1 h2 h3 => by
        have e1 := inL_steady_x a y (xsC a b) (fun q hq => hx q (.inl hq)) x z h1 h2 h3
        have e2 := inL_steady_x b y (xsC a b) (fun q hq => hx q (.inr hq)) x z h1 h2 h3
        simp only at e1 e2 ⊢
        rw [e1, e2])
      (fun z hz => by rw [inL_out_x a y _ (fun q hq => hx q (.inl hq)) z hz, inL_out_x b y _ (fun q hq => hx q (.inr hq)) z hz, h0])
  refine ⟨fun y => rowC how a b (xsC a b) y, _, hrow, segs_of_cuts _ (puts_lt _ _ List.Pairwise.nil) (Steady.adj (puts_lt _ _ List.Pairwise.nil) ?_) ?_ ?_, rfl⟩
  · intro y z h1 h2 h3
    have e1 := fun x => inL_steady_y a x (ysC a b) (fun q hq => hy q (.inl hq)) y z h1 h2 h3
    have e2 := fun x => inL_steady_y b x (ysC a b) (fun q hq => hy q (.inr hq)) y z h1 h2 h3
    simp only at e1 e2
    unfold rowC
    simp only [e1, e2]
  · intro z hz
    have : rowC how a b (xsC a b) z = [] := segs_none (p := fun x => how (inL a x z) (inL b x z)) (fun x => by rw [inL_out_y a x _ (fun q hq => hy q (.inl hq)) z (.inl hz), inL_out_y b x _ (fun q hq => hy q (.inr hq)) z (.inl hz), h0]) (hrow z)
    simp only; rw [this]; rfl
  · intro z hz
    have : rowC how a b (xsC a b) z = [] := segs_none (p := fun x => how (inL a x z) (inL b x z)) (fun x => by rw [inL_out_y a x _ (fun q hq => hy q (.inl hq)) z (.inr hz), inL_out_y b x _ (fun q hq => hy q (.inr hq)) z (.inr hz), h0]) (hrow z)
    simp only; rw [this]; rfl

theorem flat_nz (bs : List (Sg (List (Sg Unit)))) : flat (bs.filterMap fun s => (nz s.2.2).map fun u => (s.1, s.2.1, u)) = flat bs := by
  induction bs with
  | nil => rfl
  | cons s t ih =>
    unfold flat at ih ⊢
    cases hs : s.2.2 with
    | nil => rw [List.filterMap_cons_none (by simp [nz, hs]), ih]; simp [hs]
    | cons p r => rw [List.filterMap_cons_some (by simp [nz, hs]; rfl), List.flatMap_cons, ih]; simp [hs]

/-- region's Build: rows between cuts; equal neighbours are one band. -/
def buildP (row : Int → List (Sg Unit)) (cuts : List Int) : List R4 := flat (foldC (fun y => some (row y)) cuts [])
theorem build_canon (P : Int → Int → Bool) (row : Int → List (Sg Unit)) (cuts : List Int) (hr : ∀ y, Segs (fun x => opt (P x y)) (row y)) (hp : cuts.Pairwise (· < ·)) (hs : ∀ x, Steady (fun y => P x y) cuts) (ho : ∀ x z, (∀ k ∈ cuts, z < k) ∨ (∀ k ∈ cuts, k ≤ z) → P x z = false) : Canon P (buildP row cuts) := by
  have hsame : ∀ y z, y ∈ cuts → y ≤ z → (∀ k ∈ cuts, k ≤ y ∨ z < k) → row z = row y := fun y z h1 h2 h3 => by
    have e : (fun x => opt (P x z)) = fun x => opt (P x y) := funext fun x => by have := hs x y z h1 h2 h3; simp only at this; rw [this]
    exact (e ▸ hr z).uniq (hr y)
  have hnone : ∀ z, (∀ k ∈ cuts, z < k) ∨ (∀ k ∈ cuts, k ≤ z) → row z = [] := fun z hz => segs_none (p := fun x => P x z) (fun x => ho x z hz) (hr z)
  obtain ⟨f, hf⟩ : ∃ f : Int → Option (List (Sg Unit)), ∀ y, f y = if (∃ k ∈ cuts, k ≤ y) ∧ (∃ k ∈ cuts, y < k) then some (row y) else none := by
    classical
    exact ⟨fun y => if (∃ k ∈ cuts, k ≤ y) ∧ (∃ k ∈ cuts, y < k) then some (row y) else none, fun y => by congr⟩
  have hadj : ∀ pre l, cuts = pre ++ l → l.Pairwise (· < ·) → (∀ a ∈ pre, ∀ b ∈ l, a < b) → Adj f (fun y => some (row y)) l := by
    intro pre l
    induction l generalizing pre with
    | nil => intros; trivial
    | cons x r ih =>
      cases r with
      | nil => intros; trivial
      | cons y r =>
        intro hc hl hpre
        obtain ⟨h1, h2⟩ := List.pairwise_cons.1 hl
        refine ⟨fun z hz hy => ?_, ih (pre ++ [x]) (by simp [hc]) h2 fun a ha b hb => ?_⟩
        · rw [hf, if_pos ⟨⟨x, by simp [hc], hz⟩, ⟨y, by simp [hc], hy⟩⟩]
          simp only
          rw [hsame x z (by simp [hc]) hz fun k hk => ?_]
          rw [hc] at hk
          rcases List.mem_append.1 hk with hk | hk
          · exact .inl (by have := hpre k hk x (by simp); omega)
          · rcases List.mem_cons.1 hk with rfl | hk
            · exact .inl (Int.le_refl _)
            · rcases List.mem_cons.1 hk with rfl | hk
              · exact .inr hy
              · exact .inr (by have := (List.pairwise_cons.1 h2).1 k hk; omega)
        · rcases List.mem_append.1 ha with ha | ha
          · exact hpre a ha b (by simp [List.mem_cons.1 hb])
          · simp at ha; subst ha; exact h1 b hb
  have h1 : Segs f (foldC (fun y => some (row y)) cuts []) := by
    refine segs_of_cuts cuts hp (hadj [] cuts rfl hp (by simp)) (fun z hz => ?_) (fun z hz => ?_)
    · rw [hf, if_neg]
      rintro ⟨⟨k, hk, h⟩, _⟩
      have := hz k hk; omega
    · rw [hf, if_neg]
      rintro ⟨_, ⟨k, hk, h⟩⟩
      have := hz k hk; omega
  refine ⟨row, _, hr, ?_, (flat_nz _).symm⟩
  have h2 := h1.bind nz nz_inj
  have e : (fun x => (f x).bind nz) = fun y => nz (row y) := funext fun y => by
    rw [hf]
    split
    · rfl
    · rename_i h
      have : row y = [] := by
        apply hnone
        rw [Classical.not_and_iff_not_or_not] at h
        rcases h with h | h
        · exact .inl fun k hk => by
            rcases Int.lt_or_le y k with h1 | h1
            · exact h1
            · exact absurd ⟨k, hk, h1⟩ h
        · exact .inr fun k hk => by
            rcases Int.lt_or_le y k with h1 | h1
            · exact absurd ⟨k, hk, h1⟩ h
            · exact h1
      rw [this]; rfl
  exact e ▸ h2

/-- region's Row. -/
def covers (y : Int) (q : R4) : Bool := decide (q.b ≤ y) && decide (y < q.t)
def spansAt (l : List R4) (y : Int) : List (Sg Unit) := (l.filter (covers y)).map fun q => (q.l, q.r, ())
def rowP (l : List R4) (y : Int) : List (Sg Unit) := ((spansAt l y).mergeSort fun p q => decide (p.1 ≤ q.1)).foldl sweep []
theorem spansAt_any (l : List R4) (x y : Int) : (spansAt l y).any (inS · x) = inL l x y := by
  unfold spansAt inL
  rw [List.any_map, List.any_filter]
  refine any_congr' fun q _ => ?_
  simp only [covers, inS, R4.has, Function.comp]
  rw [Bool.eq_iff_iff]; simp; omega
theorem any_perm {α : Type} {l m : List α} (h : l.Perm m) (f : α → Bool) : l.any f = m.any f := by
  rw [Bool.eq_iff_iff, List.any_eq_true, List.any_eq_true]
  constructor
  · rintro ⟨a, ha, e⟩; exact ⟨a, h.mem_iff.1 ha, e⟩
  · rintro ⟨a, ha, e⟩; exact ⟨a, h.mem_iff.2 ha, e⟩
/-- Whatever order stands behind sorting, the spans are the same. -/
theorem row_segs (l : List R4) (y : Int) (hl : ∀ q ∈ l, q.l < q.r) (ss : List (Sg Unit)) (hp : ss.Perm (spansAt l y)) (hs : ss.Pairwise (fun a b => a.1 ≤ b.1)) : Segs (fun x => opt (inL l x y)) (ss.foldl sweep []) := by
  have h := sweep_segs ss [] (fun _ => false) (fun s hs => ?_) hs ⟨0, fun x _ => rfl, fun x _ => rfl⟩ (by simp)
  · simp only [Bool.false_or] at h
    have e : (fun x => opt (ss.any (inS · x))) = fun x => opt (inL l x y) := funext fun x => by rw [any_perm hp, spansAt_any]
    exact e ▸ h
  · have := hp.mem_iff.1 hs
    simp only [spansAt, List.mem_map, List.mem_filter] at this
    obtain ⟨q, hq, rfl⟩ := this
    exact hl q hq.1
theorem rowP_segs (l : List R4) (y : Int) (hl : ∀ q ∈ l, q.l < q.r) : Segs (fun x => opt (inL l x y)) (rowP l y) := by
  refine row_segs l y hl _ (List.mergeSort_perm _ _) ?_
  have := List.pairwise_mergeSort (le := fun p q : Sg Unit => decide (p.1 ≤ q.1)) (by intro a b c h1 h2; simp at *; omega) (by intro a b; simp; omega) (spansAt l y)
  exact this.imp fun h => by simpa using h
theorem rowP_eq (l : List R4) (y : Int) (hl : ∀ q ∈ l, q.l < q.r) (ss : List (Sg Unit)) (hp : ss.Perm (spansAt l y)) (hs : ss.Pairwise (fun a b => a.1 ≤ b.1)) : ss.foldl sweep [] = rowP l y :=
  (row_segs l y hl ss hp hs).uniq (rowP_segs l y hl)
theorem spansAt_len (l : List R4) (y : Int) : (spansAt l y).length ≤ l.length := by
  unfold spansAt; rw [List.length_map]; exact List.length_filter_le _ _
theorem rowP_len (l : List R4) (y : Int) : (rowP l y).length ≤ l.length := by
  have h1 := sweeps_len ((spansAt l y).mergeSort fun p q => decide (p.1 ≤ q.1)) []
  rw [(List.mergeSort_perm _ _).length_eq] at h1
  have h2 := spansAt_len l y
  unfold rowP
  simp at h1 ⊢
  omega

/-- region's Cuts. -/
def cutsP (l : List R4) : List Int := asc (yEdges l)
theorem cutsP_mem {l : List R4} {q : R4} (h : q ∈ l) : q.b ∈ cutsP l ∧ q.t ∈ cutsP l := ⟨((asc_all _).2.1 _).2 (yEdges_mem h).1, ((asc_all _).2.1 _).2 (yEdges_mem h).2⟩
/-- region's canonical. -/
def canonP (l : List R4) : List R4 := buildP (rowP l) (cutsP l)
theorem canonP_canon (l : List R4) (hl : ∀ q ∈ l, q.l < q.r) : Canon (inL l) (canonP l) :=
  build_canon (inL l) (rowP l) (cutsP l) (fun y => rowP_segs l y hl) (asc_all _).1 (fun x => inL_steady_y l x _ fun q hq => cutsP_mem hq) (fun x z hz => inL_out_y l x _ (fun q hq => cutsP_mem hq) z hz)

/-- region's merge. -/
def sEdges (l : List (Sg Unit)) : List Int := l.flatMap fun s => [s.1, s.2.1]
theorem sEdges_mem {l : List (Sg Unit)} {s : Sg Unit} (h : s ∈ l) : s.1 ∈ sEdges l ∧ s.2.1 ∈ sEdges l := by
  simp only [sEdges, List.mem_flatMap]
  exact ⟨⟨s, h, by simp⟩, ⟨s, h, by simp⟩⟩
def inR (l : List (Sg Unit)) (x : Int) : Bool := l.any (inS · x)
def mergeP (how : Bool → Bool → Bool) (A B : List (Sg Unit)) : List (Sg Unit) := foldC (fun x => opt (how (inR A x) (inR B x))) (asc (sEdges (A ++ B))) []
theorem inR_steady (l : List (Sg Unit)) (cuts : List Int) (h : ∀ s ∈ l, s.1 ∈ cuts ∧ s.2.1 ∈ cuts) : Steady (inR l) cuts := fun x z hx hz hk =>
  any_congr' fun s hs => by
    have h1 := hk _ (h s hs).1
    have h2 := hk _ (h s hs).2
    unfold inS
    rw [show decide (s.1 ≤ z) = decide (s.1 ≤ x) from by simp; omega, show decide (z < s.2.1) = decide (x < s.2.1) from by simp; omega]
theorem inR_out (l : List (Sg Unit)) (cuts : List Int) (h : ∀ s ∈ l, s.1 ∈ cuts ∧ s.2.1 ∈ cuts) (z : Int) (hz : (∀ k ∈ cuts, z < k) ∨ ∀ k ∈ cuts, k ≤ z) : inR l z = false :=
  any_false' fun s hs => by
    unfold inS
    rcases hz with hz | hz
    · have := hz _ (h s hs).1; simp; omega
    · have := hz _ (h s hs).2; simp; omega
theorem merge_segs (how : Bool → Bool → Bool) (h0 : how false false = false) (A B : List (Sg Unit)) : Segs (fun x => opt (how (inR A x) (inR B x))) (mergeP how A B) := by
  have hA : ∀ s, s ∈ A ∨ s ∈ B → s.1 ∈ asc (sEdges (A ++ B)) ∧ s.2.1 ∈ asc (sEdges (A ++ B)) := fun s hs => by
    have := sEdges_mem (l := A ++ B) (List.mem_append.2 hs)
    exact ⟨((asc_all _).2.1 _).2 this.1, ((asc_all _).2.1 _).2 this.2⟩
  refine segs_opt (fun x => how (inR A x) (inR B x)) _ (asc_all _).1 (fun x z h1 h2 h3 => ?_) (fun z hz => ?_)
  · simp only
    rw [inR_steady A _ (fun s hs => hA s (.inl hs)) x z h1 h2 h3, inR_steady B _ (fun s hs => hA s (.inr hs)) x z h1 h2 h3]
  · rw [inR_out A _ (fun s hs => hA s (.inl hs)) z hz, inR_out B _ (fun s hs => hA s (.inr hs)) z hz, h0]
theorem inR_row (l : List R4) (y x : Int) (hl : ∀ q ∈ l, q.l < q.r) : inR (rowP l y) x = inL l x y := by
  have h := (rowP_segs l y hl).mem x ()
  rw [opt_some] at h
  rw [Bool.eq_iff_iff, h]
  simp [inR, inS]
/-- region's Choose. -/
def chooseP (how : Bool → Bool → Bool) (a b : List R4) : List R4 := buildP (fun y => mergeP how (rowP a y) (rowP b y)) (cutsP (a ++ b))
theorem choose_canon (how : Bool → Bool → Bool) (h0 : how false false = false) (a b : List R4) (ha : ∀ q ∈ a, q.l < q.r) (hb : ∀ q ∈ b, q.l < q.r) : Canon (fun x y => how (inL a x y) (inL b x y)) (chooseP how a b) := by
  refine build_canon _ _ _ (fun y => ?_) (asc_all _).1 (fun x y z h1 h2 h3 => ?_) (fun x z hz => ?_)
  · have h := merge_segs how h0 (rowP a y) (rowP b y)
    have e : (fun x => opt (how (inR (rowP a y) x) (inR (rowP b y) x))) = fun x => opt (how (inL a x y) (inL b x y)) := funext fun x => by rw [inR_row a y x ha, inR_row b y x hb]
    exact e ▸ h
  · have e1 := inL_steady_y a x (cutsP (a ++ b)) (fun q hq => cutsP_mem (by simp [hq])) y z h1 h2 h3
    have e2 := inL_steady_y b x (cutsP (a ++ b)) (fun q hq => cutsP_mem (by simp [hq])) y z h1 h2 h3
    simp only at e1 e2 ⊢
    rw [e1, e2]
  · rw [inL_out_y a x (cutsP (a ++ b)) (fun q hq => cutsP_mem (by simp [hq])) z hz, inL_out_y b x (cutsP (a ++ b)) (fun q hq => cutsP_mem (by simp [hq])) z hz, h0]
theorem choose_comb (how : Bool → Bool → Bool) (h0 : how false false = false) (a b : List R4) (ha : ∀ q ∈ a, q.l < q.r) (hb : ∀ q ∈ b, q.l < q.r) : chooseP how a b = combP how a b :=
  (choose_canon how h0 a b ha hb).uniq (comb_canon how h0 a b)
theorem canonP_comb (l : List R4) (hl : ∀ q ∈ l, q.l < q.r) : canonP l = combP (· || ·) l [] :=
  (canonP_canon l hl).uniq ((comb_canon (· || ·) rfl l []).congr fun x y => by simp [inL])
/-- The same squares have the same form. -/
theorem canonP_congr (l m : List R4) (hl : ∀ q ∈ l, q.l < q.r) (hm : ∀ q ∈ m, q.l < q.r) (h : ∀ x y, inL l x y = inL m x y) : canonP l = canonP m :=
  (canonP_canon l hl).uniq ((canonP_canon m hm).congr fun x y => (h x y).symm)

/-- How many segments, and which values. -/
theorem stepO_len {V : Type} [DecidableEq V] (l : List (Sg V)) (lo hi : Int) (o : Option V) : (stepO l lo hi o).length ≤ l.length + 1 := by
  unfold stepO
  cases o with
  | none => simp
  | some v =>
    simp only
    cases h : l.getLast? with
    | none => simp
    | some s =>
      simp only
      split <;> simp
theorem foldC_len {V : Type} [DecidableEq V] (g : Int → Option V) : ∀ (cuts : List Int) (acc : List (Sg V)), (foldC g cuts acc).length ≤ acc.length + (cuts.length - 1)
  | [], acc => by simp [foldC]
  | [x], acc => by simp [foldC]
  | x :: y :: r, acc => by
    have h1 := foldC_len g (y :: r) (stepO acc x y (g x))
    have h2 := stepO_len acc x y (g x)
    simp [foldC] at h1 ⊢
    omega
theorem stepO_val {V : Type} [DecidableEq V] (Q : V → Prop) (l : List (Sg V)) (lo hi : Int) (o : Option V) (hl : ∀ s ∈ l, Q s.2.2) (ho : ∀ v, o = some v → Q v) : ∀ s ∈ stepO l lo hi o, Q s.2.2 := by
  unfold stepO
  cases o with
  | none => exact hl
  | some v =>
    simp only
    have hv := ho v rfl
    cases h : l.getLast? with
    | none => simpa using hv
    | some s =>
      simp only
      split
      · intro q hq
        rcases List.mem_append.1 hq with hq | hq
        · exact hl q (List.dropLast_subset _ hq)
        · simp at hq; subst hq; exact hv
      · intro q hq
        rcases List.mem_append.1 hq with hq | hq
        · exact hl q hq
        · simp at hq; subst hq; exact hv
theorem foldC_val {V : Type} [DecidableEq V] (Q : V → Prop) (g : Int → Option V) (hg : ∀ x v, g x = some v → Q v) : ∀ (cuts : List Int) (acc : List (Sg V)), (∀ s ∈ acc, Q s.2.2) → ∀ s ∈ foldC g cuts acc, Q s.2.2
  | [], acc, h => by simpa [foldC] using h
  | [x], acc, h => by simpa [foldC] using h
  | x :: y :: r, acc, h => by
    simp only [foldC]
    exact foldC_val Q g hg (y :: r) _ (stepO_val Q acc x y (g x) h fun v hv => hg x v hv)
theorem flat_len (n : Nat) : ∀ (bs : List (Sg (List (Sg Unit)))), (∀ s ∈ bs, s.2.2.length ≤ n) → (flat bs).length ≤ bs.length * n
  | [], _ => by simp [flat]
  | s :: t, h => by
    have h1 := flat_len n t fun q hq => h q (by simp [hq])
    have h2 := h s (by simp)
    simp [flat] at h1 ⊢
    rw [Nat.add_mul]
    omega
/-- A region of n rectangles has at most (2 n - 1) n canonical ones. -/
theorem canonP_len (l : List R4) : (canonP l).length ≤ (2 * l.length - 1) * l.length := by
  have h1 := flat_len l.length (foldC (fun y => some (rowP l y)) (cutsP l) []) (foldC_val (fun v : List (Sg Unit) => v.length ≤ l.length) _ (fun x v hv => by injection hv with hv; subst hv; exact rowP_len l x) _ _ (by simp))
  have h2 := foldC_len (fun y => some (rowP l y)) (cutsP l) []
  have h3 : (cutsP l).length ≤ 2 * l.length := by rw [← yEdges_len]; exact (asc_all _).2.2
  refine Nat.le_trans h1 (Nat.mul_le_mul_right _ ?_)
  simp at h2
  omega
end Go.Proofs.YtpcfhcdbibklcaaGreat
