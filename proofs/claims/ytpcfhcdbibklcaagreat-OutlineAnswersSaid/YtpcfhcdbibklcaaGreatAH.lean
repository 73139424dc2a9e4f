/- Contract of the reference (layer 4): Same. -/
import Derived.Deep.RegionHeld3
import Derived.Test.YtpcfhcdbibklcaaGreatAA
import Derived.Test.YtpcfhcdbibklcaaGreatAB
import Derived.Test.YtpcfhcdbibklcaaGreatAC
import Derived.Test.YtpcfhcdbibklcaaGreatAF
namespace Go.Proofs.YtpcfhcdbibklcaaGreat
open Go.RowKit Go
set_option linter.unusedVariables false
set_option linter.unusedSimpArgs false

section
variable {P : Program} {md : Region.Mode} {ops : Array Oper} {Q : Exit → Act → World → Prop} {S : World → Prop}

def setAll (L : Array Bool) (l : List Nat) : Array Bool := l.foldl (fun L i => L.setIfInBounds i true) L
def putAll (a : Act) (l : List (Tmp × Value)) : Act := l.foldl (fun a x => a.put (some x.1) x.2) a
def allocs (w : World) (o : Obj) : Nat → World
  | 0 => w
  | n + 1 => (allocs w o n).alloc o
theorem allocs_size (w : World) (o : Obj) : ∀ n, (allocs w o n).heap.size = w.heap.size + n
  | 0 => rfl
  | n + 1 => by simp [allocs, allocs_size w o n]; omega
theorem setIf_comm {α : Type} (L : Array α) (i j : Nat) (x y : α) (h : i ≠ j) : (L.setIfInBounds i x).setIfInBounds j y = (L.setIfInBounds j y).setIfInBounds i x := by
  apply Array.ext_getElem?
  intro k
  simp only [Array.getElem?_setIfInBounds, Array.size_setIfInBounds]
  by_cases e1 : j = k
  · by_cases e2 : i = k
    · exact absurd (e2.trans e1.symm) h
    · simp [e1, e2]
  · by_cases e2 : i = k
    · simp [e1, e2]
    · simp [e1, e2]
theorem setAll_perm {L : Array Bool} {l m : List Nat} (h : l.Perm m) : setAll L l = setAll L m := by
  refine h.foldl_eq' (fun x _ y _ z => ?_) L
  by_cases e : x = y
  · subst e; rfl
  · exact setIf_comm z x y true true e
theorem put_comm (a : Act) (d e : Tmp) (u v : Value) (h : d ≠ e) : (a.put (some d) u).put (some e) v = (a.put (some e) v).put (some d) u := by
  show ({ a with tmps := (a.tmps.setIfInBounds d u).setIfInBounds e v } : Act) = { a with tmps := (a.tmps.setIfInBounds e v).setIfInBounds d u }
  rw [setIf_comm _ _ _ _ _ h]
theorem nodup_eq {α β : Type} (g : α → β) : ∀ {l : List α}, (l.map g).Nodup → ∀ x ∈ l, ∀ y ∈ l, g x = g y → x = y
  | [], _, x, hx, _, _, _ => by cases hx
  | a :: t, h, x, hx, y, hy, e => by
    rw [List.map_cons, List.nodup_cons] at h
    rcases List.mem_cons.1 hx with h1 | h1
    · rcases List.mem_cons.1 hy with h2 | h2
      · rw [h1, h2]
      · exact absurd (List.mem_map.2 ⟨y, h2, by rw [← e, h1]⟩) h.1
    · rcases List.mem_cons.1 hy with h2 | h2
      · exact absurd (List.mem_map.2 ⟨x, h1, by rw [e, h2]⟩) h.1
      · exact nodup_eq g h.2 x h1 y h2 e
theorem putAll_perm {a : Act} {l m : List (Tmp × Value)} (h : l.Perm m) (hn : (l.map (·.1)).Nodup) : putAll a l = putAll a m := by
  refine h.foldl_eq' (fun x hx y hy z => ?_) a
  by_cases e : x.1 = y.1
  · have := nodup_eq (·.1) hn x hx y hy e
    subst this; rfl
  · exact put_comm z x.1 y.1 x.2 y.2 e
/-- Whatever comes up next is one of those left. -/
def orderB (md : Region.Mode) (ops : Array Oper) : Nat → Array Bool → List (Nat × Nat) → Bool
  | 0, _, R => R.isEmpty
  | n + 1, L, R => !(Region.ready md ops L).isEmpty && (Region.ready md ops L).all (fun i => R.any fun it => it.1 == i) && R.all fun it => orderB md ops n (L.setIfInBounds it.1 true) (R.erase it)
theorem setAll_snoc (L : Array Bool) (l : List Nat) (i : Nat) : setAll L (l ++ [i]) = (setAll L l).setIfInBounds i true := by simp [setAll, List.foldl_append]
theorem putAll_snoc (a : Act) (l : List (Tmp × Value)) (d : Tmp) (v : Value) : putAll a (l ++ [(d, v)]) = (putAll a l).put (some d) v := by simp [putAll, List.foldl_append]

theorem allocs_aux (o : Obj) (w0 : World) (I : List (Nat × Nat)) (f : Nat) (L : Array Bool) (a : Act)
    (hd : (I.map (·.2)).Nodup) (hi : (I.map (·.1)).Nodup)
    (hop : ∀ it ∈ I, ∀ (K : Act → World → Prop) (a : Act) (w : World), K (a.put (some it.2) (.pointer (some ⟨w.heap.size, 0, none⟩))) (w.alloc o) → wpOp P ops Q it.1 K a w)
    (hS : ∀ w, S w → S (w.alloc o))
    (h : ∀ β : Nat → Nat, (∀ it ∈ I, w0.heap.size ≤ β it.1 ∧ β it.1 < w0.heap.size + I.length) → (∀ x ∈ I, ∀ y ∈ I, β x.1 = β y.1 → x = y) → S (allocs w0 o I.length) →
      wpAnyH P md ops Q S f (setAll L (I.map (·.1))) (putAll a (I.map fun it => (it.2, .pointer (some ⟨β it.1, 0, none⟩)))) (allocs w0 o I.length)) :
    ∀ (n : Nat) (R D : List (Nat × Nat)), R.length = n → (D ++ R).Perm I → orderB md ops n (setAll L (D.map (·.1))) R = true → S (allocs w0 o D.length) →
      wpAnyH P md ops Q S (f + n) (setAll L (D.map (·.1))) (putAll a (D.zipIdx.map fun x => (x.1.2, .pointer (some ⟨w0.heap.size + x.2, 0, none⟩)))) (allocs w0 o D.length)
  | 0, R, D, hl, hp, hr, hs => by
    have hR : R = [] := List.length_eq_zero_iff.1 hl
    subst hR
    rw [List.append_nil] at hp
    have hlen : D.length = I.length := hp.length_eq
    have hDi : (D.map (·.1)).Nodup := (hp.map _).nodup_iff.2 hi
    have hDd : (D.map (·.2)).Nodup := (hp.map _).nodup_iff.2 hd
    have hidx : ∀ k (hk : k < D.length), (D.map (·.1)).idxOf D[k].1 = k := fun k hk => by
      have hk' : k < (D.map (·.1)).length := by simpa using hk
      have := hDi.idxOf_getElem k hk'
      simpa using this
    have h1 := h (fun i => w0.heap.size + (D.map (·.1)).idxOf i) (fun it hit => by
      have hm : it ∈ D := hp.mem_iff.2 hit
      have := List.idxOf_lt_length_iff.2 (List.mem_map.2 ⟨it, hm, rfl⟩ : it.1 ∈ D.map (·.1))
      rw [List.length_map] at this
      omega) (fun x hx y hy e => by
      have hx' : x ∈ D := hp.mem_iff.2 hx
      have hy' : y ∈ D := hp.mem_iff.2 hy
      obtain ⟨i, hi', rfl⟩ := List.mem_iff_getElem.1 hx'
      obtain ⟨j, hj', rfl⟩ := List.mem_iff_getElem.1 hy'
      rw [hidx i hi', hidx j hj'] at e
      have : i = j := by omega
      subst this; rfl) (by rw [← hlen]; exact hs)
    rw [setAll_perm (hp.map (·.1)), hlen]
    have e : (D.zipIdx.map fun x => (x.1.2, Value.pointer (some ⟨w0.heap.size + x.2, 0, none⟩))) = D.map fun it => (it.2, Value.pointer (some ⟨w0.heap.size + (D.map (·.1)).idxOf it.1, 0, none⟩)) := by
      apply List.ext_getElem
      · simp
      · intro k h1 h2
        have hk : k < D.length := by simpa using h1
        simp only [List.getElem_map, List.getElem_zipIdx, Nat.zero_add]
        rw [hidx k hk]
    rw [e, putAll_perm (hp.map fun it => (it.2, Value.pointer (some ⟨w0.heap.size + (D.map (·.1)).idxOf it.1, 0, none⟩))) (by rw [List.map_map]; exact hDd)]
    exact h1
  | n + 1, R, D, hl, hp, hr, hs => by
    simp only [orderB, Bool.and_eq_true, Bool.not_eq_true', List.isEmpty_eq_false_iff] at hr
    obtain ⟨⟨h1, h2⟩, h3⟩ := hr
    rw [show f + (n + 1) = (f + n) + 1 by omega]
    refine wpAnyH_all rfl h1 fun i hi' => ?_
    obtain ⟨it, hit, hie⟩ := List.any_eq_true.1 (List.all_eq_true.1 h2 i hi')
    have hie : it.1 = i := by simpa using hie
    subst hie
    have hmem : it ∈ I := hp.mem_iff.1 (List.mem_append.2 (.inr hit))
    refine hop it hmem _ _ _ ⟨?_, ?_⟩
    · exact hS _ hs
    · have hp2 : ((D ++ [it]) ++ R.erase it).Perm I := by
        rw [List.append_assoc]
        exact ((List.perm_cons_erase hit).symm.append_left D).trans hp
      have := allocs_aux o w0 I f L a hd hi hop hS h n (R.erase it) (D ++ [it]) (by rw [List.length_erase_of_mem hit, hl]; rfl) hp2 (by
        rw [List.map_append, List.map_cons, List.map_nil, setAll_snoc]
        exact List.all_eq_true.1 h3 it hit) (by rw [List.length_append]; exact hS _ hs)
      rw [List.map_append, List.map_cons, List.map_nil, setAll_snoc, List.zipIdx_append, List.map_append, List.length_append] at this
      simp only [List.zipIdx_cons, List.zipIdx_nil, List.map_cons, List.map_nil, Nat.zero_add, List.length_cons, List.length_nil] at this
      rw [putAll_snoc] at this
      rw [allocs_size]
      exact this
theorem allocs_any (o : Obj) (w0 : World) (I : List (Nat × Nat)) (f : Nat) (L : Array Bool) (a : Act)
    (hd : (I.map (·.2)).Nodup) (hi : (I.map (·.1)).Nodup)
    (hop : ∀ it ∈ I, ∀ (K : Act → World → Prop) (a : Act) (w : World), K (a.put (some it.2) (.pointer (some ⟨w.heap.size, 0, none⟩))) (w.alloc o) → wpOp P ops Q it.1 K a w)
    (hr : orderB md ops I.length L I = true) (hS : ∀ w, S w → S (w.alloc o)) (h0 : S w0)
    (h : ∀ β : Nat → Nat, (∀ it ∈ I, w0.heap.size ≤ β it.1 ∧ β it.1 < w0.heap.size + I.length) → (∀ x ∈ I, ∀ y ∈ I, β x.1 = β y.1 → x = y) → S (allocs w0 o I.length) →
      wpAnyH P md ops Q S f (setAll L (I.map (·.1))) (putAll a (I.map fun it => (it.2, .pointer (some ⟨β it.1, 0, none⟩)))) (allocs w0 o I.length)) :
    wpAnyH P md ops Q S (f + I.length) L a w0 :=
  allocs_aux o w0 I f L a hd hi hop hS h I.length I [] rfl (by simp) hr h0
theorem allocs_heap (w : World) (o : Obj) : ∀ (n b : Nat), w.heap.size ≤ b → b < w.heap.size + n → (allocs w o n).heap[b]? = some o
  | 0, b, h1, h2 => by omega
  | n + 1, b, h1, h2 => by
    show ((allocs w o n).alloc o).heap[b]? = some o
    by_cases e : b = (allocs w o n).heap.size
    · rw [e]; exact heap_alloc_new _ _
    · have hs := allocs_size w o n
      exact (Below.heap_alloc _ _ _ (by omega)).trans (allocs_heap w o n b h1 (by omega))
theorem allocs_below (w : World) (o : Obj) : ∀ n, Below w.heap.size w (allocs w o n)
  | 0 => Below.refl _ _
  | n + 1 => (allocs_below w o n).alloc (by rw [allocs_size]; omega) _
/-- As allocs_any, the world behind told by what stands in it. -/
theorem allocs_any2 (o : Obj) (w0 : World) (I : List (Nat × Nat)) (f : Nat) (L : Array Bool) (a : Act)
    (hd : (I.map (·.2)).Nodup) (hi : (I.map (·.1)).Nodup)
    (hop : ∀ it ∈ I, ∀ (K : Act → World → Prop) (a : Act) (w : World), K (a.put (some it.2) (.pointer (some ⟨w.heap.size, 0, none⟩))) (w.alloc o) → wpOp P ops Q it.1 K a w)
    (hr : orderB md ops I.length L I = true) (hS : ∀ w, S w → S (w.alloc o)) (h0 : S w0)
    (h : ∀ (β : Nat → Nat) (wy : World), Below w0.heap.size w0 wy → (∀ it ∈ I, w0.heap.size ≤ β it.1 ∧ wy.heap[β it.1]? = some o) → (∀ x ∈ I, ∀ y ∈ I, β x.1 = β y.1 → x = y) → S wy →
      wpAnyH P md ops Q S f (setAll L (I.map (·.1))) (putAll a (I.map fun it => (it.2, .pointer (some ⟨β it.1, 0, none⟩)))) wy) :
    wpAnyH P md ops Q S (f + I.length) L a w0 :=
  allocs_any o w0 I f L a hd hi hop hr hS h0 fun β hb hj hs => h β _ (allocs_below w0 o I.length) (fun it hit => ⟨(hb it hit).1, allocs_heap w0 o I.length _ (hb it hit).1 (hb it hit).2⟩) hj hs
end
end Go.Proofs.YtpcfhcdbibklcaaGreat
namespace Go.Proofs.YtpcfhcdbibklcaaGreat
set_option linter.unusedVariables false
set_option linter.unusedSimpArgs false

theorem getD_at {l : List Int} {i : Nat} (h : i < l.length) : l.getD i 0 = l[i] := by rw [List.getD_eq_getElem?_getD, List.getElem?_eq_getElem h]; rfl
theorem sumL_tail (g : Int → Int) (l : List Int) : sumL (fun i => g (l.getD (i + 1) 0)) (List.range (l.length - 1)) = sumL g l.tail := by
  cases l with
  | nil => rfl
  | cons a t => exact sumL_init g t
theorem sumL_but_last (g : Int → Int) (l : List Int) (h : ∀ y, (∀ k ∈ l, k ≤ y) → g y = 0) (hp : l.Pairwise (· < ·)) : sumL (fun i => g (l.getD i 0)) (List.range (l.length - 1)) = sumL g l := by
  cases l with
  | nil => rfl
  | cons a t =>
    rw [← sumL_init g (a :: t)]
    rw [show (a :: t).length = ((a :: t).length - 1) + 1 from rfl, sumL_range_succ]
    have e : g ((a :: t).getD ((a :: t).length - 1) 0) = 0 := by
      refine h _ fun k hk => ?_
      have := getLast_max (a :: t) (by simp) hp k hk
      rw [List.getLast_eq_getElem] at this
      rw [getD_at (by simp)]
      exact this
    rw [e]
    simp
theorem sumL_but_first (g : Int → Int) (l : List Int) (h : ∀ y, (∀ k ∈ l, y ≤ k) → g y = 0) (hp : l.Pairwise (· < ·)) : sumL (fun i => g (l.getD (i + 1) 0)) (List.range (l.length - 1)) = sumL g l := by
  rw [sumL_tail]
  cases l with
  | nil => rfl
  | cons a t =>
    rw [sumL_cons, h a fun k hk => by
      rcases List.mem_cons.1 hk with rfl | hk
      · exact Int.le_refl _
      · exact Int.le_of_lt ((List.pairwise_cons.1 hp).1 k hk)]
    simp
/-- Lines at which a set changes. -/
structure Lines (P : Int → Int → Bool) (n : Nat) (xs ys : List Int) : Prop where
  px : xs.Pairwise (· < ·)
  py : ys.Pairwise (· < ·)
  bx : ∀ k ∈ xs, 0 ≤ k ∧ k ≤ n
  by_ : ∀ k ∈ ys, 0 ≤ k ∧ k ≤ n
  sx : ∀ y, Steady (fun x => P x y) xs
  ox : ∀ y z, (∀ k ∈ xs, z < k) ∨ (∀ k ∈ xs, k ≤ z) → P z y = false
  oy : ∀ x z, (∀ k ∈ ys, z < k) ∨ (∀ k ∈ ys, k ≤ z) → P x z = false
  cy : ∀ y, y ∉ ys → ∀ x, P x y = P x (y - 1)
theorem grid_low {P : Int → Int → Bool} {n : Nat} {xs ys : List Int} (hg : Grid P n) (h : Lines P n xs ys) :
    sumL (fun k => sumL (fun i => (xs.getD (i + 1) 0 - xs.getD i 0) * D1 P (xs.getD i 0) (ys.getD k 0)) (List.range (xs.length - 1))) (List.range (ys.length - 1)) = all2 (D1 P) n := by
  rw [sumL_congr (h := fun k => sumI (fun x => D1 P x (ys.getD k 0)) 0 n) fun k _ => by
    rw [← stepL_range (fun x => D1 P x (ys.getD k 0)) xs]
    refine (stepL_sum _ xs n h.px (fun x z hx hz hk => ?_) h.bx (fun z hz => ?_)).symm
    · show D1 P z _ = D1 P x _
      unfold D1
      have e1 : P z (ys.getD k 0) = P x (ys.getD k 0) := h.sx _ x z hx hz hk
      have e2 : P z (ys.getD k 0 - 1) = P x (ys.getD k 0 - 1) := h.sx _ x z hx hz hk
      rw [e1, e2]
    · show D1 P z _ = 0
      unfold D1
      rw [h.ox _ z hz]; rfl]
  rw [sumL_but_last (fun y => sumI (fun x => D1 P x y) 0 n) ys (fun y hy => by
    show sumI (fun x => D1 P x y) 0 n = 0
    rw [sumI_const _ 0 n 0 fun x _ _ => by unfold D1; rw [h.oy x y (.inr hy)]; rfl]
    simp) h.py]
  exact rows_low hg ys h.py h.by_ h.cy
theorem grid_high {P : Int → Int → Bool} {n : Nat} {xs ys : List Int} (hg : Grid P n) (h : Lines P n xs ys) :
    sumL (fun k => sumL (fun i => (xs.getD (i + 1) 0 - xs.getD i 0) * D3 P (xs.getD i 0) (ys.getD (k + 1) 0 - 1)) (List.range (xs.length - 1))) (List.range (ys.length - 1)) = all2 (D3 P) n := by
  rw [sumL_congr (h := fun k => sumI (fun x => D3 P x (ys.getD (k + 1) 0 - 1)) 0 n) fun k _ => by
    rw [← stepL_range (fun x => D3 P x (ys.getD (k + 1) 0 - 1)) xs]
    refine (stepL_sum _ xs n h.px (fun x z hx hz hk => ?_) h.bx (fun z hz => ?_)).symm
    · show D3 P z _ = D3 P x _
      unfold D3
      have e1 : P z (ys.getD (k + 1) 0 - 1) = P x (ys.getD (k + 1) 0 - 1) := h.sx _ x z hx hz hk
      have e2 : P z (ys.getD (k + 1) 0 - 1 + 1) = P x (ys.getD (k + 1) 0 - 1 + 1) := h.sx _ x z hx hz hk
      rw [e1, e2]
    · show D3 P z _ = 0
      unfold D3
      rw [h.ox _ z hz]; rfl]
  rw [sumL_but_first (fun y => sumI (fun x => D3 P x (y - 1)) 0 n) ys (fun y hy => by
    show sumI (fun x => D3 P x (y - 1)) 0 n = 0
    rw [sumI_const _ 0 n 0 fun x _ _ => by unfold D3; rw [h.oy x (y - 1) (.inl fun k hk => by have := hy k hk; omega)]; rfl]
    simp) h.py]
  exact rows_high hg ys h.py h.by_ h.cy

def xsR (l : List R4) : List Int := (xEdges l).foldl putL []
def ysR (l : List R4) : List Int := (yEdges l).foldl putL []
/-- Whether the squares between two neighbouring lines of each direction are in a region. -/
def inC (l : List R4) (xs ys : List Int) (i k : Int) : Bool := decide (0 ≤ i) && decide (0 ≤ k) && decide (i + 1 < xs.length) && decide (k + 1 < ys.length) && inL l (xs.getD i.toNat 0) (ys.getD k.toNat 0)
def cellR (l : List R4) (xs ys : List Int) (i k : Nat) : List R4 :=
  if inC l xs ys i k then
    (if inC l xs ys i ((k : Int) - 1) then [] else [⟨xs.getD i 0, ys.getD k 0, xs.getD (i + 1) 0, ys.getD k 0⟩]) ++ (if inC l xs ys ((i : Int) + 1) k then [] else [⟨xs.getD (i + 1) 0, ys.getD k 0, xs.getD (i + 1) 0, ys.getD (k + 1) 0⟩]) ++
      (if inC l xs ys i ((k : Int) + 1) then [] else [⟨xs.getD (i + 1) 0, ys.getD (k + 1) 0, xs.getD i 0, ys.getD (k + 1) 0⟩]) ++ (if inC l xs ys ((i : Int) - 1) k then [] else [⟨xs.getD i 0, ys.getD (k + 1) 0, xs.getD i 0, ys.getD k 0⟩])
  else []
def edgesR (l : List R4) : List R4 := (List.range ((ysR l).length - 1)).flatMap fun k => (List.range ((xsR l).length - 1)).flatMap fun i => cellR l (xsR l) (ysR l) i k
/-- The border, as the reference adds it up. -/
def bordR (l : List R4) : Int := sumL len1 (edgesR l)

theorem lines_of {l : List R4} {n : Nat} (hl : InS n l) : Lines (inL l) n (xsR l) (ysR l) := by
  have hx : ∀ k, k ∈ xsR l ↔ k ∈ xEdges l := fun k => by unfold xsR; rw [puts_mem]; simp
  have hy : ∀ k, k ∈ ysR l ↔ k ∈ yEdges l := fun k => by unfold ysR; rw [puts_mem]; simp
  have hx2 : ∀ q ∈ l, q.l ∈ xsR l ∧ q.r ∈ xsR l := fun q hq => ⟨(hx _).2 (xEdges_mem hq).1, (hx _).2 (xEdges_mem hq).2⟩
  have hy2 : ∀ q ∈ l, q.b ∈ ysR l ∧ q.t ∈ ysR l := fun q hq => ⟨(hy _).2 (yEdges_mem hq).1, (hy _).2 (yEdges_mem hq).2⟩
  refine ⟨puts_lt _ _ List.Pairwise.nil, puts_lt _ _ List.Pairwise.nil, fun k hk => ?_, fun k hk => ?_, fun y => inL_steady_x l y _ hx2, fun y z hz => inL_out_x l y _ hx2 z hz, fun x z hz => inL_out_y l x _ hy2 z hz, fun y hy x => inL_same_y hy2 y hy x⟩
  · obtain ⟨q, hq, h2⟩ := List.mem_flatMap.1 ((hx k).1 hk)
    have := hl q hq
    simp at h2
    omega
  · obtain ⟨q, hq, h2⟩ := List.mem_flatMap.1 ((hy k).1 hk)
    have := hl q hq
    simp at h2
    omega
theorem lines_turned {l : List R4} {n : Nat} (hl : InS n l) : Lines (fun x y => inL l y x) n (ysR l) (xsR l) := by
  have h := lines_of hl
  have hx : ∀ k, k ∈ xsR l ↔ k ∈ xEdges l := fun k => by unfold xsR; rw [puts_mem]; simp
  have hy : ∀ k, k ∈ ysR l ↔ k ∈ yEdges l := fun k => by unfold ysR; rw [puts_mem]; simp
  have hx2 : ∀ q ∈ l, q.l ∈ xsR l ∧ q.r ∈ xsR l := fun q hq => ⟨(hx _).2 (xEdges_mem hq).1, (hx _).2 (xEdges_mem hq).2⟩
  have hy2 : ∀ q ∈ l, q.b ∈ ysR l ∧ q.t ∈ ysR l := fun q hq => ⟨(hy _).2 (yEdges_mem hq).1, (hy _).2 (yEdges_mem hq).2⟩
  exact ⟨h.py, h.px, h.by_, h.bx, fun y => inL_steady_y l y _ hy2, fun y z hz => h.oy y z hz, fun x z hz => h.ox x z hz, fun y hy x => inL_same_x hx2 y hy x⟩
theorem lt_succ_getD {ys : List Int} (hp : ys.Pairwise (· < ·)) {k : Nat} (hk : k + 1 < ys.length) : ys.getD k 0 < ys.getD (k + 1) 0 := by
  rw [getD_at (by omega), getD_at hk]
  exact List.pairwise_iff_getElem.1 hp k (k + 1) (by omega) hk (by omega)
theorem between_getD {ys : List Int} (hp : ys.Pairwise (· < ·)) {k : Nat} (hk : k + 1 < ys.length) (j : Int) (hj : j ∈ ys) : j ≤ ys.getD k 0 ∨ ys.getD (k + 1) 0 ≤ j := by
  obtain ⟨m, hm, rfl⟩ := List.mem_iff_getElem.1 hj
  rw [getD_at (by omega), getD_at hk]
  rw [List.pairwise_iff_getElem] at hp
  rcases Nat.lt_trichotomy m k with h | h | h
  · exact .inl (Int.le_of_lt (hp m k hm (by omega) h))
  · subst h; exact .inl (Int.le_refl _)
  · rcases Nat.lt_or_ge (k + 1) m with h2 | h2
    · exact .inr (Int.le_of_lt (hp (k + 1) m hk hm h2))
    · have : m = k + 1 := by omega
      subst this; exact .inr (Int.le_refl _)
theorem mem_getD {ys : List Int} {k : Nat} (hk : k < ys.length) : ys.getD k 0 ∈ ys := by rw [getD_at hk]; exact List.getElem_mem hk
/-- The neighbours of a cell. -/
theorem cell_low {l : List R4} {n : Nat} (hl : InS n l) (i k : Nat) (hi : i + 1 < (xsR l).length) (hk : k + 1 < (ysR l).length) : inC l (xsR l) (ysR l) i k = inL l ((xsR l).getD i 0) ((ysR l).getD k 0) ∧ inC l (xsR l) (ysR l) i ((k : Int) - 1) = inL l ((xsR l).getD i 0) ((ysR l).getD k 0 - 1) ∧
    inC l (xsR l) (ysR l) ((i : Int) - 1) k = inL l ((xsR l).getD i 0 - 1) ((ysR l).getD k 0) ∧ inC l (xsR l) (ysR l) i ((k : Int) + 1) = inL l ((xsR l).getD i 0) ((ysR l).getD (k + 1) 0) ∧ inC l (xsR l) (ysR l) ((i : Int) + 1) k = inL l ((xsR l).getD (i + 1) 0) ((ysR l).getD k 0) := by
  have h := lines_of hl
  have ht := lines_turned hl
  generalize xsR l = xs at *
  generalize ysR l = ys at *
  have hi0 : decide ((0 : Int) ≤ i) = true := decide_eq_true (by omega)
  have hk0 : decide ((0 : Int) ≤ k) = true := decide_eq_true (by omega)
  have hi1 : decide ((i : Int) + 1 < xs.length) = true := decide_eq_true (by omega)
  have hk1 : decide ((k : Int) + 1 < ys.length) = true := decide_eq_true (by omega)
  refine ⟨?_, ?_, ?_, ?_, ?_⟩
  · unfold inC; rw [hi0, hk0, hi1, hk1]; simp
  · unfold inC
    rw [hi0, hi1]
    rcases k with _ | k
    · rw [h.oy _ (ys.getD 0 0 - 1) (.inl fun j hj => by
        obtain ⟨m, hm, rfl⟩ := List.mem_iff_getElem.1 hj
        rw [getD_at (by omega)]
        have hp := List.pairwise_iff_getElem.1 h.py
        rcases Nat.eq_zero_or_pos m with rfl | h0
        · omega
        · have := hp 0 m (by omega) hm h0; omega)]
      simp
    · have e1 : ((k + 1 : Nat) : Int) - 1 = (k : Int) := by omega
      rw [e1, decide_eq_true (show (0 : Int) ≤ k by omega), decide_eq_true (show (k : Int) + 1 < ys.length by omega)]
      simp only [Int.toNat_natCast, Bool.true_and]
      have hlt := lt_succ_getD h.py (k := k) (by omega)
      exact (ht.sx (xs.getD i 0) (ys.getD k 0) (ys.getD (k + 1) 0 - 1) (mem_getD (by omega)) (by omega) fun j hj => by
        rcases between_getD h.py (k := k) (by omega) j hj with h1 | h1
        · exact .inl h1
        · exact .inr (by omega)).symm
  · unfold inC
    rw [hk0, hk1]
    rcases i with _ | i
    · rw [h.ox _ (xs.getD 0 0 - 1) (.inl fun j hj => by
        obtain ⟨m, hm, rfl⟩ := List.mem_iff_getElem.1 hj
        rw [getD_at (by omega)]
        have hp := List.pairwise_iff_getElem.1 h.px
        rcases Nat.eq_zero_or_pos m with rfl | h0
        · omega
        · have := hp 0 m (by omega) hm h0; omega)]
      simp
    · have e1 : ((i + 1 : Nat) : Int) - 1 = (i : Int) := by omega
      rw [e1, decide_eq_true (show (0 : Int) ≤ i by omega), decide_eq_true (show (i : Int) + 1 < xs.length by omega)]
      simp only [Int.toNat_natCast, Bool.true_and, Bool.and_true]
      have hlt := lt_succ_getD h.px (k := i) (by omega)
      exact (h.sx (ys.getD k 0) (xs.getD i 0) (xs.getD (i + 1) 0 - 1) (mem_getD (by omega)) (by omega) fun j hj => by
        rcases between_getD h.px (k := i) (by omega) j hj with h1 | h1
        · exact .inl h1
        · exact .inr (by omega)).symm
  · unfold inC
    rw [hi0, hi1, decide_eq_true (show (0 : Int) ≤ (k : Int) + 1 by omega), show ((k : Int) + 1).toNat = k + 1 by omega]
    by_cases h2 : k + 2 < ys.length
    · rw [decide_eq_true (show (k : Int) + 1 + 1 < ys.length by omega)]; simp
    · rw [decide_eq_false (show ¬ (k : Int) + 1 + 1 < ys.length by omega), h.oy (xs.getD i 0) (ys.getD (k + 1) 0) (.inr fun j hj => by
        obtain ⟨m, hm, rfl⟩ := List.mem_iff_getElem.1 hj
        rw [getD_at hk]
        have hp := List.pairwise_iff_getElem.1 h.py
        rcases Nat.lt_or_ge m (k + 1) with h3 | h3
        · exact Int.le_of_lt (hp m (k + 1) hm hk h3)
        · have : m = k + 1 := by omega
          subst this; exact Int.le_refl _)]
      simp
  · unfold inC
    rw [hk0, hk1, decide_eq_true (show (0 : Int) ≤ (i : Int) + 1 by omega), show ((i : Int) + 1).toNat = i + 1 by omega]
    by_cases h2 : i + 2 < xs.length
    · rw [decide_eq_true (show (i : Int) + 1 + 1 < xs.length by omega)]; simp
    · rw [decide_eq_false (show ¬ (i : Int) + 1 + 1 < xs.length by omega), h.ox (ys.getD k 0) (xs.getD (i + 1) 0) (.inr fun j hj => by
        obtain ⟨m, hm, rfl⟩ := List.mem_iff_getElem.1 hj
        rw [getD_at hi]
        have hp := List.pairwise_iff_getElem.1 h.px
        rcases Nat.lt_or_ge m (i + 1) with h3 | h3
        · exact Int.le_of_lt (hp m (i + 1) hm hi h3)
        · have : m = i + 1 := by omega
          subst this; exact Int.le_refl _)]
      simp
theorem cell_len {l : List R4} {n : Nat} (hl : InS n l) (i k : Nat) (hi : i + 1 < (xsR l).length) (hk : k + 1 < (ysR l).length) :
    sumL len1 (cellR l (xsR l) (ysR l) i k) = ((xsR l).getD (i + 1) 0 - (xsR l).getD i 0) * D1 (inL l) ((xsR l).getD i 0) ((ysR l).getD k 0) + ((xsR l).getD (i + 1) 0 - (xsR l).getD i 0) * D3 (inL l) ((xsR l).getD i 0) ((ysR l).getD (k + 1) 0 - 1) +
      (((ysR l).getD (k + 1) 0 - (ysR l).getD k 0) * D1 (fun x y => inL l y x) ((ysR l).getD k 0) ((xsR l).getD i 0) + ((ysR l).getD (k + 1) 0 - (ysR l).getD k 0) * D3 (fun x y => inL l y x) ((ysR l).getD k 0) ((xsR l).getD (i + 1) 0 - 1)) := by
  obtain ⟨h1, h2, h3, h4, h5⟩ := cell_low hl i k hi hk
  have h := lines_of hl
  have ht := lines_turned hl
  have e1 : inL l ((xsR l).getD i 0) ((ysR l).getD (k + 1) 0 - 1) = inL l ((xsR l).getD i 0) ((ysR l).getD k 0) := by
    have hlt := lt_succ_getD h.py hk
    exact ht.sx _ ((ysR l).getD k 0) ((ysR l).getD (k + 1) 0 - 1) (mem_getD (by omega)) (by omega) fun j hj => by
      rcases between_getD h.py hk j hj with h1 | h1
      · exact .inl h1
      · exact .inr (by omega)
  have e2 : inL l ((xsR l).getD (i + 1) 0 - 1) ((ysR l).getD k 0) = inL l ((xsR l).getD i 0) ((ysR l).getD k 0) := by
    have hlt := lt_succ_getD h.px hi
    exact h.sx _ ((xsR l).getD i 0) ((xsR l).getD (i + 1) 0 - 1) (mem_getD (by omega)) (by omega) fun j hj => by
      rcases between_getD h.px hi j hj with h1 | h1
      · exact .inl h1
      · exact .inr (by omega)
  have l1 := lt_succ_getD h.px hi
  have l2 := lt_succ_getD h.py hk
  unfold cellR D1 D3
  dsimp only []
  rw [h1, h2, h3, h4, h5, e1, e2, show (ysR l).getD (k + 1) 0 - 1 + 1 = (ysR l).getD (k + 1) 0 by omega, show (xsR l).getD (i + 1) 0 - 1 + 1 = (xsR l).getD (i + 1) 0 by omega]
  generalize (xsR l).getD i 0 = X at *
  generalize (xsR l).getD (i + 1) 0 = X' at *
  generalize (ysR l).getD k 0 = Y at *
  generalize (ysR l).getD (k + 1) 0 = Y' at *
  have m1 : len1 ⟨X, Y, X', Y⟩ = X' - X := by unfold len1; simp only; omega
  have m2 : len1 ⟨X', Y, X', Y'⟩ = Y' - Y := by unfold len1; simp only; omega
  have m3 : len1 ⟨X', Y', X, Y'⟩ = X' - X := by unfold len1; simp only; omega
  have m4 : len1 ⟨X, Y', X, Y⟩ = Y' - Y := by unfold len1; simp only; omega
  cases inL l X Y
  · simp [ind, sumL]
  · cases inL l X (Y - 1) <;> cases inL l X' Y <;> cases inL l X Y' <;> cases inL l (X - 1) Y <;> simp [ind, sumL, m1, m2, m3, m4] <;> omega
theorem all2_turn (F : Int → Int → Int) (n : Nat) : all2 (fun x y => F y x) n = all2 F n := by
  unfold all2
  exact sumI_swap (fun x y => F y x) n 0 n 0
/-- What the reference adds up is the border. -/
theorem bordR_true (l : List R4) (n : Nat) (hl : InS n l) : bordR l = bordT (inL l) n := by
  have hg := inL_grid hl
  have hgt : Grid (fun x y => inL l y x) n := ⟨fun x y h => by have := hg.bd y x h; omega⟩
  have h := lines_of hl
  have ht := lines_turned hl
  unfold bordR edgesR
  rw [sumL_flat, sumL_congr (h := fun k => sumL (fun i => ((xsR l).getD (i + 1) 0 - (xsR l).getD i 0) * D1 (inL l) ((xsR l).getD i 0) ((ysR l).getD k 0)) (List.range ((xsR l).length - 1)) + sumL (fun i => ((xsR l).getD (i + 1) 0 - (xsR l).getD i 0) * D3 (inL l) ((xsR l).getD i 0) ((ysR l).getD (k + 1) 0 - 1)) (List.range ((xsR l).length - 1)) +
      (sumL (fun i => ((ysR l).getD (k + 1) 0 - (ysR l).getD k 0) * D1 (fun x y => inL l y x) ((ysR l).getD k 0) ((xsR l).getD i 0)) (List.range ((xsR l).length - 1)) + sumL (fun i => ((ysR l).getD (k + 1) 0 - (ysR l).getD k 0) * D3 (fun x y => inL l y x) ((ysR l).getD k 0) ((xsR l).getD (i + 1) 0 - 1)) (List.range ((xsR l).length - 1)))) fun k hk => by
    rw [List.mem_range] at hk
    rw [sumL_flat]
    refine (sumL_congr fun i hi => cell_len hl i k (by rw [List.mem_range] at hi; omega) (by omega)).trans ?_
    rw [sumL_plus, sumL_plus, sumL_plus]]
  rw [sumL_plus, sumL_plus, sumL_plus, grid_low hg h, grid_high hg h]
  rw [sumL_swap (fun k i => ((ysR l).getD (k + 1) 0 - (ysR l).getD k 0) * D1 (fun x y => inL l y x) ((ysR l).getD k 0) ((xsR l).getD i 0)), sumL_swap (fun k i => ((ysR l).getD (k + 1) 0 - (ysR l).getD k 0) * D3 (fun x y => inL l y x) ((ysR l).getD k 0) ((xsR l).getD (i + 1) 0 - 1))]
  rw [grid_low hgt ht, grid_high hgt ht]
  rw [show D1 (fun x y => inL l y x) = fun x y => D4 (inL l) y x from rfl, show D3 (fun x y => inL l y x) = fun x y => D2 (inL l) y x from rfl, all2_turn (D4 (inL l)), all2_turn (D2 (inL l))]
  unfold bordT
  omega
end Go.Proofs.YtpcfhcdbibklcaaGreat
namespace Go.Proofs.YtpcfhcdbibklcaaGreat
open Go.RowKit
set_option linter.unusedVariables false
set_option linter.unusedSimpArgs false

theorem inC_out (l : List R4) (xs ys : List Int) (i k : Int) (h : i < 0 ∨ k < 0 ∨ (xs.length : Int) ≤ i + 1 ∨ (ys.length : Int) ≤ k + 1) : inC l xs ys i k = false := by
  unfold inC
  rcases h with h | h | h | h
  · rw [decide_eq_false (show ¬ (0 : Int) ≤ i by omega)]; simp
  · rw [decide_eq_false (show ¬ (0 : Int) ≤ k by omega)]; simp
  · rw [decide_eq_false (show ¬ i + 1 < (xs.length : Int) by omega)]; simp
  · rw [decide_eq_false (show ¬ k + 1 < (ys.length : Int) by omega)]; simp
set_option maxHeartbeats 8000000 in
set_option maxRecDepth 100000 in
theorem in5_any (A : Option Addr) (n c : Nat) (l : List R4) (X Y : Option Addr) (xc yc : Nat) (xs ys : List Int) (i k : Int) (w : World) (hA : SlR w A n c l) (hX : SlI w X xs.length xc xs) (hY : SlI w Y ys.length yc ys)
    (hi : -5 ≤ i ∧ i ≤ 100000000) (hk : -5 ≤ k ∧ k ≤ 100000000) :
    Calls Tryz.prog 82 #[.agg #[.slice A n c], .slice X xs.length xc, .slice Y ys.length yc, .int .i64 i, .int .i64 k] w fun e w' => e = .returned (.bool (inC l xs ys i k)) ∧ Below w.heap.size w w' := by
  have hnl := hA.len
  have hnm := Nat.le_trans hA.cap hA.top
  unfold maxLen at hnm
  have hwi : IntKind.i64.wrap (i + 1) = i + 1 := IntWalk.i64_in _ (by omega)
  have hwk : IntKind.i64.wrap (k + 1) = k + 1 := IntWalk.i64_in _ (by omega)
  have Hout := Lib.hid (inC_out l xs ys i k)
  by_cases h1 : i < 0
  · rw [Hout.out (.inl h1)]
    have d1 : decide (i < 0) = true := decide_eq_true h1
    go_enter Tryz.func82, Tryz.ntmps82
    go_wp2
    go_ret
    exact ⟨rfl, (by repeat' (first | with_reducible exact Below.refl _ _ | with_reducible refine below_drewN ?_ _ | with_reducible refine Below.drew ?_ | with_reducible refine Below.alloc ?_ ?_ _ | with_reducible refine Below.setCell ?_ ?_ _ | with_reducible refine Below.trans ?_ (Below.mono (by with_reducible assumption) ?_) | (simp; done) | (simp; omega) | omega))⟩
  · have d1 : decide (i < 0) = false := decide_eq_false h1
    by_cases h2 : k < 0
    · rw [Hout.out (.inr (.inl h2))]
      have d2 : decide (k < 0) = true := decide_eq_true h2
      go_enter Tryz.func82, Tryz.ntmps82
      go_wp2
      go_ret
      exact ⟨rfl, (by repeat' (first | with_reducible exact Below.refl _ _ | with_reducible refine below_drewN ?_ _ | with_reducible refine Below.drew ?_ | with_reducible refine Below.alloc ?_ ?_ _ | with_reducible refine Below.setCell ?_ ?_ _ | with_reducible refine Below.trans ?_ (Below.mono (by with_reducible assumption) ?_) | (simp; done) | (simp; omega) | omega))⟩
    · have d2 : decide (k < 0) = false := decide_eq_false h2
      by_cases h3 : (xs.length : Int) ≤ i + 1
      · rw [Hout.out (.inr (.inr (.inl h3)))]
        have d3 : decide ((xs.length : Int) ≤ i + 1) = true := decide_eq_true h3
        go_enter Tryz.func82, Tryz.ntmps82
        go_wp2
        go_ret
        exact ⟨rfl, (by repeat' (first | with_reducible exact Below.refl _ _ | with_reducible refine below_drewN ?_ _ | with_reducible refine Below.drew ?_ | with_reducible refine Below.alloc ?_ ?_ _ | with_reducible refine Below.setCell ?_ ?_ _ | with_reducible refine Below.trans ?_ (Below.mono (by with_reducible assumption) ?_) | (simp; done) | (simp; omega) | omega))⟩
      · have d3 : decide ((xs.length : Int) ≤ i + 1) = false := decide_eq_false h3
        by_cases h4 : (ys.length : Int) ≤ k + 1
        · rw [Hout.out (.inr (.inr (.inr h4)))]
          have d4 : decide ((ys.length : Int) ≤ k + 1) = true := decide_eq_true h4
          go_enter Tryz.func82, Tryz.ntmps82
          go_wp2
          go_ret
          exact ⟨rfl, (by repeat' (first | with_reducible exact Below.refl _ _ | with_reducible refine below_drewN ?_ _ | with_reducible refine Below.drew ?_ | with_reducible refine Below.alloc ?_ ?_ _ | with_reducible refine Below.setCell ?_ ?_ _ | with_reducible refine Below.trans ?_ (Below.mono (by with_reducible assumption) ?_) | (simp; done) | (simp; omega) | omega))⟩
        · have d4 : decide ((ys.length : Int) ≤ k + 1) = false := decide_eq_false h4
          obtain ⟨i', rfl⟩ := Int.eq_ofNat_of_zero_le (show 0 ≤ i by omega)
          obtain ⟨k', rfl⟩ := Int.eq_ofNat_of_zero_le (show 0 ≤ k by omega)
          have hi' : i' < xs.length := by omega
          have hk' : k' < ys.length := by omega
          have HA := Lib.hid hA
          have HX := Lib.hid hX
          have HY := Lib.hid hY
          have Hres : Hid (inC l xs ys i' k' = inL l xs[i'] ys[k']) := Lib.hid (by
            unfold inC
            rw [decide_eq_true (show (0 : Int) ≤ i' by omega), decide_eq_true (show (0 : Int) ≤ k' by omega), decide_eq_true (show (i' : Int) + 1 < xs.length by omega), decide_eq_true (show (k' : Int) + 1 < ys.length by omega), Int.toNat_natCast, Int.toNat_natCast, getD_at hi', getD_at hk']
            rfl)
          obtain ⟨bx, ox, hXe, hbx, cx⟩ := hX.at i' hi'
          obtain ⟨by_, oy, hYe, hby, cy⟩ := hY.at k' hk'
          subst hXe hYe
          generalize xs[i'] = x at *
          generalize ys[k'] = y at *
          generalize inC l xs ys i' k' = res at *
          have hil : (i' : Int) < (xs.length : Int) := by omega
          have hkl : (k' : Int) < (ys.length : Int) := by omega
          have hi0 : (0 : Int) ≤ (i' : Int) := by omega
          have hk0 : (0 : Int) ≤ (k' : Int) := by omega
          clear hA hX hY Hout HX HY
          go_enter Tryz.func82, Tryz.ntmps82
          go_upto_region 4 with fail
          obtain ⟨w0, hw0⟩ : ∃ w0 : World, w0 = w.alloc (.cells #[.slice A n c] 25) := ⟨_, rfl⟩
          rw [← hw0]
          have Hb0 : Hid (Below w.heap.size w w0) := Lib.hid (by rw [hw0]; exact (by repeat' (first | with_reducible exact Below.refl _ _ | with_reducible refine below_drewN ?_ _ | with_reducible refine Below.drew ?_ | with_reducible refine Below.alloc ?_ ?_ _ | with_reducible refine Below.setCell ?_ ?_ _ | with_reducible refine Below.trans ?_ (Below.mono (by with_reducible assumption) ?_) | (simp; done) | (simp; omega) | omega)))
          have hs0 : w.heap.size ≤ w0.heap.size := Hb0.out.size
          clear hw0
          go_loopw [12, 36] (fun _ j wr => ∃ m : Nat, m ≤ n ∧ j = .int .i64 (m : Int) ∧ Hid (inL (l.take m) x y = false) ∧ Below w0.heap.size w0 wr) (fun _ j _ => n - (intOf j).toNat)
          case atStart => exact ⟨0, Nat.zero_le _, rfl, Lib.hid rfl, Below.refl _ _⟩
          case round =>
            obtain ⟨m, hm, rfl, Hf, hbr⟩ := hrel
            have hsr := hbr.size
            have Hbr := Lib.hid hbr
            by_cases hmn : m < n
            · have hml : m < l.length := by omega
              obtain ⟨b, off, hAe, hb, c0, c1, c2, c3⟩ := (HA.out.below (Hb0.out.trans (hbr.mono hs0))).at m hml
              subst hAe
              have Hst := Lib.hid (inL_take_succ l m hml x y)
              have Hyes : Hid (l[m].has x y = true → res = true) := Lib.hid (fun h => by rw [Hres.out]; exact List.any_eq_true.2 ⟨l[m], List.getElem_mem hml, h⟩)
              have cxr := (Hb0.out.trans (hbr.mono hs0)).cell (p := ⟨bx, ox + i', none⟩) hbx |>.trans cx
              have cyr := (Hb0.out.trans (hbr.mono hs0)).cell (p := ⟨by_, oy + k', none⟩) hby |>.trans cy
              have hbxr : bx < wr.heap.size := by omega
              have hbyr : by_ < wr.heap.size := by omega
              generalize l[m] = q at *
              have hmn' : (m : Int) < (n : Int) := by omega
              have hm0 : (0 : Int) ≤ (m : Int) := by omega
              go_upto_region 6 with fail
              obtain ⟨wx, hwx⟩ : ∃ wx : World, wx = wr.alloc (.cells #[.int .i64 q.l, .int .i64 q.b, .int .i64 q.r, .int .i64 q.t] 58) := ⟨_, rfl⟩
              rw [← hwx]
              have Hbx : Hid (Below w0.heap.size w0 wx) := Lib.hid (by rw [hwx]; exact hbr.alloc hsr _)
              have hrx : wx.heap[wr.heap.size]? = some (.cells #[.int .i64 q.l, .int .i64 q.b, .int .i64 q.r, .int .i64 q.t] 58 (0, 0)) := by rw [hwx]; exact heap_alloc_new wr _
              have x0 := cell_of_row wx wr.heap.size 0 _ _ _ hrx
              have x1 := cell_of_row wx wr.heap.size 1 _ _ _ hrx
              have x2 := cell_of_row wx wr.heap.size 2 _ _ _ hrx
              have x3 := cell_of_row wx wr.heap.size 3 _ _ _ hrx
              have cxx : wx.cell? ⟨bx, ox + i', none⟩ = some (.int .i64 x) := by rw [hwx, World.cell?_alloc_lt wr _ _ (show bx < wr.heap.size from hbxr)]; exact cxr
              have cyx : wx.cell? ⟨by_, oy + k', none⟩ = some (.int .i64 y) := by rw [hwx, World.cell?_alloc_lt wr _ _ (show by_ < wr.heap.size from hbyr)]; exact cyr
              clear hwx hrx c0 c1 c2 c3 cx cy cxr cyr hbr
              by_cases g1 : q.l ≤ x
              · have e1 : decide (q.l ≤ x) = true := decide_eq_true g1
                by_cases g2 : x < q.r
                · have e2 : decide (x < q.r) = true := decide_eq_true g2
                  by_cases g3 : q.b ≤ y
                  · have e3 : decide (q.b ≤ y) = true := decide_eq_true g3
                    by_cases g4 : y < q.t
                    · have e4 : decide (y < q.t) = true := decide_eq_true g4
                      have Hr : Hid (res = true) := Lib.hid (Hyes.out (by simp [R4.has]; omega))
                      clear Hyes Hst
                      go_quiet (fail)
                      go_wp2
                      go_ret
                      exact ⟨by rw [Hr.out]; rfl, Hb0.out.trans ((below_drewN Hbx.out _).mono hs0)⟩
                    · have e4 : decide (y < q.t) = false := decide_eq_false g4
                      have Hno : q.has x y = false := by simp [R4.has]; omega
                      rw [Hno, Bool.or_false] at Hst
                      clear Hyes
                      go_quiet (fail)
                      go_wp2
                      go_roundw
                      case rel => exact ⟨m + 1, by omega, by go_num, Lib.hid (by rw [Hst.out]; exact Hf.out), below_drewN Hbx.out _⟩
                      case measure => simp [intOf]; omega
                  · have e3 : decide (q.b ≤ y) = false := decide_eq_false g3
                    have Hno : q.has x y = false := by simp [R4.has]; omega
                    rw [Hno, Bool.or_false] at Hst
                    clear Hyes
                    go_quiet (fail)
                    go_wp2
                    go_roundw
                    case rel => exact ⟨m + 1, by omega, by go_num, Lib.hid (by rw [Hst.out]; exact Hf.out), below_drewN Hbx.out _⟩
                    case measure => simp [intOf]; omega
                · have e2 : decide (x < q.r) = false := decide_eq_false g2
                  have Hno : q.has x y = false := by simp [R4.has]; omega
                  rw [Hno, Bool.or_false] at Hst
                  clear Hyes
                  go_quiet (fail)
                  go_wp2
                  go_roundw
                  case rel => exact ⟨m + 1, by omega, by go_num, Lib.hid (by rw [Hst.out]; exact Hf.out), below_drewN Hbx.out _⟩
                  case measure => simp [intOf]; omega
              · have e1 : decide (q.l ≤ x) = false := decide_eq_false g1
                have Hno : q.has x y = false := by simp [R4.has]; omega
                rw [Hno, Bool.or_false] at Hst
                clear Hyes
                go_quiet (fail)
                go_wp2
                go_roundw
                case rel => exact ⟨m + 1, by omega, by go_num, Lib.hid (by rw [Hst.out]; exact Hf.out), below_drewN Hbx.out _⟩
                case measure => simp [intOf]; omega
            · have Hr : Hid (res = false) := Lib.hid (by have := Hf.out; rw [List.take_of_length_le (by omega)] at this; rw [Hres.out]; exact this)
              have hmn' : ¬ (m : Int) < (n : Int) := by omega
              go_wp2
              go_ret
              exact ⟨by rw [Hr.out]; rfl, Hb0.out.trans (hbr.mono hs0)⟩
end Go.Proofs.YtpcfhcdbibklcaaGreat
namespace Go.Proofs.YtpcfhcdbibklcaaGreat
open Go.RowKit
set_option linter.unusedVariables false
set_option linter.unusedSimpArgs false

theorem Tryz.infoEdge5 : (Tryz.prog.info? 85).map (fun i => (i.zero, i.size, i.bytes)) = some (some (.agg #[.int .i64 0, .int .i64 0, .int .i64 0, .int .i64 0]), 4, 32) := by kernel_rfl
/-- What a call leaves that returns edges of its own. -/
def E5Post (w : World) (l : List R4) (e : Ending) (w' : World) : Prop := ∃ v, e = .returned v ∧ w'.ownsRow w.heap.size 85 4 v l.length (rCells l) ∧ Below w.heap.size w w'
/-- The edges of the cells of some rows; of some cells of a row. -/
def rowsE (l : List R4) (xs ys : List Int) (k : Nat) : List R4 := (List.range k).flatMap fun k => (List.range (xs.length - 1)).flatMap fun i => cellR l xs ys i k
def colsE (l : List R4) (xs ys : List Int) (k i : Nat) : List R4 := (List.range i).flatMap fun i => cellR l xs ys i k
theorem rowsE_succ (l : List R4) (xs ys : List Int) (k : Nat) : rowsE l xs ys (k + 1) = rowsE l xs ys k ++ colsE l xs ys k (xs.length - 1) := by
  unfold rowsE colsE; rw [List.range_succ, List.flatMap_append]; simp
theorem colsE_succ (l : List R4) (xs ys : List Int) (k i : Nat) : colsE l xs ys k (i + 1) = colsE l xs ys k i ++ cellR l xs ys i k := by
  unfold colsE; rw [List.range_succ, List.flatMap_append]; simp
theorem cellR_len (l : List R4) (xs ys : List Int) (i k : Nat) : (cellR l xs ys i k).length ≤ 4 := by
  unfold cellR
  split
  · rw [List.length_append, List.length_append, List.length_append]
    have h : ∀ (b : Bool) (e : R4), (if b then [] else [e]).length ≤ 1 := fun b e => by cases b <;> simp
    have h1 := h (inC l xs ys i ((k : Int) - 1)) ⟨xs.getD i 0, ys.getD k 0, xs.getD (i + 1) 0, ys.getD k 0⟩
    have h2 := h (inC l xs ys ((i : Int) + 1) k) ⟨xs.getD (i + 1) 0, ys.getD k 0, xs.getD (i + 1) 0, ys.getD (k + 1) 0⟩
    have h3 := h (inC l xs ys i ((k : Int) + 1)) ⟨xs.getD (i + 1) 0, ys.getD (k + 1) 0, xs.getD i 0, ys.getD (k + 1) 0⟩
    have h4 := h (inC l xs ys ((i : Int) - 1) k) ⟨xs.getD i 0, ys.getD (k + 1) 0, xs.getD i 0, ys.getD k 0⟩
    omega
  · simp
theorem colsE_len (l : List R4) (xs ys : List Int) (k : Nat) : ∀ i, (colsE l xs ys k i).length ≤ 4 * i
  | 0 => by simp [colsE]
  | i + 1 => by
    have h1 := colsE_len l xs ys k i
    have h2 := cellR_len l xs ys i k
    rw [colsE_succ, List.length_append]
    omega
theorem rowsE_len (l : List R4) (xs ys : List Int) : ∀ k, (rowsE l xs ys k).length ≤ k * (4 * (xs.length - 1))
  | 0 => by simp [rowsE]
  | k + 1 => by
    have h1 := rowsE_len l xs ys k
    have h2 := colsE_len l xs ys k (xs.length - 1)
    rw [rowsE_succ, List.length_append, Nat.add_mul]
    omega

theorem box2p {w : World} {g : Nat} {t : TypeId} {a b x y : Value} (h : w.heap[g]? = some (.cells #[a, b] t (0, 0))) : ((w.setCell ⟨g, 0, none⟩ x).setCell ⟨g, 1, none⟩ y).heap[g]? = some (.cells #[x, y] t (0, 0)) := by
  have h1 := heap_setCell_same w g 0 _ _ x h
  have h2 := heap_setCell_same _ g 1 _ _ y h1
  simpa using h2
theorem box2o {w : World} {g i : Nat} {x y : Value} (h : g ≠ i) : ((w.setCell ⟨g, 0, none⟩ x).setCell ⟨g, 1, none⟩ y).heap[i]? = w.heap[i]? :=
  (Below.heap_setCell _ _ _ _ (fun e => h e.symm)).trans (Below.heap_setCell _ _ _ _ (fun e => h e.symm))
/-- Four boxes filled, one after the other. -/
def fill4 (w : World) (b1 b2 b3 b4 : Nat) (x x' y y' : Value) : World :=
  (((((((w.setCell ⟨b1, 0, none⟩ x).setCell ⟨b1, 1, none⟩ y).setCell ⟨b2, 0, none⟩ x').setCell ⟨b2, 1, none⟩ y).setCell ⟨b3, 0, none⟩ x').setCell ⟨b3, 1, none⟩ y').setCell ⟨b4, 0, none⟩ x).setCell ⟨b4, 1, none⟩ y'
theorem fill4_at {w : World} {b1 b2 b3 b4 : Nat} {t : TypeId} {x x' y y' z : Value} (h12 : b1 ≠ b2) (h13 : b1 ≠ b3) (h14 : b1 ≠ b4) (h23 : b2 ≠ b3) (h24 : b2 ≠ b4) (h34 : b3 ≠ b4)
    (p1 : w.heap[b1]? = some (.cells #[z, z] t (0, 0))) (p2 : w.heap[b2]? = some (.cells #[z, z] t (0, 0))) (p3 : w.heap[b3]? = some (.cells #[z, z] t (0, 0))) (p4 : w.heap[b4]? = some (.cells #[z, z] t (0, 0))) :
    (fill4 w b1 b2 b3 b4 x x' y y').heap[b1]? = some (.cells #[x, y] t (0, 0)) ∧ (fill4 w b1 b2 b3 b4 x x' y y').heap[b2]? = some (.cells #[x', y] t (0, 0)) ∧ (fill4 w b1 b2 b3 b4 x x' y y').heap[b3]? = some (.cells #[x', y'] t (0, 0)) ∧ (fill4 w b1 b2 b3 b4 x x' y y').heap[b4]? = some (.cells #[x, y'] t (0, 0)) := by
  unfold fill4
  refine ⟨?_, ?_, ?_, ?_⟩
  · rw [box2o h14.symm, box2o h13.symm, box2o h12.symm]; exact box2p p1
  · rw [box2o h24.symm, box2o h23.symm]; exact box2p ((box2o h12).trans p2)
  · rw [box2o h34.symm]; exact box2p ((box2o h23).trans ((box2o h13).trans p3))
  · exact box2p ((box2o h34).trans ((box2o h24).trans ((box2o h14).trans p4)))
theorem fill4_below {w0 w : World} {B b1 b2 b3 b4 : Nat} {x x' y y' : Value} (h : Below B w0 w) (h1 : B ≤ b1) (h2 : B ≤ b2) (h3 : B ≤ b3) (h4 : B ≤ b4) : Below B w0 (fill4 w b1 b2 b3 b4 x x' y y') := by
  unfold fill4
  exact (((((((h.setCell h1 _).setCell h1 _).setCell h2 _).setCell h2 _).setCell h3 _).setCell h3 _).setCell h4 _).setCell h4 _
/-- The four corners of a cell in blocks, and the edges so far. -/
structure EdgeSt (w1 wx : World) (o : Value) (bk : List R4) (b1 b2 b3 b4 : Nat) (x x' y y' : Int) : Prop where
  own : wx.ownsRow w1.heap.size 85 4 o bk.length (rCells bk)
  bel : Below w1.heap.size w1 wx
  p1 : wx.heap[b1]? = some (.cells #[.int .i64 x, .int .i64 y] 43 (0, 0))
  p2 : wx.heap[b2]? = some (.cells #[.int .i64 x', .int .i64 y] 43 (0, 0))
  p3 : wx.heap[b3]? = some (.cells #[.int .i64 x', .int .i64 y'] 43 (0, 0))
  p4 : wx.heap[b4]? = some (.cells #[.int .i64 x, .int .i64 y'] 43 (0, 0))
  ap : ∀ g, o.ownBlock = some g → g ≠ b1 ∧ g ≠ b2 ∧ g ≠ b3 ∧ g ≠ b4
theorem lt_of_heap {w : World} {b : Nat} {o : Obj} (h : w.heap[b]? = some o) : b < w.heap.size := by
  rcases Nat.lt_or_ge b w.heap.size with h1 | h1
  · exact h1
  · rw [Array.getElem?_eq_none h1] at h; cases h
theorem EdgeSt.below {w1 wx wy : World} {o : Value} {bk : List R4} {b1 b2 b3 b4 : Nat} {x x' y y' : Int} (h : EdgeSt w1 wx o bk b1 b2 b3 b4 x x' y y') (hb : Below wx.heap.size wx wy) : EdgeSt w1 wy o bk b1 b2 b3 b4 x x' y y' :=
  ⟨ownsRow_below h.own hb, h.bel.trans (hb.mono h.bel.size), (hb.block _ (lt_of_heap h.p1)).trans h.p1, (hb.block _ (lt_of_heap h.p2)).trans h.p2, (hb.block _ (lt_of_heap h.p3)).trans h.p3, (hb.block _ (lt_of_heap h.p4)).trans h.p4, h.ap⟩
theorem EdgeSt.more {w1 wx wy : World} {o o' : Value} {bk bk' : List R4} {b1 b2 b3 b4 : Nat} {x x' y y' : Int} (h : EdgeSt w1 wx o bk b1 b2 b3 b4 x x' y y') (hg : wx.grownBy wy o.ownBlock) (ho : wy.ownsRow w1.heap.size 85 4 o' bk'.length (rCells bk')) (hat : o'.ownBlock = o.ownBlock ∨ o'.ownBlock = some wx.heap.size) : EdgeSt w1 wy o' bk' b1 b2 b3 b4 x x' y y' := by
  have hb := Below.grown h.bel hg h.bel.size (own_base h.own)
  refine ⟨ho, hb, (hg.block _ (lt_of_heap h.p1) fun e => (h.ap _ e.symm).1 rfl).trans h.p1, (hg.block _ (lt_of_heap h.p2) fun e => (h.ap _ e.symm).2.1 rfl).trans h.p2, (hg.block _ (lt_of_heap h.p3) fun e => (h.ap _ e.symm).2.2.1 rfl).trans h.p3, (hg.block _ (lt_of_heap h.p4) fun e => (h.ap _ e.symm).2.2.2 rfl).trans h.p4, fun g hg' => ?_⟩
  rcases hat with e | e
  · rw [e] at hg'; exact h.ap g hg'
  · rw [e] at hg'
    injection hg' with hg'
    subst hg'
    have h1 := lt_of_heap h.p1
    have h2 := lt_of_heap h.p2
    have h3 := lt_of_heap h.p3
    have h4 := lt_of_heap h.p4
    omega

set_option maxHeartbeats 16000000 in
set_option maxRecDepth 100000 in
theorem edges5_any (A : Option Addr) (n c : Nat) (l : List R4) (w : World) (hA : SlR w A n c l) (hn : n ≤ 120) :
    Calls Tryz.prog 46 #[.agg #[.slice A n c]] w (E5Post w (edgesR l)) := by
  obtain ⟨i0, hi, hz0, hz1, hz2⟩ := info_parts Tryz.infoEdge5
  have hnl := hA.len
  have HA := Lib.hid hA
  have Hres : Hid (edgesR l = rowsE l (xsR l) (ysR l) ((ysR l).length - 1)) := Lib.hid rfl
  generalize edgesR l = res at *
  clear hA
  go_enter Tryz.func46, Tryz.ntmps46
  go_upto_region 3 with fail
  obtain ⟨w0, hw0⟩ : ∃ w0 : World, w0 = w.alloc (.cells #[.slice A n c] 25) := ⟨_, rfl⟩
  rw [← hw0]
  have hr0 : w0.heap[w.heap.size]? = some (.cells #[.slice A n c] 25 (0, 0)) := by rw [hw0]; exact heap_alloc_new w _
  have hs0 : w.heap.size < w0.heap.size := by rw [hw0]; simp
  have Hb0 : Hid (Below w.heap.size w w0) := Lib.hid (by rw [hw0]; exact (by repeat' (first | with_reducible exact Below.refl _ _ | with_reducible refine below_drewN ?_ _ | with_reducible refine Below.drew ?_ | with_reducible refine Below.alloc ?_ ?_ _ | with_reducible refine Below.setCell ?_ ?_ _ | with_reducible refine Below.trans ?_ (Below.mono (by with_reducible assumption) ?_) | (simp; done) | (simp; omega) | omega)))
  have HA0 : Hid (SlR w0 A n c l) := Lib.hid (HA.out.below Hb0.out)
  have Hr0 := Lib.hid hr0
  have cb := cell_of_row w0 w.heap.size 0 _ _ _ hr0
  clear hw0 hr0
  go_loopw [3, 4, 6, 17] (fun x y _ i wr => ∃ kk : Nat, kk ≤ n ∧ i = .int .i64 (kk : Int) ∧ Below w0.heap.size w0 wr ∧ SlP wr x (xsOf (l.take kk)) ∧ SlP wr y (ysOf (l.take kk))) (fun _ _ _ i _ => n - (intOf i).toNat)
  case atStart => exact ⟨0, Nat.zero_le _, rfl, Below.refl _ _, ⟨none, 0, rfl, SlI.nil _, fun _ => ⟨rfl, rfl⟩⟩, ⟨none, 0, rfl, SlI.nil _, fun _ => ⟨rfl, rfl⟩⟩⟩
  case round =>
    obtain ⟨kk, hkk, rfl, hbr, hx, hy⟩ := hrel
    have hsr := hbr.size
    have HX2 := Lib.hid hx
    have HY2 := Lib.hid hy
    have Hbr := Lib.hid hbr
    clear hx hy
    by_cases hkp : kk < n
    · have hl : kk < l.length := by omega
      obtain ⟨bb, off, rfl, hbl, c1, c2, c3, c4⟩ := (HA0.out.below hbr).at kk hl
      have Hxn : Hid (xsOf (l.take (kk + 1)) = putL (putL (xsOf (l.take kk)) l[kk].l) l[kk].r) := Lib.hid (by rw [List.take_succ_eq_append_getElem hl, xsOf_snoc])
      have Hyn : Hid (ysOf (l.take (kk + 1)) = putL (putL (ysOf (l.take kk)) l[kk].b) l[kk].t) := Lib.hid (by rw [List.take_succ_eq_append_getElem hl, ysOf_snoc])
      have hxl := xsOf_len (l.take kk)
      have hyl := ysOf_len (l.take kk)
      have hdl2 : (l.take kk).length ≤ 120 := by simp; omega
      have hkp' : (kk : Int) < (n : Int) := by omega
      generalize l[kk] = r4 at *
      generalize xsOf (l.take kk) = xs at *
      generalize ysOf (l.take kk) = ys at *
      generalize (l.take kk).length = dlen at *
      have hx1 := putL_len xs r4.l
      have hy1 := putL_len ys r4.b
      clear hbr
      go_upto_region 5 with fail
      obtain ⟨wb, hwb⟩ : ∃ wb : World, wb = wr.alloc (.cells #[.int .i64 r4.l, .int .i64 r4.b, .int .i64 r4.r, .int .i64 r4.t] 58) := ⟨_, rfl⟩
      rw [← hwb]
      have hq : wb.heap[wr.heap.size]? = some (.cells #[.int .i64 r4.l, .int .i64 r4.b, .int .i64 r4.r, .int .i64 r4.t] 58 (0, 0)) := by rw [hwb]; exact heap_alloc_new wr _
      have q0 : wb.cell? ⟨wr.heap.size, 0, none⟩ = some (.int .i64 r4.l) := cell_of_row wb _ 0 _ _ _ hq
      have q1 : wb.cell? ⟨wr.heap.size, 1, none⟩ = some (.int .i64 r4.b) := cell_of_row wb _ 1 _ _ _ hq
      have q2 : wb.cell? ⟨wr.heap.size, 2, none⟩ = some (.int .i64 r4.r) := cell_of_row wb _ 2 _ _ _ hq
      have q3 : wb.cell? ⟨wr.heap.size, 3, none⟩ = some (.int .i64 r4.t) := cell_of_row wb _ 3 _ _ _ hq
      have hsb : wr.heap.size < wb.heap.size := by rw [hwb]; simp
      have Hbb : Hid (Below wr.heap.size wr wb) := Lib.hid (by rw [hwb]; exact (by repeat' (first | with_reducible exact Below.refl _ _ | with_reducible refine below_drewN ?_ _ | with_reducible refine Below.drew ?_ | with_reducible refine Below.alloc ?_ ?_ _ | with_reducible refine Below.setCell ?_ ?_ _ | with_reducible refine Below.trans ?_ (Below.mono (by with_reducible assumption) ?_) | (simp; done) | (simp; omega) | omega)))
      have HX3 : Hid (SlP wb u3 xs) := Lib.hid (HX2.out.below Hbb.out)
      have HY3 : Hid (SlP wb u4 ys) := Lib.hid (HY2.out.below Hbb.out)
      have Hq := Lib.hid hq
      clear hwb hq c1 c2 c3 c4
      go_region_held3 (fun w' => w'.cell? ⟨wr.heap.size, 0, none⟩ = some (.int .i64 r4.l) ∧ w'.cell? ⟨wr.heap.size, 1, none⟩ = some (.int .i64 r4.b) ∧ w'.cell? ⟨wr.heap.size, 2, none⟩ = some (.int .i64 r4.r) ∧ w'.cell? ⟨wr.heap.size, 3, none⟩ = some (.int .i64 r4.t))
        (first | go_keep | ((repeat' apply And.intro) <;> go_keep))
        (first
          | (go_at_call_of 57 u3; refine (put_slp u3 (xs) r4.l _ (HX3.out.below (by exact (by repeat' (first | with_reducible exact Below.refl _ _ | with_reducible assumption | with_reducible refine below_drewN ?_ _ | with_reducible refine Below.drew ?_ | with_reducible refine Below.alloc ?_ ?_ _ | with_reducible refine Below.setCell ?_ ?_ _ | with_reducible refine Below.trans ?_ (Below.mono (by with_reducible assumption) ?_) | with_reducible refine below_only ?_ (by with_reducible assumption) ?_ ?_ | (simp; done) | (simp; omega) | omega)))) (by omega)).mono ?_; rintro e w1 ⟨v1, rfl, hv1, hb1⟩; have Hv1 := Lib.hid hv1; have Hk1 : Hid (Below wb.heap.size wb w1) := Lib.hid (show Below wb.heap.size wb w1 from (by have hbq := hb1; exact (by repeat' (first | with_reducible exact Below.refl _ _ | with_reducible assumption | with_reducible refine below_drewN ?_ _ | with_reducible refine Below.drew ?_ | with_reducible refine Below.alloc ?_ ?_ _ | with_reducible refine Below.setCell ?_ ?_ _ | with_reducible refine Below.trans ?_ (Below.mono (by with_reducible assumption) ?_) | with_reducible refine below_only ?_ (by with_reducible assumption) ?_ ?_ | (simp; done) | (simp; omega) | omega)))); have Hs1 : Hid (wb.heap.size ≤ w1.heap.size) := Hk1.out.size; obtain ⟨p01, p11, p21, p31⟩ := cells4 Hq.out Hk1.out hsb; clear hv1 hb1)
          | (go_at_call_of 57 v1; refine (put_slp v1 (putL xs r4.l) r4.r _ (Hv1.out) (by omega)).mono ?_; rintro e w2 ⟨v2, rfl, hv2, hb2⟩; have Hv2 := Lib.hid hv2; have Hk2 : Hid (Below wb.heap.size wb w2) := Lib.hid (show Below wb.heap.size wb w2 from (by have hbq := hb2; have hp := Hk1.out; have hs := Hs1.out; exact (by repeat' (first | with_reducible exact Below.refl _ _ | with_reducible assumption | with_reducible refine below_drewN ?_ _ | with_reducible refine Below.drew ?_ | with_reducible refine Below.alloc ?_ ?_ _ | with_reducible refine Below.setCell ?_ ?_ _ | with_reducible refine Below.trans ?_ (Below.mono (by with_reducible assumption) ?_) | with_reducible refine below_only ?_ (by with_reducible assumption) ?_ ?_ | (simp; done) | (simp; omega) | omega)))); have Hs2 : Hid (wb.heap.size ≤ w2.heap.size) := Hk2.out.size; obtain ⟨p02, p12, p22, p32⟩ := cells4 Hq.out Hk2.out hsb; clear hv2 hb2)
          | (go_at_call_of 57 u4; refine (put_slp u4 (ys) r4.b _ (HY3.out.below (by have hp := Hk2.out; have hs := Hs2.out; exact (by repeat' (first | with_reducible exact Below.refl _ _ | with_reducible assumption | with_reducible refine below_drewN ?_ _ | with_reducible refine Below.drew ?_ | with_reducible refine Below.alloc ?_ ?_ _ | with_reducible refine Below.setCell ?_ ?_ _ | with_reducible refine Below.trans ?_ (Below.mono (by with_reducible assumption) ?_) | with_reducible refine below_only ?_ (by with_reducible assumption) ?_ ?_ | (simp; done) | (simp; omega) | omega)))) (by omega)).mono ?_; rintro e w3 ⟨v3, rfl, hv3, hb3⟩; have Hv3 := Lib.hid hv3; have Hn3 := Lib.hid hb3; have Hk3 : Hid (Below wb.heap.size wb w3) := Lib.hid (show Below wb.heap.size wb w3 from (by have hbq := hb3; have hp := Hk2.out; have hs := Hs2.out; exact (by repeat' (first | with_reducible exact Below.refl _ _ | with_reducible assumption | with_reducible refine below_drewN ?_ _ | with_reducible refine Below.drew ?_ | with_reducible refine Below.alloc ?_ ?_ _ | with_reducible refine Below.setCell ?_ ?_ _ | with_reducible refine Below.trans ?_ (Below.mono (by with_reducible assumption) ?_) | with_reducible refine below_only ?_ (by with_reducible assumption) ?_ ?_ | (simp; done) | (simp; omega) | omega)))); have Hs3 : Hid (wb.heap.size ≤ w3.heap.size) := Hk3.out.size; obtain ⟨p03, p13, p23, p33⟩ := cells4 Hq.out Hk3.out hsb; clear hv3 hb3)
          | (go_at_call_of 57 v3; refine (put_slp v3 (putL ys r4.b) r4.t _ (Hv3.out) (by omega)).mono ?_; rintro e w4 ⟨v4, rfl, hv4, hb4⟩; have Hv4 := Lib.hid hv4; have Hn4 := Lib.hid hb4; have Hk4 : Hid (Below wb.heap.size wb w4) := Lib.hid (show Below wb.heap.size wb w4 from (by have hbq := hb4; have hp := Hk3.out; have hs := Hs3.out; exact (by repeat' (first | with_reducible exact Below.refl _ _ | with_reducible assumption | with_reducible refine below_drewN ?_ _ | with_reducible refine Below.drew ?_ | with_reducible refine Below.alloc ?_ ?_ _ | with_reducible refine Below.setCell ?_ ?_ _ | with_reducible refine Below.trans ?_ (Below.mono (by with_reducible assumption) ?_) | with_reducible refine below_only ?_ (by with_reducible assumption) ?_ ?_ | (simp; done) | (simp; omega) | omega)))); have Hs4 : Hid (wb.heap.size ≤ w4.heap.size) := Hk4.out.size; obtain ⟨p04, p14, p24, p34⟩ := cells4 Hq.out Hk4.out hsb; clear hv4 hb4)
          | fail)
      all_goals
        go_wp2
        go_roundw
        case rel =>
          have hk4 := Hk4.out
          refine ⟨kk + 1, by omega, by go_num, ?_, ?_, ?_⟩
          · have h1 := Hbr.out
            have h2 := Hbb.out
            exact h1.trans ((h2.trans (hk4.mono (by omega))).mono (by omega))
          · rw [Hxn.out]
            exact (Hv2.out.below Hn3.out).below Hn4.out
          · rw [Hyn.out]; exact Hv4.out
        case measure => simp [intOf]; omega
    · have e1 : l.take kk = l := List.take_of_length_le (by omega)
      have HX5 : Hid (SlP wr u3 (xsR l)) := Lib.hid (by have := HX2.out; rw [e1] at this; exact this)
      have HY5 : Hid (SlP wr u4 (ysR l)) := Lib.hid (by have := HY2.out; rw [e1] at this; exact this)
      have hkp' : ¬ (kk : Int) < (n : Int) := by omega
      have hxs : (xsR l).length ≤ 240 := by have := xsOf_len l; show (xsOf l).length ≤ 240; omega
      have hys : (ysR l).length ≤ 240 := by have := ysOf_len l; show (ysOf l).length ≤ 240; omega
      generalize xsR l = xs at *
      generalize ysR l = ys at *
      obtain ⟨w1, rfl⟩ : ∃ w1 : World, w1 = wr := ⟨_, rfl⟩
      obtain ⟨X, xc, rfl, hX, _⟩ := HX5.out
      obtain ⟨Y, yc, rfl, hY, _⟩ := HY5.out
      have HX := Lib.hid hX
      have HY := Lib.hid hY
      have HA1 := Lib.hid (HA0.out.below hbr)
      have Hc1 : Hid (w1.cell? ⟨w.heap.size, 0, none⟩ = some (.slice A n c)) := Lib.hid ((hbr.cell (p := ⟨w.heap.size, 0, none⟩) hs0).trans cb)
      have Hbw1 : Hid (Below w.heap.size w w1) := Lib.hid (Hb0.out.trans (hbr.mono (Nat.le_of_lt hs0)))
      have hsw1 : w.heap.size < w1.heap.size := Nat.lt_of_lt_of_le hs0 hsr
      clear hX hY HX5 HY5 e1 hbr Hbr HX2 HY2 HA0 Hr0 cb Hb0
      have HTl := Lib.hid (fun k => rowsE_len l xs ys k)
      have HTs := Lib.hid (fun k => rowsE_succ l xs ys k)
      have HCl := Lib.hid (fun k i => colsE_len l xs ys k i)
      have HCs := Lib.hid (fun k i => colsE_succ l xs ys k i)
      go_upto_region 9 with fail
      go_loopw [7, 8, 9, 10, 11, 12, 13] (fun o s8 _ _ _ _ _ wr => ∃ k : Nat, k ≤ ys.length - 1 ∧ s8 = .int .i64 (k : Int) ∧ wr.ownsRow w1.heap.size 85 4 o (rowsE l xs ys k).length (rCells (rowsE l xs ys k)) ∧ Below w1.heap.size w1 wr) (fun _ s8 _ _ _ _ _ _ => ys.length - 1 - (intOf s8).toNat)
      case atStart => exact ⟨0, Nat.zero_le _, rfl, World.ownsRow_nil _ _ _ _, Below.refl _ _⟩
      case round =>
        obtain ⟨wo, rfl⟩ : ∃ wo : World, wo = wr := ⟨_, rfl⟩
        obtain ⟨uo, rfl⟩ : ∃ uo, uo = u7 := ⟨_, rfl⟩
        obtain ⟨k, hk, rfl, hown, hbo⟩ := hrel
        have hso := hbo.size
        have Hown := Lib.hid hown
        have Hbo := Lib.hid hbo
        have hwk : IntKind.i64.wrap ((k : Int) + 1) = (k : Int) + 1 := IntWalk.i64_in _ (by omega)
        have hlen1 : (rowsE l xs ys k).length ≤ 229440 := by
          have h1 := HTl.out k
          have h2 : k * (4 * (xs.length - 1)) ≤ 240 * (4 * 239) := Nat.mul_le_mul (by omega) (by omega)
          omega
        by_cases hkn : k + 1 < ys.length
        · have hkn' : (k : Int) + 1 < (ys.length : Int) := by omega
          have hkd : decide ((k : Int) + 1 < (ys.length : Int)) = true := decide_eq_true hkn'
          obtain ⟨dn, hdn⟩ : ∃ dn, rowsE l xs ys k = dn := ⟨_, rfl⟩
          rw [hdn] at Hown hlen1
          have Hdn := Lib.hid hdn
          obtain ⟨y, hy⟩ : ∃ y, ys[k] = y := ⟨_, rfl⟩
          obtain ⟨y', hy'⟩ : ∃ y', ys[k + 1] = y' := ⟨_, rfl⟩
          have Hy : Hid (ys.getD k 0 = y) := Lib.hid (by rw [getD_at (by omega), hy])
          have Hy' : Hid (ys.getD (k + 1) 0 = y') := Lib.hid (by rw [getD_at hkn, hy'])
          obtain ⟨bY, oY, hYe, hbY, cY0⟩ := HY.out.at k (by omega)
          subst hYe
          obtain ⟨bY2, oY2, hYe2, hbY2, cY1⟩ := HY.out.at (k + 1) hkn
          injection hYe2 with hYe2
          injection hYe2 with e1 e2 _
          subst e1 e2
          rw [hy] at cY0
          rw [hy'] at cY1
          have HcY := Lib.hid (And.intro cY0 cY1)
          clear hown hbo hdn hy hy' cY0 cY1 hbY2
          go_upto_region 12 with fail
          go_loopw [7, 9, 10, 11, 12, 13] (fun o s9 _ _ _ _ wr => ∃ i : Nat, i ≤ xs.length - 1 ∧ s9 = .int .i64 (i : Int) ∧ wr.ownsRow w1.heap.size 85 4 o (dn ++ colsE l xs ys k i).length (rCells (dn ++ colsE l xs ys k i)) ∧ Below w1.heap.size w1 wr) (fun _ s9 _ _ _ _ _ => xs.length - 1 - (intOf s9).toNat)
          case atStart => exact ⟨0, Nat.zero_le _, rfl, by simpa [colsE] using Hown.out, Hbo.out⟩
          case round =>
            obtain ⟨wp, rfl⟩ : ∃ wp : World, wp = wr := ⟨_, rfl⟩
            obtain ⟨up, rfl⟩ : ∃ up, up = u7 := ⟨_, rfl⟩
            obtain ⟨i, hi_, rfl, hown, hbp⟩ := hrel
            have hsp := hbp.size
            have Hownp := Lib.hid hown
            have Hbp := Lib.hid hbp
            have hwi : IntKind.i64.wrap ((i : Int) + 1) = (i : Int) + 1 := IntWalk.i64_in _ (by omega)
            by_cases hin : i + 1 < xs.length
            · have hin' : (i : Int) + 1 < (xs.length : Int) := by omega
              have hid' : decide ((i : Int) + 1 < (xs.length : Int)) = true := decide_eq_true hin'
              have hbk : (dn ++ colsE l xs ys k i).length ≤ 230400 := by have := HCl.out k i; rw [List.length_append]; omega
              obtain ⟨bk, hbke⟩ : ∃ bk, dn ++ colsE l xs ys k i = bk := ⟨_, rfl⟩
              rw [hbke] at Hownp hbk
              have Hbke := Lib.hid hbke
              have HIn := Lib.hid (fun (i k : Int) (hi : -5 ≤ i ∧ i ≤ 100000000) (hk : -5 ≤ k ∧ k ≤ 100000000) W (hW : Below w1.heap.size w1 W) => in5_any A n c l X (some ⟨bY, oY, none⟩) xc yc xs ys i k W (HA1.out.below hW) (HX.out.below hW) (HY.out.below hW) hi hk)
              have cA : wp.cell? ⟨w.heap.size, 0, none⟩ = some (.slice A n c) := (hbp.cell (p := ⟨w.heap.size, 0, none⟩) hsw1).trans Hc1.out
              clear hown hbp hbke
              cases hc : inC l xs ys i k with
              | false =>
                have Hcell : Hid (cellR l xs ys i k = []) := Lib.hid (by unfold cellR; rw [hc]; rfl)
                have HI0 := Lib.hid (HIn.out i k (by omega) (by omega) wp Hbp.out)
                rw [hc] at HI0
                clear hc HIn
                go_wp2_with (first
                  | (go_at_call 82
                     refine HI0.out.mono ?_
                     rintro e w2 ⟨rfl, hb2⟩
                     have Hb2 := Lib.hid hb2
                     clear hb2)
                  | fail)
                go_roundw
                case rel => exact ⟨i + 1, by omega, by go_num, by rw [HCs.out, Hcell.out, List.append_nil, Hbke.out]; exact ownsRow_below Hownp.out Hb2.out, Hbp.out.trans (Hb2.out.mono hsp)⟩
                case measure => simp [intOf]; omega
              | true =>
                have HI0 := Lib.hid (HIn.out i k (by omega) (by omega) wp Hbp.out)
                rw [hc] at HI0
                have Hcl := Lib.hid hc
                clear hc
                go_upto_region 15 with (first
                  | (go_at_call 82
                     refine HI0.out.mono ?_
                     rintro e w2 ⟨rfl, hb2⟩
                     have Hb2 := Lib.hid hb2
                     clear hb2)
                  | fail)
                have Hb12 : Hid (Below w1.heap.size w1 w2) := Lib.hid (Hbp.out.trans (Hb2.out.mono hsp))
                have Hown2 : Hid (w2.ownsRow w1.heap.size 85 4 up bk.length (rCells bk)) := Lib.hid (ownsRow_below Hownp.out Hb2.out)
                have Hlt2 := Lib.hid (fun g (hg : up.ownBlock = some g) => (Hown2.out.lt g hg).2)
                obtain ⟨x, hx⟩ : ∃ x, xs[i] = x := ⟨_, rfl⟩
                obtain ⟨x', hx'⟩ : ∃ x', xs[i + 1] = x' := ⟨_, rfl⟩
                have Hx : Hid (xs.getD i 0 = x) := Lib.hid (by rw [getD_at (by omega), hx])
                have Hx' : Hid (xs.getD (i + 1) 0 = x') := Lib.hid (by rw [getD_at hin, hx'])
                obtain ⟨bX, oX, hXe, hbX, cX0⟩ := HX.out.at i (by omega)
                subst hXe
                obtain ⟨bX2, oX2, hXe2, hbX2, cX1⟩ := HX.out.at (i + 1) hin
                injection hXe2 with hXe2
                injection hXe2 with e1 e2 _
                subst e1 e2
                rw [hx] at cX0
                rw [hx'] at cX1
                have d0 := (Hb12.out.cell (p := ⟨bX, oX + i, none⟩) hbX).trans cX0
                have d1 := (Hb12.out.cell (p := ⟨bX, oX + (i + 1), none⟩) hbX).trans cX1
                have d2 := (Hb12.out.cell (p := ⟨bY, oY + k, none⟩) hbY).trans HcY.out.1
                have d3 := (Hb12.out.cell (p := ⟨bY, oY + (k + 1), none⟩) hbY).trans HcY.out.2
                have hb1 : bX < w2.heap.size := Nat.lt_of_lt_of_le hbX Hb12.out.size
                have hb2 : bY < w2.heap.size := Nat.lt_of_lt_of_le hbY Hb12.out.size
                have hi0 : (0 : Int) ≤ (i : Int) := by omega
                have hk0 : (0 : Int) ≤ (k : Int) := by omega
                have hi1 : (0 : Int) ≤ (i : Int) + 1 := by omega
                have hk1 : (0 : Int) ≤ (k : Int) + 1 := by omega
                have hil : (i : Int) < (xs.length : Int) := by omega
                have hkl : (k : Int) < (ys.length : Int) := by omega
                have hs2 := Hb12.out.size
                clear hx hx' cX0 cX1 cA
                go_cut [10, 11, 12, 13] (fun s10 s11 s12 s13 wx => ∃ b1 b2 b3 b4 : Nat, s10 = .pointer (some ⟨b1, 0, none⟩) ∧ s11 = .pointer (some ⟨b2, 0, none⟩) ∧ s12 = .pointer (some ⟨b3, 0, none⟩) ∧ s13 = .pointer (some ⟨b4, 0, none⟩) ∧ EdgeSt w1 wx up bk b1 b2 b3 b4 x x' y y')
                case first =>
                  have HSb : Hid (∀ wy, Below w2.heap.size w2 wy → (wy.cell? ⟨bX, oX + i, none⟩ = some (.int .i64 x) ∧ wy.cell? ⟨bX, oX + (i + 1), none⟩ = some (.int .i64 x') ∧ wy.cell? ⟨bY, oY + k, none⟩ = some (.int .i64 y) ∧ wy.cell? ⟨bY, oY + (k + 1), none⟩ = some (.int .i64 y'))) := Lib.hid (fun wy hy => ⟨(hy.cell (p := ⟨bX, oX + i, none⟩) hb1).trans d0, (hy.cell (p := ⟨bX, oX + (i + 1), none⟩) hb1).trans d1, (hy.cell (p := ⟨bY, oY + k, none⟩) hb2).trans d2, (hy.cell (p := ⟨bY, oY + (k + 1), none⟩) hb2).trans d3⟩)
                  clear d0 d1 d2 d3
                  refine wp_region_noPanic ?_
                  refine wp_region_held_drew (S := fun wy => wy.cell? ⟨bX, oX + i, none⟩ = some (.int .i64 x) ∧ wy.cell? ⟨bX, oX + (i + 1), none⟩ = some (.int .i64 x') ∧ wy.cell? ⟨bY, oY + k, none⟩ = some (.int .i64 y) ∧ wy.cell? ⟨bY, oY + (k + 1), none⟩ = some (.int .i64 y')) (by kernel_rfl) (HSb.out _ (by repeat' (first | with_reducible exact Below.refl _ _ | with_reducible refine below_drewN ?_ _ | with_reducible refine Below.drew ?_ | with_reducible refine Below.alloc ?_ ?_ _ | with_reducible refine Below.setCell ?_ ?_ _ | with_reducible refine Below.trans ?_ (Below.mono (by with_reducible assumption) ?_) | (simp; done) | (simp; omega) | omega))) (fun hHeld => ?_)
                  refine wpAnyH_take (i := 0) (v := ?vva0) rfl (by kernel_rfl) (by kernel_rfl) (by kernel_rfl) (fun _ _ _ h => h) (Or.inl ⟨by rfl, ?hya0⟩) hHeld ?resta0; (case hya0 => (intro w hSw; (try dsimp only at hSw); go_simp; all_goals (with_reducible rfl))); simp only [Act.put, List.setIfInBounds_toArray, List.set_cons_zero, List.set_cons_succ]
                  refine wpAnyH_take (i := 1) (v := ?vva1) rfl (by kernel_rfl) (by kernel_rfl) (by kernel_rfl) (fun _ _ _ h => h) (Or.inl ⟨by rfl, ?hya1⟩) hHeld ?resta1; (case hya1 => (intro w hSw; (try dsimp only at hSw); go_simp; all_goals (with_reducible rfl))); simp only [Act.put, List.setIfInBounds_toArray, List.set_cons_zero, List.set_cons_succ]
                  refine wpAnyH_take (i := 2) (v := ?vva2) rfl (by kernel_rfl) (by kernel_rfl) (by kernel_rfl) (fun _ _ _ h => h) (Or.inl ⟨by rfl, ?hya2⟩) hHeld ?resta2; (case hya2 => (intro w hSw; (try dsimp only at hSw); go_simp; all_goals (with_reducible rfl))); simp only [Act.put, List.setIfInBounds_toArray, List.set_cons_zero, List.set_cons_succ]
                  refine wpAnyH_take (i := 3) (v := ?vva3) rfl (by kernel_rfl) (by kernel_rfl) (by kernel_rfl) (fun _ _ _ h => h) (Or.inl ⟨by rfl, ?hya3⟩) hHeld ?resta3; (case hya3 => (intro w hSw; (try dsimp only at hSw); go_simp; all_goals (with_reducible rfl))); simp only [Act.put, List.setIfInBounds_toArray, List.set_cons_zero, List.set_cons_succ]
                  refine wpAnyH_take (i := 4) (v := ?vva4) rfl (by kernel_rfl) (by kernel_rfl) (by kernel_rfl) (fun _ _ _ h => h) (Or.inl ⟨by rfl, ?hya4⟩) hHeld ?resta4; (case hya4 => (intro w hSw; (try dsimp only at hSw); go_simp; all_goals (with_reducible rfl))); simp only [Act.put, List.setIfInBounds_toArray, List.set_cons_zero, List.set_cons_succ]
                  refine wpAnyH_take (i := 5) (v := ?vva5) rfl (by kernel_rfl) (by kernel_rfl) (by kernel_rfl) (fun _ _ _ h => h) (Or.inl ⟨by rfl, ?hya5⟩) hHeld ?resta5; (case hya5 => (intro w hSw; (try dsimp only at hSw); go_simp; all_goals (with_reducible rfl))); simp only [Act.put, List.setIfInBounds_toArray, List.set_cons_zero, List.set_cons_succ]
                  refine wpAnyH_take (i := 6) (v := ?vva6) rfl (by kernel_rfl) (by kernel_rfl) (by kernel_rfl) (fun _ _ _ h => h) (Or.inl ⟨by rfl, ?hya6⟩) hHeld ?resta6; (case hya6 => (intro w hSw; (try dsimp only at hSw); go_simp; all_goals (with_reducible rfl))); simp only [Act.put, List.setIfInBounds_toArray, List.set_cons_zero, List.set_cons_succ]
                  refine wpAnyH_take (i := 7) (v := ?vva7) rfl (by kernel_rfl) (by kernel_rfl) (by kernel_rfl) (fun _ _ _ h => h) (Or.inl ⟨by rfl, ?hya7⟩) hHeld ?resta7; (case hya7 => (intro w hSw; (try dsimp only at hSw); go_simp; all_goals (with_reducible rfl))); simp only [Act.put, List.setIfInBounds_toArray, List.set_cons_zero, List.set_cons_succ]
                  refine wpAnyH_take (i := 8) (v := ?vva8) rfl (by kernel_rfl) (by kernel_rfl) (by kernel_rfl) (fun _ _ _ h => h) (Or.inl ⟨by rfl, ?hya8⟩) hHeld ?resta8; (case hya8 => (intro w hSw; (try dsimp only at hSw); go_simp; all_goals (with_reducible rfl))); simp only [Act.put, List.setIfInBounds_toArray, List.set_cons_zero, List.set_cons_succ]
                  refine wpAnyH_take (i := 9) (v := ?vva9) rfl (by kernel_rfl) (by kernel_rfl) (by kernel_rfl) (fun _ _ _ h => h) (Or.inl ⟨by rfl, ?hya9⟩) hHeld ?resta9; (case hya9 => (intro w hSw; (try dsimp only at hSw); go_simp; all_goals (with_reducible rfl))); simp only [Act.put, List.setIfInBounds_toArray, List.set_cons_zero, List.set_cons_succ]
                  refine wpAnyH_take (i := 10) (v := ?vva10) rfl (by kernel_rfl) (by kernel_rfl) (by kernel_rfl) (fun _ _ _ h => h) (Or.inl ⟨by rfl, ?hya10⟩) hHeld ?resta10; (case hya10 => (intro w hSw; (try dsimp only at hSw); go_simp; all_goals (with_reducible rfl))); simp only [Act.put, List.setIfInBounds_toArray, List.set_cons_zero, List.set_cons_succ]
                  refine wpAnyH_take (i := 11) (v := ?vva11) rfl (by kernel_rfl) (by kernel_rfl) (by kernel_rfl) (fun _ _ _ h => h) (Or.inl ⟨by rfl, ?hya11⟩) hHeld ?resta11; (case hya11 => (intro w hSw; (try dsimp only at hSw); go_simp; all_goals (with_reducible rfl))); simp only [Act.put, List.setIfInBounds_toArray, List.set_cons_zero, List.set_cons_succ]
                  refine wpAnyH_take (i := 12) (v := ?vva12) rfl (by kernel_rfl) (by kernel_rfl) (by kernel_rfl) (fun _ _ _ h => h) (Or.inl ⟨by rfl, ?hya12⟩) hHeld ?resta12; (case hya12 => (intro w hSw; (try dsimp only at hSw); go_simp; all_goals (with_reducible rfl))); simp only [Act.put, List.setIfInBounds_toArray, List.set_cons_zero, List.set_cons_succ]
                  refine wpAnyH_take (i := 13) (v := ?vva13) rfl (by kernel_rfl) (by kernel_rfl) (by kernel_rfl) (fun _ _ _ h => h) (Or.inl ⟨by rfl, ?hya13⟩) hHeld ?resta13; (case hya13 => (intro w hSw; (try dsimp only at hSw); go_simp; all_goals (with_reducible rfl))); simp only [Act.put, List.setIfInBounds_toArray, List.set_cons_zero, List.set_cons_succ]
                  refine wpAnyH_take (i := 14) (v := ?vva14) rfl (by kernel_rfl) (by kernel_rfl) (by kernel_rfl) (fun _ _ _ h => h) (Or.inl ⟨by rfl, ?hya14⟩) hHeld ?resta14; (case hya14 => (intro w hSw; (try dsimp only at hSw); go_simp; all_goals (with_reducible rfl))); simp only [Act.put, List.setIfInBounds_toArray, List.set_cons_zero, List.set_cons_succ]
                  refine wpAnyH_take (i := 15) (v := ?vva15) rfl (by kernel_rfl) (by kernel_rfl) (by kernel_rfl) (fun _ _ _ h => h) (Or.inl ⟨by rfl, ?hya15⟩) hHeld ?resta15; (case hya15 => (intro w hSw; (try dsimp only at hSw); go_simp; all_goals (with_reducible rfl))); simp only [Act.put, List.setIfInBounds_toArray, List.set_cons_zero, List.set_cons_succ]
                  refine wpAnyH_take (i := 16) (v := ?vva16) rfl (by kernel_rfl) (by kernel_rfl) (by kernel_rfl) (fun _ _ _ h => h) (Or.inl ⟨by rfl, ?hya16⟩) hHeld ?resta16; (case hya16 => (intro w hSw; (try dsimp only at hSw); go_simp; all_goals (with_reducible rfl))); simp only [Act.put, List.setIfInBounds_toArray, List.set_cons_zero, List.set_cons_succ]
                  refine wpAnyH_take (i := 17) (v := ?vva17) rfl (by kernel_rfl) (by kernel_rfl) (by kernel_rfl) (fun _ _ _ h => h) (Or.inl ⟨by rfl, ?hya17⟩) hHeld ?resta17; (case hya17 => (intro w hSw; (try dsimp only at hSw); go_simp; all_goals (with_reducible rfl))); simp only [Act.put, List.setIfInBounds_toArray, List.set_cons_zero, List.set_cons_succ]
                  refine wpAnyH_take (i := 18) (v := ?vva18) rfl (by kernel_rfl) (by kernel_rfl) (by kernel_rfl) (fun _ _ _ h => h) (Or.inl ⟨by rfl, ?hya18⟩) hHeld ?resta18; (case hya18 => (intro w hSw; (try dsimp only at hSw); go_simp; all_goals (with_reducible rfl))); simp only [Act.put, List.setIfInBounds_toArray, List.set_cons_zero, List.set_cons_succ]
                  refine wpAnyH_take (i := 19) (v := ?vva19) rfl (by kernel_rfl) (by kernel_rfl) (by kernel_rfl) (fun _ _ _ h => h) (Or.inl ⟨by rfl, ?hya19⟩) hHeld ?resta19; (case hya19 => (intro w hSw; (try dsimp only at hSw); go_simp; all_goals (with_reducible rfl))); simp only [Act.put, List.setIfInBounds_toArray, List.set_cons_zero, List.set_cons_succ]
                  refine wpAnyH_take (i := 20) (v := ?vva20) rfl (by kernel_rfl) (by kernel_rfl) (by kernel_rfl) (fun _ _ _ h => h) (Or.inl ⟨by rfl, ?hya20⟩) hHeld ?resta20; (case hya20 => (intro w hSw; (try dsimp only at hSw); go_simp; all_goals (with_reducible rfl))); simp only [Act.put, List.setIfInBounds_toArray, List.set_cons_zero, List.set_cons_succ]
                  refine wpAnyH_take (i := 21) (v := ?vva21) rfl (by kernel_rfl) (by kernel_rfl) (by kernel_rfl) (fun _ _ _ h => h) (Or.inl ⟨by rfl, ?hya21⟩) hHeld ?resta21; (case hya21 => (intro w hSw; (try dsimp only at hSw); go_simp; all_goals (with_reducible rfl))); simp only [Act.put, List.setIfInBounds_toArray, List.set_cons_zero, List.set_cons_succ]
                  refine wpAnyH_take (i := 22) (v := ?vva22) rfl (by kernel_rfl) (by kernel_rfl) (by kernel_rfl) (fun _ _ _ h => h) (Or.inl ⟨by rfl, ?hya22⟩) hHeld ?resta22; (case hya22 => (intro w hSw; (try dsimp only at hSw); go_simp; all_goals (with_reducible rfl))); simp only [Act.put, List.setIfInBounds_toArray, List.set_cons_zero, List.set_cons_succ]
                  refine wpAnyH_take (i := 23) (v := ?vva23) rfl (by kernel_rfl) (by kernel_rfl) (by kernel_rfl) (fun _ _ _ h => h) (Or.inl ⟨by rfl, ?hya23⟩) hHeld ?resta23; (case hya23 => (intro w hSw; (try dsimp only at hSw); go_simp; all_goals (with_reducible rfl))); simp only [Act.put, List.setIfInBounds_toArray, List.set_cons_zero, List.set_cons_succ]
                  refine wpAnyH_take (i := 24) (v := ?vva24) rfl (by kernel_rfl) (by kernel_rfl) (by kernel_rfl) (fun _ _ _ h => h) (Or.inl ⟨by rfl, ?hya24⟩) hHeld ?resta24; (case hya24 => (intro w hSw; (try dsimp only at hSw); go_simp; all_goals (with_reducible rfl))); simp only [Act.put, List.setIfInBounds_toArray, List.set_cons_zero, List.set_cons_succ]
                  refine wpAnyH_take (i := 25) (v := ?vva25) rfl (by kernel_rfl) (by kernel_rfl) (by kernel_rfl) (fun _ _ _ h => h) (Or.inl ⟨by rfl, ?hya25⟩) hHeld ?resta25; (case hya25 => (intro w hSw; (try dsimp only at hSw); go_simp; all_goals (with_reducible rfl))); simp only [Act.put, List.setIfInBounds_toArray, List.set_cons_zero, List.set_cons_succ]
                  refine wpAnyH_take (i := 26) (v := ?vva26) rfl (by kernel_rfl) (by kernel_rfl) (by kernel_rfl) (fun _ _ _ h => h) (Or.inl ⟨by rfl, ?hya26⟩) hHeld ?resta26; (case hya26 => (intro w hSw; (try dsimp only at hSw); go_simp; all_goals (with_reducible rfl))); simp only [Act.put, List.setIfInBounds_toArray, List.set_cons_zero, List.set_cons_succ]
                  refine wpAnyH_take (i := 27) (v := ?vva27) rfl (by kernel_rfl) (by kernel_rfl) (by kernel_rfl) (fun _ _ _ h => h) (Or.inl ⟨by rfl, ?hya27⟩) hHeld ?resta27; (case hya27 => (intro w hSw; (try dsimp only at hSw); go_simp; all_goals (with_reducible rfl))); simp only [Act.put, List.setIfInBounds_toArray, List.set_cons_zero, List.set_cons_succ]
                  refine wpAnyH_take (i := 28) (v := ?vva28) rfl (by kernel_rfl) (by kernel_rfl) (by kernel_rfl) (fun _ _ _ h => h) (Or.inl ⟨by rfl, ?hya28⟩) hHeld ?resta28; (case hya28 => (intro w hSw; (try dsimp only at hSw); go_simp; all_goals (with_reducible rfl))); simp only [Act.put, List.setIfInBounds_toArray, List.set_cons_zero, List.set_cons_succ]
                  refine wpAnyH_take (i := 29) (v := ?vva29) rfl (by kernel_rfl) (by kernel_rfl) (by kernel_rfl) (fun _ _ _ h => h) (Or.inl ⟨by rfl, ?hya29⟩) hHeld ?resta29; (case hya29 => (intro w hSw; (try dsimp only at hSw); go_simp; all_goals (with_reducible rfl))); simp only [Act.put, List.setIfInBounds_toArray, List.set_cons_zero, List.set_cons_succ]
                  refine wpAnyH_take (i := 30) (v := ?vva30) rfl (by kernel_rfl) (by kernel_rfl) (by kernel_rfl) (fun _ _ _ h => h) (Or.inl ⟨by rfl, ?hya30⟩) hHeld ?resta30; (case hya30 => (intro w hSw; (try dsimp only at hSw); go_simp; all_goals (with_reducible rfl))); simp only [Act.put, List.setIfInBounds_toArray, List.set_cons_zero, List.set_cons_succ]
                  refine wpAnyH_take (i := 31) (v := ?vva31) rfl (by kernel_rfl) (by kernel_rfl) (by kernel_rfl) (fun _ _ _ h => h) (Or.inl ⟨by rfl, ?hya31⟩) hHeld ?resta31; (case hya31 => (intro w hSw; (try dsimp only at hSw); go_simp; all_goals (with_reducible rfl))); simp only [Act.put, List.setIfInBounds_toArray, List.set_cons_zero, List.set_cons_succ]
                  refine wpAnyH_take (i := 32) (v := ?vva32) rfl (by kernel_rfl) (by kernel_rfl) (by kernel_rfl) (fun _ _ _ h => h) (Or.inl ⟨by rfl, ?hya32⟩) hHeld ?resta32; (case hya32 => (intro w hSw; (try dsimp only at hSw); go_simp; all_goals (with_reducible rfl))); simp only [Act.put, List.setIfInBounds_toArray, List.set_cons_zero, List.set_cons_succ]
                  refine wpAnyH_take (i := 33) (v := ?vva33) rfl (by kernel_rfl) (by kernel_rfl) (by kernel_rfl) (fun _ _ _ h => h) (Or.inl ⟨by rfl, ?hya33⟩) hHeld ?resta33; (case hya33 => (intro w hSw; (try dsimp only at hSw); go_simp; all_goals (with_reducible rfl))); simp only [Act.put, List.setIfInBounds_toArray, List.set_cons_zero, List.set_cons_succ]
                  refine wpAnyH_take (i := 34) (v := ?vva34) rfl (by kernel_rfl) (by kernel_rfl) (by kernel_rfl) (fun _ _ _ h => h) (Or.inl ⟨by rfl, ?hya34⟩) hHeld ?resta34; (case hya34 => (intro w hSw; (try dsimp only at hSw); go_simp; all_goals (with_reducible rfl))); simp only [Act.put, List.setIfInBounds_toArray, List.set_cons_zero, List.set_cons_succ]
                  refine wpAnyH_take (i := 35) (v := ?vva35) rfl (by kernel_rfl) (by kernel_rfl) (by kernel_rfl) (fun _ _ _ h => h) (Or.inl ⟨by rfl, ?hya35⟩) hHeld ?resta35; (case hya35 => (intro w hSw; (try dsimp only at hSw); go_simp; all_goals (with_reducible rfl))); simp only [Act.put, List.setIfInBounds_toArray, List.set_cons_zero, List.set_cons_succ]
                  refine wpAnyH_take (i := 36) (v := ?vva36) rfl (by kernel_rfl) (by kernel_rfl) (by kernel_rfl) (fun _ _ _ h => h) (Or.inl ⟨by rfl, ?hya36⟩) hHeld ?resta36; (case hya36 => (intro w hSw; (try dsimp only at hSw); go_simp; all_goals (with_reducible rfl))); simp only [Act.put, List.setIfInBounds_toArray, List.set_cons_zero, List.set_cons_succ]
                  refine wpAnyH_take (i := 37) (v := ?vva37) rfl (by kernel_rfl) (by kernel_rfl) (by kernel_rfl) (fun _ _ _ h => h) (Or.inl ⟨by rfl, ?hya37⟩) hHeld ?resta37; (case hya37 => (intro w hSw; (try dsimp only at hSw); go_simp; all_goals (with_reducible rfl))); simp only [Act.put, List.setIfInBounds_toArray, List.set_cons_zero, List.set_cons_succ]
                  refine wpAnyH_take (i := 38) (v := ?vva38) rfl (by kernel_rfl) (by kernel_rfl) (by kernel_rfl) (fun _ _ _ h => h) (Or.inl ⟨by rfl, ?hya38⟩) hHeld ?resta38; (case hya38 => (intro w hSw; (try dsimp only at hSw); go_simp; all_goals (with_reducible rfl))); simp only [Act.put, List.setIfInBounds_toArray, List.set_cons_zero, List.set_cons_succ]
                  refine wpAnyH_take (i := 39) (v := ?vva39) rfl (by kernel_rfl) (by kernel_rfl) (by kernel_rfl) (fun _ _ _ h => h) (Or.inl ⟨by rfl, ?hya39⟩) hHeld ?resta39; (case hya39 => (intro w hSw; (try dsimp only at hSw); go_simp; all_goals (with_reducible rfl))); simp only [Act.put, List.setIfInBounds_toArray, List.set_cons_zero, List.set_cons_succ]
                  refine allocs_any2 (.cells #[.int .i64 0, .int .i64 0] 43) w2.drew [(40, 10), (41, 11), (42, 12), (43, 13)] 4 _ _ (by decide) (by decide) ?hop (by kernel_rfl) (fun wy hy => ?hsk) hHeld ?hrest
                  case hop =>
                    intro it hit K a0 wy hK
                    simp only [List.mem_cons, List.not_mem_nil, or_false] at hit
                    rcases hit with rfl | rfl | rfl | rfl
                    all_goals
                      refine wpOp_step rfl (fun K' hK' => ?_)
                      go_simp
                      exact hK' _ _ hK
                  case hsk =>
                    obtain ⟨h1, h2, h3, h4⟩ := hy
                    exact ⟨(World.cell?_alloc_some _ _ _ (by rw [h1]; rfl)).trans h1, (World.cell?_alloc_some _ _ _ (by rw [h2]; rfl)).trans h2, (World.cell?_alloc_some _ _ _ (by rw [h3]; rfl)).trans h3, (World.cell?_alloc_some _ _ _ (by rw [h4]; rfl)).trans h4⟩
                  case hrest =>
                    intro β wy hby hβ hinj hHeld
                    have f1 : w2.heap.size ≤ β 40 ∧ _ := hβ (40, 10) (by simp)
                    have f2 : w2.heap.size ≤ β 41 ∧ _ := hβ (41, 11) (by simp)
                    have f3 : w2.heap.size ≤ β 42 ∧ _ := hβ (42, 12) (by simp)
                    have f4 : w2.heap.size ≤ β 43 ∧ _ := hβ (43, 13) (by simp)
                    obtain ⟨f1, p1⟩ := f1
                    obtain ⟨f2, p2⟩ := f2
                    obtain ⟨f3, p3⟩ := f3
                    obtain ⟨f4, p4⟩ := f4
                    have n12 : β 40 ≠ β 41 := fun e => by have := hinj (40, 10) (by simp) (41, 11) (by simp) e; simp at this
                    have n13 : β 40 ≠ β 42 := fun e => by have := hinj (40, 10) (by simp) (42, 12) (by simp) e; simp at this
                    have n14 : β 40 ≠ β 43 := fun e => by have := hinj (40, 10) (by simp) (43, 13) (by simp) e; simp at this
                    have n23 : β 41 ≠ β 42 := fun e => by have := hinj (41, 11) (by simp) (42, 12) (by simp) e; simp at this
                    have n24 : β 41 ≠ β 43 := fun e => by have := hinj (41, 11) (by simp) (43, 13) (by simp) e; simp at this
                    have n34 : β 42 ≠ β 43 := fun e => by have := hinj (42, 12) (by simp) (43, 13) (by simp) e; simp at this
                    have Hbx : Hid (Below w2.heap.size w2 wy) := Lib.hid ((Below.refl _ w2).drew.trans hby)
                    clear hβ hinj hby
                    simp only [List.map_cons, List.map_nil, setAll, putAll, List.foldl_cons, List.foldl_nil, Act.put, List.setIfInBounds_toArray, List.set_cons_zero, List.set_cons_succ]
                    simp only at p1 p2 p3 p4
                    have P1 := Lib.hid p1
                    have P2 := Lib.hid p2
                    have P3 := Lib.hid p3
                    have P4 := Lib.hid p4
                    have m12 := n12.symm
                    have m13 := n13.symm
                    have m14 := n14.symm
                    have m23 := n23.symm
                    have m24 := n24.symm
                    have m34 := n34.symm
                    have a10 := cell_of_row wy (β 40) 0 _ _ _ p1
                    have z10 := frozen_of_row wy (β 40) 0 _ _ p1
                    have a11 := cell_of_row wy (β 40) 1 _ _ _ p1
                    have z11 := frozen_of_row wy (β 40) 1 _ _ p1
                    have a20 := cell_of_row wy (β 41) 0 _ _ _ p2
                    have z20 := frozen_of_row wy (β 41) 0 _ _ p2
                    have a21 := cell_of_row wy (β 41) 1 _ _ _ p2
                    have z21 := frozen_of_row wy (β 41) 1 _ _ p2
                    have a30 := cell_of_row wy (β 42) 0 _ _ _ p3
                    have z30 := frozen_of_row wy (β 42) 0 _ _ p3
                    have a31 := cell_of_row wy (β 42) 1 _ _ _ p3
                    have z31 := frozen_of_row wy (β 42) 1 _ _ p3
                    have a40 := cell_of_row wy (β 43) 0 _ _ _ p4
                    have z40 := frozen_of_row wy (β 43) 0 _ _ p4
                    have a41 := cell_of_row wy (β 43) 1 _ _ _ p4
                    have z41 := frozen_of_row wy (β 43) 1 _ _ p4
                    clear p1 p2 p3 p4
                    refine wpAnyH_ready (rs := [44]) (by kernel_rfl) (by simp) ?_; refine AllReadyH.cons rfl (fun K hK => ?_) AllReadyH.nil
                    go_simp
                    refine hK.out _ _ (HSb.out _ (by have hbx := Hbx.out; repeat' (first | with_reducible exact hbx | with_reducible refine Below.setCell ?_ ?_ _ | with_reducible assumption))) (fun hHeld => ?_)
                    clear hK K
                    (try simp only [Act.put, List.setIfInBounds_toArray, List.set_cons_zero, List.set_cons_succ])
                    refine wpAnyH_ready (rs := [45]) (by kernel_rfl) (by simp) ?_; refine AllReadyH.cons rfl (fun K hK => ?_) AllReadyH.nil
                    go_simp
                    refine hK.out _ _ (HSb.out _ (by have hbx := Hbx.out; repeat' (first | with_reducible exact hbx | with_reducible refine Below.setCell ?_ ?_ _ | with_reducible assumption))) (fun hHeld => ?_)
                    clear hK K
                    (try simp only [Act.put, List.setIfInBounds_toArray, List.set_cons_zero, List.set_cons_succ])
                    refine wpAnyH_ready (rs := [46]) (by kernel_rfl) (by simp) ?_; refine AllReadyH.cons rfl (fun K hK => ?_) AllReadyH.nil
                    go_simp
                    refine hK.out _ _ (HSb.out _ (by have hbx := Hbx.out; repeat' (first | with_reducible exact hbx | with_reducible refine Below.setCell ?_ ?_ _ | with_reducible assumption))) (fun hHeld => ?_)
                    clear hK K
                    (try simp only [Act.put, List.setIfInBounds_toArray, List.set_cons_zero, List.set_cons_succ])
                    refine wpAnyH_ready (rs := [47]) (by kernel_rfl) (by simp) ?_; refine AllReadyH.cons rfl (fun K hK => ?_) AllReadyH.nil
                    go_simp
                    refine hK.out _ _ (HSb.out _ (by have hbx := Hbx.out; repeat' (first | with_reducible exact hbx | with_reducible refine Below.setCell ?_ ?_ _ | with_reducible assumption))) (fun hHeld => ?_)
                    clear hK K
                    (try simp only [Act.put, List.setIfInBounds_toArray, List.set_cons_zero, List.set_cons_succ])
                    refine wpAnyH_done (by kernel_rfl) ?_ _
                    refine NoPanic.normal ?_
                    go_wp2
                    go_meet
                    case rel =>
                      obtain ⟨q1, q2, q3, q4⟩ := fill4_at (x := .int .i64 x) (x' := .int .i64 x') (y := .int .i64 y) (y' := .int .i64 y') n12 n13 n14 n23 n24 n34 P1.out P2.out P3.out P4.out
                      have hbf : Below w2.heap.size w2 (fill4 wy (β 40) (β 41) (β 42) (β 43) (.int .i64 x) (.int .i64 x') (.int .i64 y) (.int .i64 y')) := fill4_below Hbx.out f1 f2 f3 f4
                      exact ⟨β 40, β 41, β 42, β 43, rfl, rfl, rfl, rfl, ownsRow_below Hown2.out hbf, Hb12.out.trans (hbf.mono hs2), q1, q2, q3, q4, fun g hg => by have := Hlt2.out g hg; omega⟩
                case rest =>
                  obtain ⟨wx, rfl⟩ : ∃ wx : World, wx = wc := ⟨_, rfl⟩
                  obtain ⟨g1, g2, g3, g4, rfl, rfl, rfl, rfl, hst⟩ := hcut
                  have HSt0 := Lib.hid hst
                  have hwk1 : IntKind.i64.wrap ((k : Int) - 1) = (k : Int) - 1 := IntWalk.i64_in _ (by omega)
                  have hwi1 : IntKind.i64.wrap ((i : Int) - 1) = (i : Int) - 1 := IntWalk.i64_in _ (by omega)
                  obtain ⟨q1, hq1⟩ : ∃ q, inC l xs ys i ((k : Int) - 1) = q := ⟨_, rfl⟩
                  have HI1 := Lib.hid (fun W hW => HIn.out i ((k : Int) - 1) (by omega) (by omega) W hW)
                  rw [hq1] at HI1
                  obtain ⟨q2, hq2⟩ : ∃ q, inC l xs ys ((i : Int) + 1) (k) = q := ⟨_, rfl⟩
                  have HI2 := Lib.hid (fun W hW => HIn.out ((i : Int) + 1) k (by omega) (by omega) W hW)
                  rw [hq2] at HI2
                  obtain ⟨q3, hq3⟩ : ∃ q, inC l xs ys i ((k : Int) + 1) = q := ⟨_, rfl⟩
                  have HI3 := Lib.hid (fun W hW => HIn.out i ((k : Int) + 1) (by omega) (by omega) W hW)
                  rw [hq3] at HI3
                  obtain ⟨q4, hq4⟩ : ∃ q, inC l xs ys ((i : Int) - 1) (k) = q := ⟨_, rfl⟩
                  have HI4 := Lib.hid (fun W hW => HIn.out ((i : Int) - 1) k (by omega) (by omega) W hW)
                  rw [hq4] at HI4
                  have Hcell : Hid (cellR l xs ys i k = (if q1 then [] else [⟨x, y, x', y⟩]) ++ (if q2 then [] else [⟨x', y, x', y'⟩]) ++ (if q3 then [] else [⟨x', y', x, y'⟩]) ++ (if q4 then [] else [⟨x, y', x, y⟩])) := Lib.hid (by unfold cellR; rw [Hcl.out, if_pos rfl, hq1, hq2, hq3, hq4, Hx.out, Hx'.out, Hy.out, Hy'.out])
                  clear hst hq1 hq2 hq3 hq4 HIn HI0 Hb2 d0 d1 d2 d3
                  obtain ⟨bk0, hbk0⟩ : ∃ b, bk = b := ⟨_, rfl⟩
                  have Hbk0 := Lib.hid hbk0
                  rw [hbk0] at HSt0
                  have hbl0 : bk0.length ≤ 230400 := by rw [← hbk0]; exact hbk
                  clear hbk0
                  have cA1 : wx.cell? ⟨w.heap.size, 0, none⟩ = some (.slice A n c) := (HSt0.out.bel.cell (p := ⟨w.heap.size, 0, none⟩) hsw1).trans Hc1.out
                  go_upto_if 104 with (first
                    | (go_at_call 82
                       refine (HI1.out _ HSt0.out.bel).mono ?_
                       rintro e v1w ⟨rfl, hbv⟩
                       have HSv1 := Lib.hid (HSt0.out.below hbv)
                       clear hbv cA1)
                    | fail)
                  obtain ⟨bk1, hbk1⟩ : ∃ b, bk0 ++ (if q1 then [] else [⟨x, y, x', y⟩]) = b := ⟨_, rfl⟩
                  have Hbk1 := Lib.hid hbk1
                  have hbl1 : bk1.length ≤ 230401 := by rw [← hbk1, List.length_append]; cases q1 <;> simp <;> omega
                  clear hbk1
                  go_cut [7] (fun o wx => EdgeSt w1 wx o bk1 g1 g2 g3 g4 x x' y y')
                  case first =>
                    have r00 := cell_of_row v1w g1 0 _ _ _ HSv1.out.p1
                    have r01 := cell_of_row v1w g1 1 _ _ _ HSv1.out.p1
                    have r10 := cell_of_row v1w g2 0 _ _ _ HSv1.out.p2
                    have r11 := cell_of_row v1w g2 1 _ _ _ HSv1.out.p2
                    have r20 := cell_of_row v1w g3 0 _ _ _ HSv1.out.p3
                    have r21 := cell_of_row v1w g3 1 _ _ _ HSv1.out.p3
                    have r30 := cell_of_row v1w g4 0 _ _ _ HSv1.out.p4
                    have r31 := cell_of_row v1w g4 1 _ _ _ HSv1.out.p4
                    cases q1
                    case true =>
                      have Hsame : Hid (bk1 = bk0) := Lib.hid (by rw [← Hbk1.out]; simp)
                      go_wp2
                      go_meet
                      case rel => rw [Hsame.out]; exact HSv1.out
                    case false =>
                      have Hmore : Hid (bk1 = bk0 ++ [⟨x, y, x', y⟩]) := Lib.hid (by rw [← Hbk1.out]; simp)
                      go_wp2_with (first
                        | (at_builtin
                           refine wpList_append_any _ rfl (.tmp 105) (.tmp 109) _ rfl w1.heap.size 85 i0 _ 4 32 Tryz.underlying81 hi hz0 hz1 hz2 rfl (by omega) _ bk0.length (rCells bk0) rfl (HSv1.out.own.alloc _) _ _ 1 1 [.int .i64 x, .int .i64 y, .int .i64 x', .int .i64 y] rfl ⟨rfl, fun _ => ⟨_, rfl, Nat.lt_succ_self _, fun j u hu => (by exact news_any _ _ _ j u hu)⟩⟩ (by simp [Value.oneCell']) (by simp only [maxLen]; omega) (by omega) (by have := HSv1.out.bel.size; simp; omega) ?_
                           intro v5 w5 hown5 hg5 hat5
                           have Hnew : Hid (EdgeSt w1 w5 v5 bk1 g1 g2 g3 g4 x x' y y') := Lib.hid ((HSv1.out.below (by exact (by repeat' (first | with_reducible exact Below.refl _ _ | with_reducible refine below_drewN ?_ _ | with_reducible refine Below.drew ?_ | with_reducible refine Below.alloc ?_ ?_ _ | with_reducible refine Below.setCell ?_ ?_ _ | with_reducible refine Below.trans ?_ (Below.mono (by with_reducible assumption) ?_) | (simp; done) | (simp; omega) | omega)))).more hg5 (by rw [Hmore.out, List.length_append, rCells_snoc]; exact hown5) hat5)
                           clear hown5 hg5 hat5)
                        | fail)
                      go_meet
                      case rel => exact Hnew.out
                  case rest =>
                    obtain ⟨y1w, rfl⟩ : ∃ wx : World, wx = wc := ⟨_, rfl⟩
                    obtain ⟨o1, rfl⟩ : ∃ o, o = u7 := ⟨_, rfl⟩
                    have HSt1 := Lib.hid hcut
                    clear hcut HSv1
                    have cA2 : y1w.cell? ⟨w.heap.size, 0, none⟩ = some (.slice A n c) := (HSt1.out.bel.cell (p := ⟨w.heap.size, 0, none⟩) hsw1).trans Hc1.out
                    go_upto_if 118 with (first
                      | (go_at_call 82
                         refine (HI2.out _ HSt1.out.bel).mono ?_
                         rintro e v2w ⟨rfl, hbv⟩
                         have HSv2 := Lib.hid (HSt1.out.below hbv)
                         clear hbv cA2)
                      | fail)
                    obtain ⟨bk2, hbk2⟩ : ∃ b, bk1 ++ (if q2 then [] else [⟨x', y, x', y'⟩]) = b := ⟨_, rfl⟩
                    have Hbk2 := Lib.hid hbk2
                    have hbl2 : bk2.length ≤ 230402 := by rw [← hbk2, List.length_append]; cases q2 <;> simp <;> omega
                    clear hbk2
                    go_cut [7] (fun o wx => EdgeSt w1 wx o bk2 g1 g2 g3 g4 x x' y y')
                    case first =>
                      have r00 := cell_of_row v2w g1 0 _ _ _ HSv2.out.p1
                      have r01 := cell_of_row v2w g1 1 _ _ _ HSv2.out.p1
                      have r10 := cell_of_row v2w g2 0 _ _ _ HSv2.out.p2
                      have r11 := cell_of_row v2w g2 1 _ _ _ HSv2.out.p2
                      have r20 := cell_of_row v2w g3 0 _ _ _ HSv2.out.p3
                      have r21 := cell_of_row v2w g3 1 _ _ _ HSv2.out.p3
                      have r30 := cell_of_row v2w g4 0 _ _ _ HSv2.out.p4
                      have r31 := cell_of_row v2w g4 1 _ _ _ HSv2.out.p4
                      cases q2
                      case true =>
                        have Hsame : Hid (bk2 = bk1) := Lib.hid (by rw [← Hbk2.out]; simp)
                        go_wp2
                        go_meet
                        case rel => rw [Hsame.out]; exact HSv2.out
                      case false =>
                        have Hmore : Hid (bk2 = bk1 ++ [⟨x', y, x', y'⟩]) := Lib.hid (by rw [← Hbk2.out]; simp)
                        go_wp2_with (first
                          | (at_builtin
                             refine wpList_append_any _ rfl (.tmp 119) (.tmp 123) _ rfl w1.heap.size 85 i0 _ 4 32 Tryz.underlying81 hi hz0 hz1 hz2 rfl (by omega) _ bk1.length (rCells bk1) rfl (HSv2.out.own.alloc _) _ _ 1 1 [.int .i64 x', .int .i64 y, .int .i64 x', .int .i64 y'] rfl ⟨rfl, fun _ => ⟨_, rfl, Nat.lt_succ_self _, fun j u hu => (by exact news_any _ _ _ j u hu)⟩⟩ (by simp [Value.oneCell']) (by simp only [maxLen]; omega) (by omega) (by have := HSv2.out.bel.size; simp; omega) ?_
                             intro v5 w5 hown5 hg5 hat5
                             have Hnew : Hid (EdgeSt w1 w5 v5 bk2 g1 g2 g3 g4 x x' y y') := Lib.hid ((HSv2.out.below (by exact (by repeat' (first | with_reducible exact Below.refl _ _ | with_reducible refine below_drewN ?_ _ | with_reducible refine Below.drew ?_ | with_reducible refine Below.alloc ?_ ?_ _ | with_reducible refine Below.setCell ?_ ?_ _ | with_reducible refine Below.trans ?_ (Below.mono (by with_reducible assumption) ?_) | (simp; done) | (simp; omega) | omega)))).more hg5 (by rw [Hmore.out, List.length_append, rCells_snoc]; exact hown5) hat5)
                             clear hown5 hg5 hat5)
                          | fail)
                        go_meet
                        case rel => exact Hnew.out
                    case rest =>
                      obtain ⟨y2w, rfl⟩ : ∃ wx : World, wx = wc := ⟨_, rfl⟩
                      obtain ⟨o2, rfl⟩ : ∃ o, o = u7 := ⟨_, rfl⟩
                      have HSt2 := Lib.hid hcut
                      clear hcut HSv2
                      have cA3 : y2w.cell? ⟨w.heap.size, 0, none⟩ = some (.slice A n c) := (HSt2.out.bel.cell (p := ⟨w.heap.size, 0, none⟩) hsw1).trans Hc1.out
                      go_upto_if 132 with (first
                        | (go_at_call 82
                           refine (HI3.out _ HSt2.out.bel).mono ?_
                           rintro e v3w ⟨rfl, hbv⟩
                           have HSv3 := Lib.hid (HSt2.out.below hbv)
                           clear hbv cA3)
                        | fail)
                      obtain ⟨bk3, hbk3⟩ : ∃ b, bk2 ++ (if q3 then [] else [⟨x', y', x, y'⟩]) = b := ⟨_, rfl⟩
                      have Hbk3 := Lib.hid hbk3
                      have hbl3 : bk3.length ≤ 230403 := by rw [← hbk3, List.length_append]; cases q3 <;> simp <;> omega
                      clear hbk3
                      go_cut [7] (fun o wx => EdgeSt w1 wx o bk3 g1 g2 g3 g4 x x' y y')
                      case first =>
                        have r00 := cell_of_row v3w g1 0 _ _ _ HSv3.out.p1
                        have r01 := cell_of_row v3w g1 1 _ _ _ HSv3.out.p1
                        have r10 := cell_of_row v3w g2 0 _ _ _ HSv3.out.p2
                        have r11 := cell_of_row v3w g2 1 _ _ _ HSv3.out.p2
                        have r20 := cell_of_row v3w g3 0 _ _ _ HSv3.out.p3
                        have r21 := cell_of_row v3w g3 1 _ _ _ HSv3.out.p3
                        have r30 := cell_of_row v3w g4 0 _ _ _ HSv3.out.p4
                        have r31 := cell_of_row v3w g4 1 _ _ _ HSv3.out.p4
                        cases q3
                        case true =>
                          have Hsame : Hid (bk3 = bk2) := Lib.hid (by rw [← Hbk3.out]; simp)
                          go_wp2
                          go_meet
                          case rel => rw [Hsame.out]; exact HSv3.out
                        case false =>
                          have Hmore : Hid (bk3 = bk2 ++ [⟨x', y', x, y'⟩]) := Lib.hid (by rw [← Hbk3.out]; simp)
                          go_wp2_with (first
                            | (at_builtin
                               refine wpList_append_any _ rfl (.tmp 133) (.tmp 137) _ rfl w1.heap.size 85 i0 _ 4 32 Tryz.underlying81 hi hz0 hz1 hz2 rfl (by omega) _ bk2.length (rCells bk2) rfl (HSv3.out.own.alloc _) _ _ 1 1 [.int .i64 x', .int .i64 y', .int .i64 x, .int .i64 y'] rfl ⟨rfl, fun _ => ⟨_, rfl, Nat.lt_succ_self _, fun j u hu => (by exact news_any _ _ _ j u hu)⟩⟩ (by simp [Value.oneCell']) (by simp only [maxLen]; omega) (by omega) (by have := HSv3.out.bel.size; simp; omega) ?_
                               intro v5 w5 hown5 hg5 hat5
                               have Hnew : Hid (EdgeSt w1 w5 v5 bk3 g1 g2 g3 g4 x x' y y') := Lib.hid ((HSv3.out.below (by exact (by repeat' (first | with_reducible exact Below.refl _ _ | with_reducible refine below_drewN ?_ _ | with_reducible refine Below.drew ?_ | with_reducible refine Below.alloc ?_ ?_ _ | with_reducible refine Below.setCell ?_ ?_ _ | with_reducible refine Below.trans ?_ (Below.mono (by with_reducible assumption) ?_) | (simp; done) | (simp; omega) | omega)))).more hg5 (by rw [Hmore.out, List.length_append, rCells_snoc]; exact hown5) hat5)
                               clear hown5 hg5 hat5)
                            | fail)
                          go_meet
                          case rel => exact Hnew.out
                      case rest =>
                        obtain ⟨y3w, rfl⟩ : ∃ wx : World, wx = wc := ⟨_, rfl⟩
                        obtain ⟨o3, rfl⟩ : ∃ o, o = u7 := ⟨_, rfl⟩
                        have HSt3 := Lib.hid hcut
                        clear hcut HSv3
                        have cA4 : y3w.cell? ⟨w.heap.size, 0, none⟩ = some (.slice A n c) := (HSt3.out.bel.cell (p := ⟨w.heap.size, 0, none⟩) hsw1).trans Hc1.out
                        go_upto_if 146 with (first
                          | (go_at_call 82
                             refine (HI4.out _ HSt3.out.bel).mono ?_
                             rintro e v4w ⟨rfl, hbv⟩
                             have HSv4 := Lib.hid (HSt3.out.below hbv)
                             clear hbv cA4)
                          | fail)
                        obtain ⟨bk4, hbk4⟩ : ∃ b, bk3 ++ (if q4 then [] else [⟨x, y', x, y⟩]) = b := ⟨_, rfl⟩
                        have Hbk4 := Lib.hid hbk4
                        have hbl4 : bk4.length ≤ 230404 := by rw [← hbk4, List.length_append]; cases q4 <;> simp <;> omega
                        clear hbk4
                        have r00 := cell_of_row v4w g1 0 _ _ _ HSv4.out.p1
                        have r01 := cell_of_row v4w g1 1 _ _ _ HSv4.out.p1
                        have r10 := cell_of_row v4w g2 0 _ _ _ HSv4.out.p2
                        have r11 := cell_of_row v4w g2 1 _ _ _ HSv4.out.p2
                        have r20 := cell_of_row v4w g3 0 _ _ _ HSv4.out.p3
                        have r21 := cell_of_row v4w g3 1 _ _ _ HSv4.out.p3
                        have r30 := cell_of_row v4w g4 0 _ _ _ HSv4.out.p4
                        have r31 := cell_of_row v4w g4 1 _ _ _ HSv4.out.p4
                        cases q4
                        case true =>
                          have Hsame : Hid (bk4 = bk3) := Lib.hid (by rw [← Hbk4.out]; simp)
                          have HSx : Hid (EdgeSt w1 v4w o3 bk4 g1 g2 g3 g4 x x' y y') := Lib.hid (by rw [Hsame.out]; exact HSv4.out)
                          go_wp2
                          go_roundw
                          case rel =>
                            refine ⟨i + 1, by omega, by go_num, ?_, HSx.out.bel⟩
                            have e : dn ++ colsE l xs ys k (i + 1) = bk4 := by rw [HCs.out, Hcell.out, ← List.append_assoc, Hbke.out, Hbk0.out, ← Hbk4.out, ← Hbk3.out, ← Hbk2.out, ← Hbk1.out]; simp only [List.append_assoc]
                            rw [e]
                            exact HSx.out.own
                          case measure => simp [intOf]; omega
                        case false =>
                          have Hmore : Hid (bk4 = bk3 ++ [⟨x, y', x, y⟩]) := Lib.hid (by rw [← Hbk4.out]; simp)
                          go_wp2_with (first
                            | (at_builtin
                               refine wpList_append_any _ rfl (.tmp 147) (.tmp 151) _ rfl w1.heap.size 85 i0 _ 4 32 Tryz.underlying81 hi hz0 hz1 hz2 rfl (by omega) _ bk3.length (rCells bk3) rfl (HSv4.out.own.alloc _) _ _ 1 1 [.int .i64 x, .int .i64 y', .int .i64 x, .int .i64 y] rfl ⟨rfl, fun _ => ⟨_, rfl, Nat.lt_succ_self _, fun j u hu => (by exact news_any _ _ _ j u hu)⟩⟩ (by simp [Value.oneCell']) (by simp only [maxLen]; omega) (by omega) (by have := HSv4.out.bel.size; simp; omega) ?_
                               intro v5 w5 hown5 hg5 hat5
                               have Hnew : Hid (EdgeSt w1 w5 v5 bk4 g1 g2 g3 g4 x x' y y') := Lib.hid ((HSv4.out.below (by exact (by repeat' (first | with_reducible exact Below.refl _ _ | with_reducible refine below_drewN ?_ _ | with_reducible refine Below.drew ?_ | with_reducible refine Below.alloc ?_ ?_ _ | with_reducible refine Below.setCell ?_ ?_ _ | with_reducible refine Below.trans ?_ (Below.mono (by with_reducible assumption) ?_) | (simp; done) | (simp; omega) | omega)))).more hg5 (by rw [Hmore.out, List.length_append, rCells_snoc]; exact hown5) hat5)
                               clear hown5 hg5 hat5)
                            | fail)
                          go_roundw
                          case rel =>
                            refine ⟨i + 1, by omega, by go_num, ?_, Hnew.out.bel⟩
                            have e : dn ++ colsE l xs ys k (i + 1) = bk4 := by rw [HCs.out, Hcell.out, ← List.append_assoc, Hbke.out, Hbk0.out, ← Hbk4.out, ← Hbk3.out, ← Hbk2.out, ← Hbk1.out]; simp only [List.append_assoc]
                            rw [e]
                            exact Hnew.out.own
                          case measure => simp [intOf]; omega
            · have hin' : ¬ (i : Int) + 1 < (xs.length : Int) := by omega
              have hid' : decide ((i : Int) + 1 < (xs.length : Int)) = false := decide_eq_false hin'
              have hie : i = xs.length - 1 := by omega
              have Hown6 : Hid (wp.ownsRow w1.heap.size 85 4 up (rowsE l xs ys (k + 1)).length (rCells (rowsE l xs ys (k + 1)))) := Lib.hid (by rw [HTs.out, Hdn.out, ← hie]; exact Hownp.out)
              clear hown hbp hie
              go_wp2
              go_roundw
              case rel => exact ⟨k + 1, by omega, by go_num, Hown6.out, Hbp.out⟩
              case measure => simp [intOf]; omega
        · have hkn' : ¬ (k : Int) + 1 < (ys.length : Int) := by omega
          have hkd : decide ((k : Int) + 1 < (ys.length : Int)) = false := decide_eq_false hkn'
          have hke : k = ys.length - 1 := by omega
          have Hown6 : Hid (wo.ownsRow w1.heap.size 85 4 uo res.length (rCells res)) := Lib.hid (by rw [Hres.out, ← hke]; exact Hown.out)
          clear hown hbo hke
          go_wp2
          go_ret
          exact ⟨_, rfl, own_rebase Hown6.out (Nat.le_of_lt hsw1), Hbw1.out.trans (Hbo.out.mono (Nat.le_of_lt hsw1))⟩
end Go.Proofs.YtpcfhcdbibklcaaGreat
namespace Go.Proofs.YtpcfhcdbibklcaaGreat
open Go.RowKit
set_option linter.unusedVariables false
set_option linter.unusedSimpArgs false

/-- A region in a block. -/
structure Bx where
  g : Nat
  A : Option Addr
  n : Nat
  c : Nat
  l : List R4
structure RB (W : World) (x : Bx) : Prop where
  b : W.heap[x.g]? = some (.cells #[.slice x.A x.n x.c] 25 (0, 0))
  sl : SlR W x.A x.n x.c x.l
theorem RB.lt {W : World} {x : Bx} (h : RB W x) : x.g < W.heap.size := by
  rcases Nat.lt_or_ge x.g W.heap.size with h1 | h1
  · exact h1
  · have := h.b; rw [Array.getElem?_eq_none h1] at this; cases this
theorem RB.below {W W' : World} {x : Bx} (h : RB W x) (hb : Below W.heap.size W W') : RB W' x := ⟨(hb.block _ h.lt).trans h.b, h.sl.below hb⟩
theorem RB.c0 {W : World} {x : Bx} (h : RB W x) : W.cell? ⟨x.g, 0, none⟩ = some (.slice x.A x.n x.c) := cell_of_row _ _ 0 _ _ _ h.b
/-- Regions in blocks. -/
def RBs (W : World) (L : List Bx) : Prop := ∀ x ∈ L, RB W x
theorem RBs.below {W W' : World} {L : List Bx} (h : RBs W L) (hb : Below W.heap.size W W') : RBs W' L := fun x hx => (h x hx).below hb
/-- One more, in a new block. -/
theorem RBs.push {W : World} {L : List Bx} (h : RBs W L) (D : Option Addr) (n c : Nat) (l : List R4) (hs : SlR W D n c l) : RBs (W.alloc (.cells #[.slice D n c] 25)) (⟨W.heap.size, D, n, c, l⟩ :: L) := by
  intro x hx
  rcases List.mem_cons.1 hx with rfl | hx
  · exact ⟨heap_alloc_new W _, hs.below (by repeat' (first | with_reducible exact Below.refl _ _ | with_reducible refine below_drewN ?_ _ | with_reducible refine Below.drew ?_ | with_reducible refine Below.alloc ?_ ?_ _ | with_reducible refine Below.setCell ?_ ?_ _ | with_reducible refine Below.trans ?_ (Below.mono (by with_reducible assumption) ?_) | (simp; done) | (simp; omega) | omega))⟩
  · exact (h x hx).below (by repeat' (first | with_reducible exact Below.refl _ _ | with_reducible refine below_drewN ?_ _ | with_reducible refine Below.drew ?_ | with_reducible refine Below.alloc ?_ ?_ _ | with_reducible refine Below.setCell ?_ ?_ _ | with_reducible refine Below.trans ?_ (Below.mono (by with_reducible assumption) ?_) | (simp; done) | (simp; omega) | omega))

end Go.Proofs.YtpcfhcdbibklcaaGreat
namespace Go.Proofs.YtpcfhcdbibklcaaGreat
open Go.RowKit
set_option linter.unusedVariables false
set_option linter.unusedSimpArgs false

set_option maxHeartbeats 8000000 in
set_option maxRecDepth 100000 in
theorem validR_any (A : Option Addr) (n c : Nat) (l : List R4) (w : World) (hA : SlR w A n c l) :
    Calls Tryz.prog 30 #[.agg #[.slice A n c]] w fun e w' => e = .returned (.bool (validP l)) ∧ Below w.heap.size w w' := by
  have hn := hA.len
  have HA := Lib.hid hA
  clear hA
  by_cases hbig : 120 < n
  · have hv : validP l = false := by unfold validP; rw [decide_eq_false (by omega)]; rfl
    have hb' : (120 : Int) < (n : Int) := by omega
    rw [hv]
    clear hv
    go_enter Tryz.func30, Tryz.ntmps30
    go_wp2
    go_ret
    exact ⟨rfl, (by repeat' (first | with_reducible exact Below.refl _ _ | with_reducible refine below_drewN ?_ _ | with_reducible refine Below.drew ?_ | with_reducible refine Below.alloc ?_ ?_ _ | with_reducible refine Below.setCell ?_ ?_ _ | with_reducible refine Below.trans ?_ (Below.mono (by with_reducible assumption) ?_) | (simp; done) | (simp; omega) | omega))⟩
  · have hb' : ¬ (120 : Int) < (n : Int) := by omega
    have Hv : Hid (validP l = (l.all R4.ok && decide (canonP l = l))) := Lib.hid (by unfold validP; rw [decide_eq_true (by omega)]; rfl)
    generalize validP l = res at *
    go_enter Tryz.func30, Tryz.ntmps30
    go_upto_region 4 with fail
    obtain ⟨w0, hw0⟩ : ∃ w0 : World, w0 = w.alloc (.cells #[.slice A n c] 25) := ⟨_, rfl⟩
    rw [← hw0]
    have hr0 : w0.heap[w.heap.size]? = some (.cells #[.slice A n c] 25 (0, 0)) := by rw [hw0]; exact heap_alloc_new w _
    have hs0 : w.heap.size < w0.heap.size := by rw [hw0]; simp
    have Hb0 : Hid (Below w.heap.size w w0) := Lib.hid (by rw [hw0]; exact (by repeat' (first | with_reducible exact Below.refl _ _ | with_reducible refine below_drewN ?_ _ | with_reducible refine Below.drew ?_ | with_reducible refine Below.alloc ?_ ?_ _ | with_reducible refine Below.setCell ?_ ?_ _ | with_reducible refine Below.trans ?_ (Below.mono (by with_reducible assumption) ?_) | (simp; done) | (simp; omega) | omega)))
    have Hr0 := Lib.hid hr0
    clear hw0 hr0
    go_loopw [4, 12] (fun _ i wr => ∃ k : Nat, k ≤ n ∧ i = .int .i64 (k : Int) ∧ Hid ((l.take k).all R4.ok = true) ∧ Below w0.heap.size w0 wr) (fun _ i _ => n - (intOf i).toNat)
    case atStart => exact ⟨0, Nat.zero_le _, rfl, Lib.hid rfl, Below.refl _ _⟩
    case round =>
      obtain ⟨k, hk, rfl, Hall, hbr⟩ := hrel
      have hsr := hbr.size
      have hwr : Below w.heap.size w wr := Hb0.out.trans (hbr.mono (by omega))
      have Hwr := Lib.hid hwr
      have Hbr := Lib.hid hbr
      by_cases hkn : k < n
      · have hl : k < l.length := by omega
        obtain ⟨b, off, rfl, hbl, c0, c1, c2, c3⟩ := (HA.out.below hwr).at k hl
        have Hs := Lib.hid (all_take_succ l R4.ok k hl)
        have Hno : Hid (l[k].ok = false → res = false) := Lib.hid (fun h => by
          rw [Hv.out]
          have : l.all R4.ok = false := by
            cases h2 : l.all R4.ok with
            | false => rfl
            | true =>
              rw [List.all_eq_true] at h2
              rw [h2 l[k] (List.getElem_mem hl)] at h
              cases h
          rw [this]; rfl)
        have hkn' : (k : Int) < (n : Int) := by omega
        generalize l[k] = q at *
        have Hpr := Lib.hid (fun W => properR_any q W)
        cases hq : q.ok with
        | true =>
          rw [hq] at Hs Hpr
          clear hwr hbr
          go_wp2_with (first | (go_at_call 63; refine (Hpr.out _).mono ?_; rintro e w2 ⟨rfl, hb2⟩; have hs2 := hb2.size; simp at hs2) | fail)
          go_roundw
          case rel => exact ⟨k + 1, by omega, by go_num, Lib.hid (by rw [Hs.out, Hall.out]; rfl), by have h1 := Hbr.out; exact (by repeat' (first | with_reducible exact Below.refl _ _ | with_reducible assumption | with_reducible refine below_drewN ?_ _ | with_reducible refine Below.drew ?_ | with_reducible refine Below.alloc ?_ ?_ _ | with_reducible refine Below.setCell ?_ ?_ _ | with_reducible refine Below.trans ?_ (Below.mono (by with_reducible assumption) ?_) | with_reducible refine below_only ?_ (by with_reducible assumption) ?_ ?_ | (simp; done) | (simp; omega) | omega))⟩
          case measure => simp [intOf]; omega
        | false =>
          rw [hq] at Hs Hpr
          have Hres := Lib.hid (Hno.out hq)
          clear hwr hbr
          go_wp2_with (first | (go_at_call 63; refine (Hpr.out _).mono ?_; rintro e w2 ⟨rfl, hb2⟩; have hs2 := hb2.size; simp at hs2) | fail)
          go_ret
          exact ⟨by rw [Hres.out]; rfl, by have h1 := Hwr.out; exact (by repeat' (first | with_reducible exact Below.refl _ _ | with_reducible assumption | with_reducible refine below_drewN ?_ _ | with_reducible refine Below.drew ?_ | with_reducible refine Below.alloc ?_ ?_ _ | with_reducible refine Below.setCell ?_ ?_ _ | with_reducible refine Below.trans ?_ (Below.mono (by with_reducible assumption) ?_) | with_reducible refine below_only ?_ (by with_reducible assumption) ?_ ?_ | (simp; done) | (simp; omega) | omega))⟩
      · have hall : l.all R4.ok = true := by have := Hall.out; rw [List.take_of_length_le (by omega)] at this; exact this
        have Hpos := Lib.hid (ok_pos hall)
        have Hv2 : Hid (res = decide (combP (· || ·) l [] = l)) := Lib.hid (by rw [Hv.out, hall, canonP_comb l Hpos.out]; rfl)
        have Hcomb := Lib.hid (fun W (hW : SlR W A n c l) => combineR_any A none n c 0 0 l [] 1 W hW (SlR.nil W) (by omega))
        rw [howR_or] at Hcomb
        have hkn' : ¬ (k : Int) < (n : Int) := by omega
        have HAr := Lib.hid (HA.out.below Hwr.out)
        generalize combP (· || ·) l [] = cl at *
        have hr1 : wr.heap[w.heap.size]? = some (.cells #[.slice A n c] 25 (0, 0)) := (hbr.block _ hs0).trans Hr0.out
        have cr := cell_of_row wr w.heap.size 0 _ _ _ hr1
        have hsz0 : w.heap.size < wr.heap.size := by omega
        have hsz1 : w.heap.size ≤ wr.heap.size := by omega
        clear hwr hbr hall hr1
        go_upto_region 9 with fail
        go_region_held3 (fun w' => w'.cell? ⟨w.heap.size, 0, none⟩ = some (.slice A n c))
          (first | go_keep | exact (Hb2.out.cell (p := ⟨w.heap.size, 0, none⟩) hsz0).trans cr)
          (first
            | (go_at_call 59
               refine (Hcomb.out _ (HAr.out.below (Below.mono (by repeat' (first | with_reducible exact Below.refl _ _ | with_reducible refine below_drewN ?_ _ | with_reducible refine Below.drew ?_ | with_reducible refine Below.alloc ?_ ?_ _ | with_reducible refine Below.setCell ?_ ?_ _ | with_reducible refine Below.trans ?_ (Below.mono (by with_reducible assumption) ?_) | (simp; done) | (simp; omega) | omega)) (Nat.le_refl _)))).mono ?_
               rintro e w2 ⟨v2, rfl, hown2, hb2⟩
               obtain ⟨C, cc, rfl, hC⟩ := SlR.of_own hown2
               have HC := Lib.hid hC
               have Hb2 : Hid (Below wr.heap.size wr w2) := Lib.hid (show Below wr.heap.size wr w2 from (by have hbq := hb2; exact (by repeat' (first | with_reducible exact Below.refl _ _ | with_reducible assumption | with_reducible refine below_drewN ?_ _ | with_reducible refine Below.drew ?_ | with_reducible refine Below.alloc ?_ ?_ _ | with_reducible refine Below.setCell ?_ ?_ _ | with_reducible refine Below.trans ?_ (Below.mono (by with_reducible assumption) ?_) | with_reducible refine below_only ?_ (by with_reducible assumption) ?_ ?_ | (simp; done) | (simp; omega) | omega))))
               have cg2 := (Hb2.out.cell (p := ⟨w.heap.size, 0, none⟩) hsz0).trans cr
               clear hown2 hb2 hC)
            | (go_at_call 60
               refine (rectsR_any C A cl.length cc n c cl l _ (HC.out.below (by repeat' (first | with_reducible exact Below.refl _ _ | with_reducible refine below_drewN ?_ _ | with_reducible refine Below.drew ?_ | with_reducible refine Below.alloc ?_ ?_ _ | with_reducible refine Below.setCell ?_ ?_ _ | with_reducible refine Below.trans ?_ (Below.mono (by with_reducible assumption) ?_) | (simp; done) | (simp; omega) | omega))) (HAr.out.below (Hb2.out.trans (Below.mono (by repeat' (first | with_reducible exact Below.refl _ _ | with_reducible refine below_drewN ?_ _ | with_reducible refine Below.drew ?_ | with_reducible refine Below.alloc ?_ ?_ _ | with_reducible refine Below.setCell ?_ ?_ _ | with_reducible refine Below.trans ?_ (Below.mono (by with_reducible assumption) ?_) | (simp; done) | (simp; omega) | omega)) Hb2.out.size)))).mono ?_
               rintro e w3 ⟨rfl, hb3⟩
               rw [← Hv2.out]
               have Hb3 : Hid (Below w2.heap.size w2 w3) := Lib.hid (show Below w2.heap.size w2 w3 from (by have hbq := hb3; exact (by repeat' (first | with_reducible exact Below.refl _ _ | with_reducible assumption | with_reducible refine below_drewN ?_ _ | with_reducible refine Below.drew ?_ | with_reducible refine Below.alloc ?_ ?_ _ | with_reducible refine Below.setCell ?_ ?_ _ | with_reducible refine Below.trans ?_ (Below.mono (by with_reducible assumption) ?_) | with_reducible refine below_only ?_ (by with_reducible assumption) ?_ ?_ | (simp; done) | (simp; omega) | omega))))
               have cg3 := (Hb3.out.cell (p := ⟨w.heap.size, 0, none⟩) (Nat.lt_of_lt_of_le hsz0 Hb2.out.size)).trans cg2
               clear hb3)
            | fail)
        all_goals go_wp2
        all_goals go_ret
        all_goals exact ⟨by first | rfl | simp, Hwr.out.trans ((Hb2.out.trans (Hb3.out.mono Hb2.out.size)).mono hsz1)⟩

end Go.Proofs.YtpcfhcdbibklcaaGreat
namespace Go.Proofs.YtpcfhcdbibklcaaGreat
open Go.RowKit
set_option linter.unusedVariables false
set_option linter.unusedSimpArgs false

end Go.Proofs.YtpcfhcdbibklcaaGreat
namespace Go.Proofs.YtpcfhcdbibklcaaGreat
open Go.RowKit
set_option linter.unusedVariables false
set_option linter.unusedSimpArgs false

set_option maxHeartbeats 1000000 in
theorem sameRef_any (A B : Option Addr) (n c m d : Nat) (l k : List R4) (w : World) (hA : SlR w A n c l) (hB : SlR w B m d k) :
    Calls Tryz.prog 20 #[.agg #[.slice A n c], .agg #[.slice B m d]] w fun e w' => e = .returned (.bool (decide (l = k))) ∧ Below w.heap.size w w' := by
  have HA := Lib.hid hA
  have HB := Lib.hid hB
  clear hA hB
  generalize hx : decide (l = k) = x
  have Hx := Lib.hid hx
  clear hx
  go_enter Tryz.func20, Tryz.ntmps20
  go_wp2_with (first | (go_at_call 60; refine (rectsR_any A B n c m d l k _ (HA.out.below (by repeat' (first | with_reducible exact Below.refl _ _ | with_reducible refine below_drewN ?_ _ | with_reducible refine Below.drew ?_ | with_reducible refine Below.alloc ?_ ?_ _ | with_reducible refine Below.setCell ?_ ?_ _ | with_reducible refine Below.trans ?_ (Below.mono (by with_reducible assumption) ?_) | (simp; done) | (simp; omega) | omega))) (HB.out.below (by repeat' (first | with_reducible exact Below.refl _ _ | with_reducible refine below_drewN ?_ _ | with_reducible refine Below.drew ?_ | with_reducible refine Below.alloc ?_ ?_ _ | with_reducible refine Below.setCell ?_ ?_ _ | with_reducible refine Below.trans ?_ (Below.mono (by with_reducible assumption) ?_) | (simp; done) | (simp; omega) | omega)))).mono ?_; rintro e w1 ⟨rfl, hb1⟩; rw [Hx.out]) | fail)
  go_ret
  exact ⟨rfl, (by repeat' (first | with_reducible exact Below.refl _ _ | with_reducible assumption | with_reducible refine below_drewN ?_ _ | with_reducible refine Below.drew ?_ | with_reducible refine Below.alloc ?_ ?_ _ | with_reducible refine Below.setCell ?_ ?_ _ | with_reducible refine Below.trans ?_ (Below.mono (by with_reducible assumption) ?_) | with_reducible refine below_only ?_ (by with_reducible assumption) ?_ ?_ | (simp; done) | (simp; omega) | omega))⟩
end Go.Proofs.YtpcfhcdbibklcaaGreat
